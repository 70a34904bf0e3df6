/- Elder lines: a line is so just if one of its options is; the law PlusMeans. -/
import Derived.Test.YtjndccjpjknbkaaDoorPurePlusLines
import Derived.Test.YtjndccjpjknbkaaDoorMpb
namespace Go.Proofs.YtjndccjpjknbkaaDoor.PurePl
open Go.RowKit Go.Proofs.YtjndccjpjknbkaaDoor.PPl Go.Proofs.YtjndccjpjknbkaaDoorW.PrintWords Go.Proofs.YtjndccjpjknbkaaDoorW.PrintLast Go.Proofs.YtjndccjpjknbkaaDoorW.PrintMore Go.Proofs.YtjndccjpjknbkaaDoor.BytesLib Go.Proofs.YtjndccjpjknbkaaDoor.ExLib Go.Proofs.YtjndccjpjknbkaaDoor.ExNode Go.Proofs.YtjndccjpjknbkaaDoor.ExTag Go.Proofs.YtjndccjpjknbkaaDoor.ExSem Go.Proofs.YtjndccjpjknbkaaDoor.ExLaw Go.Proofs.YtjndccjpjknbkaaDoor.ExLaw2 Go.Proofs.YtjndccjpjknbkaaDoor.ExLaw3 Go.Proofs.YtjndccjpjknbkaaDoor.ExBoth Go.Proofs.YtjndccjpjknbkaaDoor.PlJoin Go.Proofs.YtjndccjpjknbkaaDoor.PlLine Go.Proofs.YtjndccjpjknbkaaDoor.PlSplit
open Go.Proofs.YtjndccjpjknbkaaDoor.ExCheck (checkF)
set_option linter.unusedVariables false

/-! ### What a join answers, its parts unchecked -/
theorem joinL_runK (tg : ByteArray → Bool) {one : ByteArray → List Nd} {k : Int} {M : Nat} (hk : k = 2 ∨ k = 3) : ∀ (ls : List ByteArray) (acc : List Nd) (da : Int), (∀ s ∈ ls, one s ≠ [] → ∃ dp, Ex (one s) dp) → (∀ s ∈ ls, (one s).length ≤ M) → acc.length + ls.length * (M + 1) ≤ 1000000 → Ex acc da → joinL one k ls acc ≠ [] → checkF (joinL one k ls acc) = 0 →
    runF tg (joinL one k ls acc) = (if k = 2 then (runF tg acc && ls.all fun s => runF tg (one s)) else (runF tg acc || ls.any fun s => runF tg (one s))) ∧ checkF acc = 0 ∧ ∀ s ∈ ls, one s ≠ [] ∧ checkF (one s) = 0
  | [], acc, da, _, _, _, _, _, hc => by
    rw [joinL] at hc ⊢
    refine ⟨?_, hc, fun s hs => by cases hs⟩
    split <;> simp
  | s :: r, acc, da, g1, g2, hb, h1, hn, hc => by
    rw [joinL] at hn
    by_cases hs : one s = []
    · rw [if_pos hs] at hn; exact absurd rfl hn
    · rw [if_neg hs] at hn
      have e1 : joinL one k (s :: r) acc = joinL one k r (bothN k acc (one s)) := by rw [joinL, if_neg hs]
      rw [e1] at hc ⊢
      obtain ⟨dd, hE⟩ := g1 s List.mem_cons_self hs
      have h3 := g2 s List.mem_cons_self
      rw [List.length_cons, Nat.add_mul, Nat.one_mul] at hb
      have hX := ex_both2 hk h1 hE (by omega) (by omega)
      obtain ⟨r1, r2, r3⟩ := joinL_runK tg hk r (bothN k acc (one s)) (1 + max da dd) (fun x hx => g1 x (List.mem_cons_of_mem _ hx)) (fun x hx => g2 x (List.mem_cons_of_mem _ hx)) (by rw [bothN_len]; omega) hX hn hc
      have hok := (ex_ok hX).1 r2
      rw [bothN_len] at hok
      have c1 : checkF acc = 0 := (ex_ok h1).2 ⟨by omega, by omega⟩
      have c2 : checkF (one s) = 0 := (ex_ok hE).2 ⟨by omega, by omega⟩
      refine ⟨?_, c1, fun x hx => ?_⟩
      · rw [r1, run_both tg c1 c2]
        rcases hk with rfl | rfl
        · rw [if_pos rfl, if_pos rfl, if_neg (by decide), if_neg (by decide), if_pos rfl, List.all_cons, Bool.and_assoc]
        · rw [if_neg (by decide), if_neg (by decide), if_neg (by decide), if_neg (by decide), if_neg (by decide), List.any_cons, Bool.or_assoc]
      · rcases List.mem_cons.1 hx with rfl | hx
        · exact ⟨hs, c2⟩
        · exact r3 x hx
theorem joinF_runK (tg : ByteArray → Bool) {one : ByteArray → List Nd} {k : Int} {M : Nat} (hk : k = 2 ∨ k = 3) (ls : List ByteArray) (g1 : ∀ s ∈ ls, one s ≠ [] → ∃ dp, Ex (one s) dp) (g2 : ∀ s ∈ ls, (one s).length ≤ M) (hb : ls.length * (M + 1) ≤ 1000000) (hn : joinF one k ls ≠ []) (hc : checkF (joinF one k ls) = 0) :
    runF tg (joinF one k ls) = (if k = 2 then (ls.all fun s => runF tg (one s)) else (ls.any fun s => runF tg (one s))) ∧ ∀ s ∈ ls, one s ≠ [] ∧ checkF (one s) = 0 := by
  cases ls with
  | nil => exact absurd rfl hn
  | cons s r =>
    have e : joinF one k (s :: r) = if one s = [] then [] else joinL one k r (one s) := rfl
    rw [e] at hn hc ⊢
    by_cases hs : one s = []
    · rw [if_pos hs] at hn; exact absurd rfl hn
    · rw [if_neg hs] at hn hc ⊢
      have h3 := g2 s List.mem_cons_self
      obtain ⟨dd, hE⟩ := g1 s List.mem_cons_self hs
      rw [List.length_cons, Nat.add_mul, Nat.one_mul] at hb
      obtain ⟨r1, r2, r3⟩ := joinL_runK tg hk r (one s) dd (fun x hx => g1 x (List.mem_cons_of_mem _ hx)) (fun x hx => g2 x (List.mem_cons_of_mem _ hx)) (by omega) hE hn hc
      refine ⟨r1, fun x hx => ?_⟩
      rcases List.mem_cons.1 hx with rfl | hx
      · exact ⟨hs, r2⟩
      · exact r3 x hx
theorem joinF_some {one : ByteArray → List Nd} {k : Int} {ls : List ByteArray} (h0 : ls ≠ []) (h : ∀ s ∈ ls, one s ≠ []) : joinF one k ls ≠ [] := by
  have hL : ∀ (r : List ByteArray) (acc : List Nd), acc ≠ [] → (∀ s ∈ r, one s ≠ []) → joinL one k r acc ≠ [] := by
    intro r
    induction r with
    | nil => intro acc ha _; exact ha
    | cons s r ih =>
      intro acc ha h
      rw [joinL, if_neg (h s List.mem_cons_self)]
      exact ih _ (bothN_ne _ _ _) (fun x hx => h x (List.mem_cons_of_mem _ hx))
  cases ls with
  | nil => exact absurd rfl h0
  | cons s r =>
    rw [joinF, if_neg (h s List.mem_cons_self)]
    exact hL r _ (h s List.mem_cons_self) (fun x hx => h x (List.mem_cons_of_mem _ hx))

/-! ### The text that the law writes -/
def NAMES : List ByteArray := [⟨#[97]⟩, ⟨#[98]⟩, ⟨#[99]⟩, ⟨#[100]⟩]
def nmB (c : Int) : ByteArray := rdOf ByteArray.empty NAMES (Int.tmod (wrap64 c) 4)
def tmT (c : Int) : List UInt8 := (if c ≥ 128 then [33] else []) ++ L (nmB c)
def opT : Nat → List Int → List UInt8
  | _, [] => []
  | 0, c :: r => tmT c ++ opT 1 r
  | j + 1, c :: r => 44 :: (tmT c ++ opT (j + 2) r)
def lnT : Nat → List (List Int) → List UInt8
  | _, [] => []
  | 0, o :: r => opT 0 o ++ lnT 1 r
  | j + 1, o :: r => 32 :: 32 :: (opT 0 o ++ lnT (j + 2) r)
theorem nm_cases {c : Int} (h0 : 0 ≤ c) (h1 : c ≤ 255) : 0 ≤ Int.tmod (wrap64 c) 4 ∧ Int.tmod (wrap64 c) 4 < 4 ∧ (nmB c = ⟨#[97]⟩ ∨ nmB c = ⟨#[98]⟩ ∨ nmB c = ⟨#[99]⟩ ∨ nmB c = ⟨#[100]⟩) := by
  have hw : wrap64 c = c := w64u (by omega) (by omega)
  have ht : Int.tmod c 4 = c % 4 := Int.tmod_eq_emod_of_nonneg h0
  unfold nmB
  rw [hw, ht]
  have h4 : c % 4 = 0 ∨ c % 4 = 1 ∨ c % 4 = 2 ∨ c % 4 = 3 := by omega
  refine ⟨by omega, by omega, ?_⟩
  rcases h4 with h | h | h | h <;> rw [h]
  · exact .inl rfl
  · exact .inr (.inl rfl)
  · exact .inr (.inr (.inl rfl))
  · exact .inr (.inr (.inr rfl))
def byteOk (c : Int) : Prop := 0 ≤ c ∧ c ≤ 255
/-- No byte of a term is a blank or a comma. -/
theorem tm_plain {c : Int} (hc : byteOk c) : ∀ x ∈ tmT c, blankB x = false ∧ commaB x = false := by
  obtain ⟨_, _, h⟩ := nm_cases hc.1 hc.2
  intro x hx
  unfold tmT at hx
  rcases List.mem_append.1 hx with h1 | h1
  · split at h1
    · rw [List.mem_singleton] at h1; subst h1; decide
    · cases h1
  · rcases h with h | h | h | h <;> (rw [h] at h1; have h2 : x ∈ [_] := h1; rw [List.mem_singleton] at h2; subst h2; decide)
theorem tm_ne (c : Int) (hc : byteOk c) : tmT c ≠ [] := by
  obtain ⟨_, _, h⟩ := nm_cases hc.1 hc.2
  unfold tmT
  intro e
  have h2 := (List.append_eq_nil_iff.1 e).2
  rcases h with h | h | h | h <;> (rw [h] at h2; exact absurd h2 (by decide))
theorem tm_len (c : Int) (hc : byteOk c) : (tmT c).length ≤ 2 := by
  obtain ⟨_, _, h⟩ := nm_cases hc.1 hc.2
  unfold tmT
  rw [List.length_append]
  have h1 : (if c ≥ 128 then [(33 : UInt8)] else []).length ≤ 1 := by split <;> simp
  have h2 : (L (nmB c)).length = 1 := by rcases h with h | h | h | h <;> (rw [h]; rfl)
  omega
theorem op_split : ∀ (o : List Int), o ≠ [] → (∀ c ∈ o, byteOk c) → splitP commaB (opT 0 o) = o.map tmT := by
  have h : ∀ (r : List Int) (j : Nat) (l : List UInt8), (∀ x ∈ l, commaB x = false) → (∀ c ∈ r, byteOk c) → splitP commaB (l ++ opT (j + 1) r) = l :: r.map tmT := by
    intro r
    induction r with
    | nil => intro j l hl _; rw [opT, List.append_nil, splitP_none hl]; rfl
    | cons c r ih =>
      intro j l hl hr
      rw [opT, splitP_at (by decide) _ hl, ih (j + 1) (tmT c) (fun x hx => (tm_plain (hr c List.mem_cons_self) x hx).2) (fun d hd => hr d (List.mem_cons_of_mem _ hd))]
      rfl
  intro o h0 ho
  cases o with
  | nil => exact absurd rfl h0
  | cons c r =>
    rw [opT, h r 0 (tmT c) (fun x hx => (tm_plain (ho c List.mem_cons_self) x hx).2) (fun d hd => ho d (List.mem_cons_of_mem _ hd))]
    rfl
theorem op_plain : ∀ (o : List Int) (j : Nat), (∀ c ∈ o, byteOk c) → ∀ x ∈ opT j o, blankB x = false
  | [], j, _, x, hx => by rw [opT] at hx; cases hx
  | c :: r, 0, h, x, hx => by
    rw [opT] at hx
    rcases List.mem_append.1 hx with h1 | h1
    · exact (tm_plain (h c List.mem_cons_self) x h1).1
    · exact op_plain r 1 (fun d hd => h d (List.mem_cons_of_mem _ hd)) x h1
  | c :: r, j + 1, h, x, hx => by
    rw [opT] at hx
    rcases List.mem_cons.1 hx with rfl | h0
    · decide
    rcases List.mem_append.1 h0 with h1 | h1
    · exact (tm_plain (h c List.mem_cons_self) x h1).1
    · exact op_plain r (j + 2) (fun d hd => h d (List.mem_cons_of_mem _ hd)) x h1
def goodO (o : List Int) : Prop := 0 < o.length ∧ o.length ≤ 4 ∧ ∀ c ∈ o, byteOk c
theorem op_ne {o : List Int} (h : goodO o) : opT 0 o ≠ [] := by
  obtain ⟨h0, _, h2⟩ := h
  cases o with
  | nil => cases h0
  | cons c r =>
    rw [opT]
    intro e
    exact tm_ne c (h2 c List.mem_cons_self) (List.append_eq_nil_iff.1 e).1
theorem op_len : ∀ (o : List Int) (j : Nat), (∀ c ∈ o, byteOk c) → (opT j o).length ≤ 3 * o.length
  | [], j, _ => by rw [opT]; exact Nat.zero_le _
  | c :: r, 0, h => by
    rw [opT, List.length_append, List.length_cons]
    have h1 := tm_len c (h c List.mem_cons_self)
    have h2 := op_len r 1 (fun d hd => h d (List.mem_cons_of_mem _ hd))
    omega
  | c :: r, j + 1, h => by
    rw [opT, List.length_cons, List.length_append, List.length_cons]
    have h1 := tm_len c (h c List.mem_cons_self)
    have h2 := op_len r (j + 2) (fun d hd => h d (List.mem_cons_of_mem _ hd))
    omega
theorem ln_len : ∀ (O : List (List Int)) (j : Nat), (∀ o ∈ O, goodO o) → (lnT j O).length ≤ 14 * O.length
  | [], j, _ => by rw [lnT]; exact Nat.zero_le _
  | o :: r, 0, h => by
    rw [lnT, List.length_append, List.length_cons]
    have hg := h o List.mem_cons_self
    have h1 := op_len o 0 hg.2.2
    have h2 := ln_len r 1 (fun d hd => h d (List.mem_cons_of_mem _ hd))
    have := hg.2.1
    omega
  | o :: r, j + 1, h => by
    rw [lnT, List.length_cons, List.length_cons, List.length_append, List.length_cons]
    have hg := h o List.mem_cons_self
    have h1 := op_len o 0 hg.2.2
    have h2 := ln_len r (j + 2) (fun d hd => h d (List.mem_cons_of_mem _ hd))
    have := hg.2.1
    omega
theorem ln_split : ∀ (O : List (List Int)), O ≠ [] → (∀ o ∈ O, goodO o) → ne (splitP blankB (lnT 0 O)) = O.map (opT 0) := by
  have h : ∀ (r : List (List Int)) (j : Nat) (l : List UInt8), l ≠ [] → (∀ x ∈ l, blankB x = false) → (∀ o ∈ r, goodO o) → ne (splitP blankB (l ++ lnT (j + 1) r)) = l :: r.map (opT 0) := by
    intro r
    induction r with
    | nil => intro j l h0 hl _; rw [lnT, List.append_nil, splitP_none hl, ne_cons, if_neg h0]; rfl
    | cons o r ih =>
      intro j l h0 hl hr
      have hg := hr o List.mem_cons_self
      have h1 := ih (j + 1) (opT 0 o) (op_ne hg) (op_plain o 0 hg.2.2) (fun d hd => hr d (List.mem_cons_of_mem _ hd))
      rw [lnT, splitP_at (by decide) _ hl, ne_cons, if_neg h0]
      have e : splitP blankB (32 :: (opT 0 o ++ lnT (j + 2) r)) = [] :: splitP blankB (opT 0 o ++ lnT (j + 2) r) := splitP_at (l := []) (by decide) _ (fun x hx => by cases hx)
      rw [e, ne_cons, if_pos rfl, h1]
      rfl
  intro O h0 hO
  cases O with
  | nil => exact absurd rfl h0
  | cons o r =>
    have hg := hO o List.mem_cons_self
    rw [lnT, h r 0 (opT 0 o) (op_ne hg) (op_plain o 0 hg.2.2) (fun d hd => hO d (List.mem_cons_of_mem _ hd))]
    rfl

/-! ### What it means -/
def bitB (a : Int) (t : Int) : Bool := Int.tmod (shr .u8 a (IntKind.u64.wrap t)) 2 == 1
def termB (a c : Int) : Bool := bitB a (Int.tmod (wrap64 c) 4) != decide (c ≥ 128)
def TAGS (a : Int) (n : Nat) : List ByteArray := ((if bitB a 0 = true ∧ 0 < n then [⟨#[97]⟩] else []) ++ (if bitB a 1 = true ∧ 1 < n then [⟨#[98]⟩] else [])) ++ (if bitB a 2 = true ∧ 2 < n then [⟨#[99]⟩] else []) ++ (if bitB a 3 = true ∧ 3 < n then [⟨#[100]⟩] else [])
theorem tags_has {a c : Int} (hc : byteOk c) : Lib.containsS (TAGS a 4) (nmB c) = bitB a (Int.tmod (wrap64 c) 4) := by
  have hw : wrap64 c = c := w64u (by have := hc.1; omega) (by have := hc.2; omega)
  have ht : Int.tmod c 4 = c % 4 := Int.tmod_eq_emod_of_nonneg hc.1
  unfold nmB TAGS
  rw [hw, ht]
  have h4 : c % 4 = 0 ∨ c % 4 = 1 ∨ c % 4 = 2 ∨ c % 4 = 3 := by omega
  obtain ⟨b0, h0⟩ : ∃ b, bitB a 0 = b := ⟨_, rfl⟩
  obtain ⟨b1, h1⟩ : ∃ b, bitB a 1 = b := ⟨_, rfl⟩
  obtain ⟨b2, h2⟩ : ∃ b, bitB a 2 = b := ⟨_, rfl⟩
  obtain ⟨b3, h3⟩ : ∃ b, bitB a 3 = b := ⟨_, rfl⟩
  rw [h0, h1, h2, h3]
  rcases h4 with h | h | h | h <;> (rw [h]; first | rw [h0] | rw [h1] | rw [h2] | rw [h3]) <;> (cases b0 <;> cases b1 <;> cases b2 <;> cases b3 <;> decide)
theorem run_one (tg : ByteArray → Bool) (t : ByteArray) : runF tg [⟨0, t, 0, 0⟩] = tg t := rfl
theorem term_run (tg : ByteArray → Bool) {c : Int} (hc : byteOk c) {t : ByteArray} (ht : L t = tmT c) : termF t ≠ [] ∧ runF tg (termF t) = (tg (nmB c) != decide (c ≥ 128)) := by
  obtain ⟨_, _, h⟩ := nm_cases hc.1 hc.2
  by_cases h128 : c ≥ 128
  · have e : t = ⟨#[33]⟩ ++ nmB c := by
      apply L_inj
      rw [ht, L_append, tmT, if_pos h128]
      rfl
    have hp : hasP t bangB = true ∧ cutP t bangB = nmB c ∧ tagOk (nmB c) = true := by
      rw [e]
      rcases h with h | h | h | h <;> (rw [h]; decide)
    have et : termF t = notN' [⟨0, nmB c, 0, 0⟩] := by unfold termF; rw [hp.2.1, if_pos hp.2.2, if_pos hp.1]
    rw [et, notN'_eq (by simp), decide_eq_true h128]
    refine ⟨by unfold notN; simp, ?_⟩
    rw [run_not tg (by simp), run_one]
    cases tg (nmB c) <;> rfl
  · have e : t = nmB c := by
      apply L_inj
      rw [ht, tmT, if_neg h128]
      rfl
    have hp : hasP t bangB = false ∧ cutP t bangB = nmB c ∧ tagOk (nmB c) = true := by
      rw [e]
      rcases h with h | h | h | h <;> (rw [h]; decide)
    have et : termF t = [⟨0, nmB c, 0, 0⟩] := by unfold termF; rw [hp.2.1, if_pos hp.2.2, if_neg (by rw [hp.1]; decide)]
    rw [et, decide_eq_false h128]
    refine ⟨by simp, ?_⟩
    rw [run_one]
    cases tg (nmB c) <;> rfl
theorem map_L_eq {l : List ByteArray} {α : Type} {m : List α} {g : α → List UInt8} (h : l.map L = m.map g) : l = m.map (fun x => ofL (g x)) := by
  have := congrArg (List.map ofL) h
  rw [map_ofL_L, List.map_map] at this
  exact this
theorem opt_run (tg : ByteArray → Bool) {o : List Int} (ho : goodO o) : optF (ofL (opT 0 o)) ≠ [] ∧ (checkF (optF (ofL (opT 0 o))) = 0 → runF tg (optF (ofL (opT 0 o))) = o.all fun c => tg (nmB c) != decide (c ≥ 128)) := by
  have hne : o ≠ [] := fun e => by rw [e] at ho; exact absurd ho.1 (by decide)
  have hts : termsOf (ofL (opT 0 o)) = o.map (fun c => ofL (tmT c)) := by
    apply map_L_eq
    rw [terms_eq, L_ofL, op_split o hne ho.2.2]
  unfold optF
  rw [hts]
  have hts0 : o.map (fun c => ofL (tmT c)) ≠ [] := fun e => hne (List.map_eq_nil_iff.1 e)
  have hall : ∀ s ∈ o.map (fun c => ofL (tmT c)), termF s ≠ [] := fun s hs => by
    obtain ⟨c, hc, rfl⟩ := List.mem_map.1 hs
    exact (term_run tg (ho.2.2 c hc) (L_ofL _)).1
  have hsome := joinF_some (k := 2) hts0 hall
  refine ⟨hsome, fun hck => ?_⟩
  have h := (joinF_runK tg (M := 2) (.inl rfl) (o.map fun c => ofL (tmT c)) (fun t _ ht => term_ex ht) (fun t _ => term_len t) (by rw [List.length_map]; have := ho.2.1; omega) hsome hck).1
  rw [h, if_pos rfl, List.all_map]
  have : ∀ l : List Int, (∀ c ∈ l, byteOk c) → (l.all ((fun s => runF tg (termF s)) ∘ fun c => ofL (tmT c))) = l.all fun c => tg (nmB c) != decide (c ≥ 128) := by
    intro l
    induction l with
    | nil => intro _; rfl
    | cons c r ih =>
      intro hl
      rw [List.all_cons, List.all_cons, ih (fun d hd => hl d (List.mem_cons_of_mem _ hd))]
      congr 1
      exact (term_run tg (hl c List.mem_cons_self) (L_ofL _)).2
  exact this o ho.2.2
theorem line_run (tg : ByteArray → Bool) {O : List (List Int)} {X : ByteArray} (h0 : O ≠ []) (h8 : O.length ≤ 8) (hO : ∀ o ∈ O, goodO o) (hX : L X = lnT 0 O) :
    lineJ X ≠ [] ∧ (checkF (lineJ X) = 0 → runF tg (lineJ X) = O.any fun o => o.all fun c => tg (nmB c) != decide (c ≥ 128)) := by
  have hfs : fieldsOf X = O.map (fun o => ofL (opT 0 o)) := by
    apply map_L_eq
    rw [fields_eq, hX, ln_split O h0 hO]
  have hXs : X.size ≤ 112 := by
    rw [← L_length, hX]
    have := ln_len O 0 hO
    omega
  have hsz : ∀ t ∈ fieldsOf X, t.size ≤ 512 := fun t ht => by have := fields_size ht; omega
  unfold lineJ
  rw [hfs] at hsz ⊢
  have hfs0 : O.map (fun o => ofL (opT 0 o)) ≠ [] := fun e => h0 (List.map_eq_nil_iff.1 e)
  have hall : ∀ s ∈ O.map (fun o => ofL (opT 0 o)), optF s ≠ [] := fun s hs => by
    obtain ⟨o, ho, rfl⟩ := List.mem_map.1 hs
    exact (opt_run tg (hO o ho)).1
  have hsome := joinF_some (k := 3) hfs0 hall
  refine ⟨hsome, fun hck => ?_⟩
  have h := joinF_runK tg (M := 1539) (.inr rfl) (O.map fun o => ofL (opT 0 o)) (fun t ht hn => opt_ex (hsz t ht) hn) (fun t ht => opt_len2 (hsz t ht)) (by rw [List.length_map]; omega) hsome hck
  rw [h.1, if_neg (by decide), List.any_map]
  have hc2 := h.2
  have : ∀ l : List (List Int), (∀ o ∈ l, goodO o ∧ checkF (optF (ofL (opT 0 o))) = 0) → (l.any ((fun s => runF tg (optF s)) ∘ fun o => ofL (opT 0 o))) = l.any fun o => o.all fun c => tg (nmB c) != decide (c ≥ 128) := by
    intro l
    induction l with
    | nil => intro _; rfl
    | cons c r ih =>
      intro hl
      rw [List.any_cons, List.any_cons, ih (fun d hd => hl d (List.mem_cons_of_mem _ hd))]
      congr 1
      exact (opt_run tg (hl c List.mem_cons_self).1).2 (hl c List.mem_cons_self).2
  exact this O fun o ho => ⟨hO o ho, (hc2 _ (List.mem_map.2 ⟨o, ho, rfl⟩)).2⟩
end Go.Proofs.YtjndccjpjknbkaaDoor.PurePl
namespace Go.Proofs.YtjndccjpjknbkaaDoor.PurePl
open Go.RowKit Go.Proofs.YtjndccjpjknbkaaDoor.PPl Go.Proofs.YtjndccjpjknbkaaDoorW.PrintWords Go.Proofs.YtjndccjpjknbkaaDoorW.PrintLast Go.Proofs.YtjndccjpjknbkaaDoorW.PrintMore Go.Proofs.YtjndccjpjknbkaaDoor.BytesLib Go.Proofs.YtjndccjpjknbkaaDoor.ExLib Go.Proofs.YtjndccjpjknbkaaDoor.ExNode Go.Proofs.YtjndccjpjknbkaaDoor.ExTag Go.Proofs.YtjndccjpjknbkaaDoor.ExSem Go.Proofs.YtjndccjpjknbkaaDoor.ExLaw Go.Proofs.YtjndccjpjknbkaaDoor.ExLaw2 Go.Proofs.YtjndccjpjknbkaaDoor.ExLaw3 Go.Proofs.YtjndccjpjknbkaaDoor.ExBoth Go.Proofs.YtjndccjpjknbkaaDoor.PlJoin Go.Proofs.YtjndccjpjknbkaaDoor.PlLine Go.Proofs.YtjndccjpjknbkaaDoor.PlSplit
open Go.Proofs.YtjndccjpjknbkaaDoor.ExCheck (checkF)
set_option linter.unusedVariables false

/-! ### The law's loops -/
theorem rd_byte {o : List Int} {j : Nat} (h : j < o.length) : rd o (j : Int) = o[j] := by
  unfold rd
  simp [List.getD, h]
theorem names_len : (NAMES.length : Int) = 4 := rfl
theorem nm_len {c : Int} (hc : byteOk c) : (nmB c).size = 1 := by
  obtain ⟨_, _, h⟩ := nm_cases hc.1 hc.2
  rcases h with h | h | h | h <;> (rw [h]; rfl)
theorem l2_step (x0 : List (List Int)) (a : Int) (T : List ByteArray) (X : ByteArray) (f : Bool) (i : Int) (o : List Int) (b : Bool) (j : Nat) (hj : j < o.length) (ho : o.length ≤ 4) (hc : byteOk o[j]) (hX : X.size ≤ 1000) :
    ∃ X', L X' = L X ++ (if j = 0 then tmT o[j] else 44 :: tmT o[j]) ∧ X'.size ≤ X.size + 3 ∧ ∀ k, graftbedlaw13_PlusMeans.l2 (k + 1) x0 a NAMES T X f i o b (j : Int) = graftbedlaw13_PlusMeans.l2 k x0 a NAMES T X' f i o (b && termB a o[j]) ((j + 1 : Nat) : Int) := by
  have hrd := rd_byte hj
  obtain ⟨c, hcc⟩ : ∃ c, o[j] = c := ⟨_, rfl⟩
  rw [hcc] at hrd hc ⊢
  obtain ⟨t0, t4, _⟩ := nm_cases hc.1 hc.2
  have hnm : rdOf ByteArray.empty NAMES (Int.tmod (wrap64 c) 4) = nmB c := rfl
  have hn1 := nm_len hc
  have hw : wrap64 ((j : Int) + 1) = ((j + 1 : Nat) : Int) := by rw [w64u (by omega) (by omega)]; rfl
  have hu : 0 ≤ IntKind.u64.wrap (Int.tmod (wrap64 c) 4) := by
    simp [IntKind.wrap, IntKind.bits, IntKind.signed]; omega
  have htb : (bitB a (Int.tmod (wrap64 c) 4) != decide (c ≥ 128)) = termB a c := rfl
  have hbb : ((Int.tmod (shr .u8 a (IntKind.u64.wrap (Int.tmod (wrap64 c) 4))) 2) == 1) = bitB a (Int.tmod (wrap64 c) 4) := rfl
  have t4' : Int.tmod (wrap64 c) 4 < (NAMES.length : Int) := t4
  have s44 : (X ++ (⟨#[44]⟩ : ByteArray)).size = X.size + 1 := by rw [ByteArray.size_append]; rfl
  have s33 : (X ++ (⟨#[33]⟩ : ByteArray)).size = X.size + 1 := by rw [ByteArray.size_append]; rfl
  have s4433 : ((X ++ (⟨#[44]⟩ : ByteArray)) ++ (⟨#[33]⟩ : ByteArray)).size = X.size + 2 := by rw [ByteArray.size_append, s44]; rfl
  by_cases h0 : j = 0
  · have hj0 : ¬ ((j : Int) > 0) := by omega
    rw [if_pos h0]
    by_cases h128 : c ≥ 128
    · refine ⟨(X ++ (⟨#[33]⟩ : ByteArray)) ++ nmB c, ?_, ?_, fun k => ?_⟩
      · rw [L_append, L_append, tmT, if_pos h128, List.append_assoc]; rfl
      · rw [ByteArray.size_append, s33]; omega
      · rw [graftbedlaw13_PlusMeans.l2, hrd, hnm, hbb, if_pos (by omega), if_pos (by omega), if_neg hj0, if_pos h128, if_pos (by omega), if_pos t0, if_pos t4', if_pos (by omega), hw, htb]
        cases b with
        | true => rw [if_pos rfl, if_pos hu, Bool.true_and]
        | false => rw [if_neg (by decide), Bool.false_and]
    · refine ⟨X ++ nmB c, ?_, ?_, fun k => ?_⟩
      · rw [L_append, tmT, if_neg h128]; rfl
      · rw [ByteArray.size_append]; omega
      · rw [graftbedlaw13_PlusMeans.l2, hrd, hnm, hbb, if_pos (by omega), if_pos (by omega), if_neg hj0, if_neg h128, if_pos t0, if_pos t4', if_pos (by omega), hw, htb]
        cases b with
        | true => rw [if_pos rfl, if_pos hu, Bool.true_and]
        | false => rw [if_neg (by decide), Bool.false_and]
  · have hj0 : (j : Int) > 0 := by omega
    rw [if_neg h0]
    by_cases h128 : c ≥ 128
    · refine ⟨((X ++ (⟨#[44]⟩ : ByteArray)) ++ (⟨#[33]⟩ : ByteArray)) ++ nmB c, ?_, ?_, fun k => ?_⟩
      · rw [L_append, L_append, L_append, tmT, if_pos h128, List.append_assoc, List.append_assoc]; rfl
      · rw [ByteArray.size_append, s4433]; omega
      · rw [graftbedlaw13_PlusMeans.l2, hrd, hnm, hbb, if_pos (by omega), if_pos (by omega), if_pos hj0, if_pos (by omega), if_pos h128, if_pos (by omega), if_pos t0, if_pos t4', if_pos (by omega), hw, htb]
        cases b with
        | true => rw [if_pos rfl, if_pos hu, Bool.true_and]
        | false => rw [if_neg (by decide), Bool.false_and]
    · refine ⟨(X ++ (⟨#[44]⟩ : ByteArray)) ++ nmB c, ?_, ?_, fun k => ?_⟩
      · rw [L_append, L_append, tmT, if_neg h128, List.append_assoc]; rfl
      · rw [ByteArray.size_append, s44]; omega
      · rw [graftbedlaw13_PlusMeans.l2, hrd, hnm, hbb, if_pos (by omega), if_pos (by omega), if_pos hj0, if_pos (by omega), if_neg h128, if_pos t0, if_pos t4', if_pos (by omega), hw, htb]
        cases b with
        | true => rw [if_pos rfl, if_pos hu, Bool.true_and]
        | false => rw [if_neg (by decide), Bool.false_and]
theorem opT_drop {o : List Int} {j : Nat} (hj : j < o.length) : opT j (o.drop j) = (if j = 0 then tmT o[j] else 44 :: tmT o[j]) ++ opT (j + 1) (o.drop (j + 1)) := by
  rw [List.drop_eq_getElem_cons hj]
  cases j with
  | zero => rw [opT, if_pos rfl]
  | succ j => rw [opT, if_neg (by omega)]; rfl
theorem l2_ev (x0 : List (List Int)) (a : Int) (T : List ByteArray) (f : Bool) (i : Int) (o : List Int) (ho : o.length ≤ 4) (hc : ∀ c ∈ o, byteOk c) : ∀ (d j : Nat) (X : ByteArray) (b : Bool), o.length - j = d → j ≤ o.length → X.size + 3 * d ≤ 1000 →
    (∀ X' b', L X' = L X ++ opT j (o.drop j) → X'.size ≤ X.size + 3 * d → b' = (b && (o.drop j).all (termB a)) → Ev (fun k => graftbedlaw13_PlusMeans.l1 k x0 a NAMES T X' (f || b') (wrap64 (i + 1))) true) →
    Ev (fun k => graftbedlaw13_PlusMeans.l2 k x0 a NAMES T X f i o b (j : Int)) true
  | 0, j, X, b, hd, hj, hX, hK => by
    obtain rfl : j = o.length := by omega
    have h := hK X b (by rw [List.drop_length]; cases o.length <;> (rw [opT, List.append_nil])) (by omega) (by rw [List.drop_length, List.all_nil, Bool.and_true])
    refine Ev.step (fun k => ?_) h
    rw [graftbedlaw13_PlusMeans.l2, if_neg (by omega)]
    cases f with
    | true => rw [if_pos rfl]; rfl
    | false => rw [if_neg (by decide)]; rfl
  | d + 1, j, X, b, hd, hj, hX, hK => by
    have hlt : j < o.length := by omega
    obtain ⟨X1, h1, h2, h3⟩ := l2_step x0 a T X f i o b j hlt ho (hc _ (List.getElem_mem hlt)) (by omega)
    refine Ev.step h3 (l2_ev x0 a T f i o ho hc d (j + 1) X1 (b && termB a o[j]) (by omega) (by omega) (by omega) fun X' b' g1 g2 g3 => hK X' b' ?_ (by omega) ?_)
    · rw [g1, h1, opT_drop hlt, List.append_assoc]
    · rw [g3, List.drop_eq_getElem_cons hlt, List.all_cons, Bool.and_assoc]
theorem empty_line : plus_Line.f ⟨#[]⟩ = some ((lineF ⟨#[]⟩).1.map plus_Line.dec, 120) := by
  unfold plus_Line.f
  rw [if_pos (by decide), line_empty]
theorem evalL {N : List Nd} (ht : smallT N) (ts : List ByteArray) (hc : checkF N = 0) : expr_Eval.f (N.map plus_Line.dec) ts = some (runF (fun x => Lib.containsS ts x) N) := by
  have e : (N.map plus_Line.dec).map expr_Eval.enc = N := by
    rw [List.map_map]
    exact List.map_id N
  unfold expr_Eval.f
  rw [e, if_pos]
  · unfold evalF
    rw [decide_eq_true hc]; rfl
  unfold expr_Eval.tagsOk
  rw [List.all_eq_true]
  intro x hx
  obtain ⟨y, hy, rfl⟩ := List.mem_map.1 hx
  exact decide_eq_true (ht y hy)
/-- The loops' end. -/
theorem means_end (a : Int) (O : List (List Int)) (h0 : O ≠ []) (h8 : O.length ≤ 8) (hO : ∀ o ∈ O, goodO o) (X : ByteArray) (B : Bool) (hX : L X = lnT 0 O) (hB : B = O.any fun o => o.all (termB a)) :
    Ev (fun k => (plus_Line.f X).bind fun bt259 => (if bt259.2 = 0 then ((expr_Eval.f bt259.1 (TAGS a 4)).bind fun t263 => (some (t263 == B))) else ((graftbedref13_Line.f k X).bind fun bt264 => (some (bt264.2 == bt259.2))))) true := by
  have hXs : X.size ≤ 112 := by
    rw [← L_length, hX]
    have := ln_len O 0 hO
    omega
  have hf : plus_Line.f X = some ((lineF X).1.map plus_Line.dec, (lineF X).2) := by
    unfold plus_Line.f
    rw [if_pos (by omega)]
  obtain ⟨hne, hrun⟩ := line_run (fun x => Lib.containsS (TAGS a 4) x) h0 h8 hO hX
  by_cases hck : checkF (lineJ X) = 0
  · have hl : lineF X = (lineJ X, 0) := by unfold lineF checkedF; rw [if_pos ⟨hne, hck⟩]
    have hsm : smallT (lineJ X) := line_small (by omega)
    have he : (O.any fun o => o.all fun c => (fun x => Lib.containsS (TAGS a 4) x) (nmB c) != decide (c ≥ 128)) = B := by
      rw [hB]
      have : ∀ l : List (List Int), (∀ o ∈ l, goodO o) → (l.any fun o => o.all fun c => Lib.containsS (TAGS a 4) (nmB c) != decide (c ≥ 128)) = l.any fun o => o.all (termB a) := by
        intro l
        induction l with
        | nil => intro _; rfl
        | cons o r ih =>
          intro hl
          rw [List.any_cons, List.any_cons, ih (fun d hd => hl d (List.mem_cons_of_mem _ hd))]
          congr 1
          have h2 := (hl o List.mem_cons_self).2.2
          clear hl ih
          induction o with
          | nil => rfl
          | cons c r ih2 =>
            rw [List.all_cons, List.all_cons, ih2 (fun d hd => h2 d (List.mem_cons_of_mem _ hd)), tags_has (h2 c List.mem_cons_self)]
            rfl
      exact this O hO
    refine Ev.congr (f := fun _ => some true) (fun k => ?_) (Ev.now _)
    rw [hf, hl, Option.bind_some, if_pos rfl, evalL hsm _ hck, Option.bind_some, hrun hck, he, beq_self_eq_true]
  · have hl : (lineF X).2 = 120 := by unfold lineF checkedF; rw [if_neg (fun h => hck h.2)]
    refine Ev.congr (f := fun k => (graftbedref13_Line.f k X).bind fun bt264 => (some (bt264.2 == (120 : Int)))) (fun k => ?_) (Ev.bind (f := fun _ bt264 => some (bt264.2 == (120 : Int))) (rline_ev (by omega)) ?_)
    · rw [hf, Option.bind_some, hl, if_neg (by decide)]
    · exact Ev.congr (f := fun _ => some true) (fun k => by rw [hl]; rfl) (Ev.now _)
theorem lnT_drop {O : List (List Int)} {i : Nat} (hi : i < O.length) : lnT i (O.drop i) = (if i = 0 then [] else [32, 32]) ++ (opT 0 O[i] ++ lnT (i + 1) (O.drop (i + 1))) := by
  rw [List.drop_eq_getElem_cons hi]
  cases i with
  | zero => rw [lnT, if_pos rfl]; rfl
  | succ i => rw [lnT, if_neg (by omega)]; rfl
theorem rd_opt {O : List (List Int)} {i : Nat} (hi : i < O.length) : rd_L9 O (i : Int) = O[i] := by
  unfold rd_L9
  simp [List.getD, hi]
theorem l1_ev (a : Int) (O : List (List Int)) (h0 : O ≠ []) (h8 : O.length ≤ 8) (hby : ∀ o ∈ O, ∀ c ∈ o, byteOk c) : ∀ (d i : Nat) (X : ByteArray) (f : Bool), O.length - i = d → i ≤ O.length → X.size ≤ 14 * i → (∀ o ∈ O.take i, goodO o) → L X ++ lnT i (O.drop i) = lnT 0 O → (f || (O.drop i).any fun o => o.all (termB a)) = (O.any fun o => o.all (termB a)) →
    Ev (fun k => graftbedlaw13_PlusMeans.l1 k O a NAMES (TAGS a 4) X f (i : Int)) true
  | 0, i, X, f, hd, hi, hX, hg, hL, hf => by
    obtain rfl : i = O.length := by omega
    rw [List.take_length] at hg
    have hlast : lnT O.length (O.drop O.length) = [] := by rw [List.drop_length]; cases O.length <;> rfl
    rw [hlast, List.append_nil] at hL
    rw [List.drop_length, List.any_nil, Bool.or_false] at hf
    refine Ev.step (fun k => ?_) (means_end a O h0 h8 hg X f hL hf)
    rw [graftbedlaw13_PlusMeans.l1, if_neg (by omega)]
  | d + 1, i, X, f, hd, hi, hX, hg, hL, hf => by
    have hlt : i < O.length := by omega
    have hrd := rd_opt hlt
    have hby1 := hby _ (List.getElem_mem hlt)
    have hd1 := lnT_drop hlt
    have hd2 := List.drop_eq_getElem_cons hlt
    have ht2 := List.take_succ_eq_append_getElem hlt
    obtain ⟨o, ho⟩ : ∃ o, O[i] = o := ⟨_, rfl⟩
    rw [ho] at hrd hby1 hd1 hd2 ht2
    have bad : Ev (fun k => graftbedlaw13_PlusMeans.j3 k O a NAMES (TAGS a 4) X f (i : Int) o true) true := Ev.step (f := fun _ => some true) (fun k => by rw [graftbedlaw13_PlusMeans.j3, if_pos rfl, empty_line]; rfl) (Ev.now _)
    by_cases h4 : (o.length : Int) > 4
    · exact Ev.step (fun k => by rw [graftbedlaw13_PlusMeans.l1, if_pos (by omega), if_pos (by omega), hrd, if_pos h4]) bad
    by_cases hz : o.length = 0
    · exact Ev.step (fun k => by rw [graftbedlaw13_PlusMeans.l1, if_pos (by omega), if_pos (by omega), hrd, if_neg h4, show ((o.length : Int) == 0) = true from beq_iff_eq.2 (by omega)]) bad
    have hgood : goodO o := ⟨by omega, by omega, hby1⟩
    refine Ev.step (f := fun k => graftbedlaw13_PlusMeans.j3 k O a NAMES (TAGS a 4) X f (i : Int) o false) (fun k => by rw [graftbedlaw13_PlusMeans.l1, if_pos (by omega), if_pos (by omega), hrd, if_neg h4, show ((o.length : Int) == 0) = false from beq_eq_false_iff_ne.2 (by omega)]) ?_
    have hw : wrap64 ((i : Int) + 1) = ((i + 1 : Nat) : Int) := by rw [w64u (by omega) (by omega)]; rfl
    have hgo : ∀ X1 : ByteArray, L X1 = L X ++ (if i = 0 then [] else [32, 32]) → X1.size ≤ 14 * i + 2 → Ev (fun k => graftbedlaw13_PlusMeans.j4 k O a NAMES (TAGS a 4) X1 f (i : Int) o true) true := fun X1 g1 g2 => by
      refine Ev.step (fun k => by rw [graftbedlaw13_PlusMeans.j4]; rfl) (l2_ev O a (TAGS a 4) f (i : Int) o hgood.2.1 hby1 o.length 0 X1 true (by omega) (Nat.zero_le _) (by have := hgood.2.1; omega) fun X' b' q1 q2 q3 => ?_)
      rw [hw]
      refine l1_ev a O h0 h8 hby d (i + 1) X' (f || b') (by omega) (by omega) (by have := hgood.2.1; omega) ?_ ?_ ?_
      · rw [ht2]
        intro x hx
        rcases List.mem_append.1 hx with h | h
        · exact hg x h
        · rw [List.mem_singleton] at h; subst h; exact hgood
      · rw [← hL, hd1, q1, g1, List.drop_zero]
        simp only [List.append_assoc]
      · rw [← hf, hd2, List.any_cons, q3, List.drop_zero, Bool.true_and, Bool.or_assoc]
    by_cases hi0 : i = 0
    · refine Ev.step (fun k => by rw [graftbedlaw13_PlusMeans.j3, if_neg (by decide), if_neg (by omega)]) (hgo X (by rw [if_pos hi0, List.append_nil]) (by omega))
    · refine Ev.step (fun k => by rw [graftbedlaw13_PlusMeans.j3, if_neg (by decide), if_pos (by omega), if_pos (by omega)]) (hgo (X ++ ⟨#[32, 32]⟩) (by rw [if_neg hi0, L_append]; rfl) (by rw [ByteArray.size_append]; show X.size + 2 ≤ _; omega))
theorem l0_step (x0 : List (List Int)) (a : Int) (T : List ByteArray) (i : Nat) (hi : i < 4) (hT : T.length ≤ 4) (k : Nat) : graftbedlaw13_PlusMeans.l0 (k + 1) x0 a NAMES T (i : Int) = graftbedlaw13_PlusMeans.l0 k x0 a NAMES (T ++ if bitB a (i : Int) = true then [rdOf ByteArray.empty NAMES (i : Int)] else []) ((i + 1 : Nat) : Int) := by
  have hw : wrap64 ((i : Int) + 1) = ((i + 1 : Nat) : Int) := by rw [w64u (by omega) (by omega)]; rfl
  have hu : 0 ≤ IntKind.u64.wrap (i : Int) := by simp [IntKind.wrap, IntKind.bits, IntKind.signed]; omega
  rw [graftbedlaw13_PlusMeans.l0, if_pos (by omega), if_pos hu, hw]
  by_cases h : Int.tmod (shr .u8 a (IntKind.u64.wrap (i : Int))) 2 = 1
  · have hb : bitB a (i : Int) = true := beq_iff_eq.2 h
    rw [if_pos h, if_pos (by omega), if_pos (by rw [names_len]; omega), if_pos (by omega), if_pos hb]
  · have hb : bitB a (i : Int) = false := beq_eq_false_iff_ne.2 h
    rw [if_neg h, if_neg (by rw [hb]; decide), List.append_nil]
theorem l0_ev (a : Int) (O : List (List Int)) (h0 : O ≠ []) (h8 : O.length ≤ 8) (hby : ∀ o ∈ O, ∀ c ∈ o, byteOk c) : Ev (fun k => graftbedlaw13_PlusMeans.l0 k O a NAMES [] 0) true := by
  have e1 : ∀ (b : Bool) (x : ByteArray), (if b = true then [x] else []).length ≤ 1 := fun b x => by split <;> simp
  have hfin : Ev (fun k => graftbedlaw13_PlusMeans.l0 k O a NAMES (TAGS a 4) ((4 : Nat) : Int)) true :=
    Ev.step (fun k => by rw [graftbedlaw13_PlusMeans.l0, if_neg (by omega)]; rfl) (l1_ev a O h0 h8 hby O.length 0 ⟨#[]⟩ false (by omega) (Nat.zero_le _) (Nat.zero_le _) (fun o ho => by rw [List.take_zero] at ho; cases ho) (by rw [List.drop_zero]; rfl) (by rw [List.drop_zero, Bool.false_or]))
  refine Ev.step (fun k => l0_step O a [] 0 (by omega) (by simp) k) ?_
  refine Ev.step (fun k => l0_step O a _ 1 (by omega) (by rw [List.length_append]; have := e1 (bitB a ((0 : Nat) : Int)) (rdOf ByteArray.empty NAMES ((0 : Nat) : Int)); simp only [List.length_nil]; omega) k) ?_
  refine Ev.step (fun k => l0_step O a _ 2 (by omega) (by rw [List.length_append, List.length_append]; have := e1 (bitB a ((0 : Nat) : Int)) (rdOf ByteArray.empty NAMES ((0 : Nat) : Int)); have := e1 (bitB a ((1 : Nat) : Int)) (rdOf ByteArray.empty NAMES ((1 : Nat) : Int)); simp only [List.length_nil]; omega) k) ?_
  refine Ev.step (fun k => l0_step O a _ 3 (by omega) (by rw [List.length_append, List.length_append, List.length_append]; have := e1 (bitB a ((0 : Nat) : Int)) (rdOf ByteArray.empty NAMES ((0 : Nat) : Int)); have := e1 (bitB a ((1 : Nat) : Int)) (rdOf ByteArray.empty NAMES ((1 : Nat) : Int)); have := e1 (bitB a ((2 : Nat) : Int)) (rdOf ByteArray.empty NAMES ((2 : Nat) : Int)); simp only [List.length_nil]; omega) k) ?_
  refine Ev.congr (fun k => ?_) hfin
  congr 1
  unfold TAGS
  show (((([] ++ if bitB a 0 = true then [rdOf ByteArray.empty NAMES 0] else []) ++ if bitB a 1 = true then [rdOf ByteArray.empty NAMES 1] else []) ++ if bitB a 2 = true then [rdOf ByteArray.empty NAMES 2] else []) ++ if bitB a 3 = true then [rdOf ByteArray.empty NAMES 3] else []) = _
  rw [List.nil_append]
  cases bitB a 0 <;> cases bitB a 1 <;> cases bitB a 2 <;> cases bitB a 3 <;> rfl
end Go.Proofs.YtjndccjpjknbkaaDoor.PurePl
namespace Go.Proofs.YtjndccjpjknbkaaDoor.Pure
open Go.RowKit Go.Proofs.YtjndccjpjknbkaaDoor.PPl Go.Proofs.YtjndccjpjknbkaaDoor.PurePl Go.Proofs.YtjndccjpjknbkaaDoorW.PrintWords Go.Proofs.YtjndccjpjknbkaaDoorW.PrintLast Go.Proofs.YtjndccjpjknbkaaDoorW.PrintMore Go.Proofs.YtjndccjpjknbkaaDoor.PlJoin Go.Proofs.YtjndccjpjknbkaaDoor.PlLine
set_option linter.unusedVariables false
theorem byte_wf {c : Int} (h : (Lit.int .u8 c).wf = true) : byteOk c := by
  have h2 : decide (IntKind.u8.min ≤ c) = true ∧ decide (c ≤ IntKind.u8.max) = true := by
    have h1 : (decide (IntKind.u8.min ≤ c) && decide (c ≤ IntKind.u8.max)) = true := h
    simpa using h1
  have e1 : IntKind.u8.min = 0 := rfl
  have e2 : IntKind.u8.max = 255 := rfl
  rw [e1, e2] at h2
  exact ⟨of_decide_eq_true h2.1, of_decide_eq_true h2.2⟩
theorem PlusMeans (l0 : List (List Int)) (a1 : Int) (w0 : l0.length * 24 ≤ 140737488351232 ∧ ∀ y ∈ l0, y.length * 1 ≤ 140737488351232 ∧ ∀ y' ∈ y, (Lit.int .u8 y').wf = true) (w1 : (Lit.int .u8 a1).wf = true) : ∃ k, graftbedlaw13_PlusMeans.f k l0 a1 = some true := by
  refine Ev.rounds (g := fun k => graftbedlaw13_PlusMeans.f k l0 a1) ?_
  have hj : Ev (fun k => graftbedlaw13_PlusMeans.j0 k l0 a1 true) true := Ev.step (f := fun _ => some true) (fun k => by rw [graftbedlaw13_PlusMeans.j0, if_pos rfl, empty_line]; rfl) (Ev.now _)
  by_cases h8 : (l0.length : Int) > 8
  · exact Ev.congr (fun k => by unfold graftbedlaw13_PlusMeans.f; rw [if_pos h8]) hj
  by_cases hz : l0.length = 0
  · exact Ev.congr (fun k => by unfold graftbedlaw13_PlusMeans.f; rw [if_neg h8, show ((l0.length : Int) == 0) = true from beq_iff_eq.2 (by omega)]) hj
  refine Ev.congr (f := fun k => graftbedlaw13_PlusMeans.j0 k l0 a1 false) (fun k => by unfold graftbedlaw13_PlusMeans.f; rw [if_neg h8, show ((l0.length : Int) == 0) = false from beq_eq_false_iff_ne.2 (by omega)]) ?_
  refine Ev.step (fun k => by rw [graftbedlaw13_PlusMeans.j0, if_neg (by decide)]; rfl) (l0_ev a1 l0 (fun e => hz (by rw [e]; rfl)) (by omega) (fun o ho c hc => byte_wf ((w0.2 o ho).2 c hc)))
end Go.Proofs.YtjndccjpjknbkaaDoor.Pure

