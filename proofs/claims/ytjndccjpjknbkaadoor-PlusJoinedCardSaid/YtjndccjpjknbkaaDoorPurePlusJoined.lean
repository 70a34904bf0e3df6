/- Elder lines: lines joined: depths, lengths, what they answer; the law PlusJoined. -/
import Derived.Test.YtjndccjpjknbkaaDoorMpb
import Derived.Test.YtjndccjpjknbkaaDoorMpa
import Derived.Test.YtjndccjpjknbkaaDoorPurePlusLines
namespace Go.Proofs.YtjndccjpjknbkaaDoor.PurePl
open Go.RowKit Go.Proofs.YtjndccjpjknbkaaDoor.PPl Go.Proofs.YtjndccjpjknbkaaDoorW.PrintWords Go.Proofs.YtjndccjpjknbkaaDoorW.PrintLast Go.Proofs.YtjndccjpjknbkaaDoorW.PrintMore Go.Proofs.YtjndccjpjknbkaaDoor.BytesLib Go.Proofs.YtjndccjpjknbkaaDoor.ExLib Go.Proofs.YtjndccjpjknbkaaDoor.ExNode Go.Proofs.YtjndccjpjknbkaaDoor.ExTag Go.Proofs.YtjndccjpjknbkaaDoor.ExSem Go.Proofs.YtjndccjpjknbkaaDoor.ExLaw Go.Proofs.YtjndccjpjknbkaaDoor.ExLaw2 Go.Proofs.YtjndccjpjknbkaaDoor.ExLaw3 Go.Proofs.YtjndccjpjknbkaaDoor.ExBoth Go.Proofs.YtjndccjpjknbkaaDoor.PlJoin Go.Proofs.YtjndccjpjknbkaaDoor.PlLine Go.Proofs.YtjndccjpjknbkaaDoor.PlSplit
open Go.Proofs.YtjndccjpjknbkaaDoor.ExCheck (checkF)
set_option linter.unusedVariables false

theorem joinL_app {one : ByteArray → List Nd} {k : Int} : ∀ (x y : List ByteArray) (acc : List Nd), joinL one k (x ++ y) acc = if joinL one k x acc = [] ∧ x ≠ [] then [] else joinL one k y (joinL one k x acc)
  | [], y, acc => by rw [if_neg (fun h => h.2 rfl)]; rfl
  | s :: r, y, acc => by
    rw [List.cons_append, joinL, joinL]
    by_cases hs : one s = []
    · rw [if_pos hs, if_pos hs, if_pos ⟨rfl, by simp⟩]
    · rw [if_neg hs, if_neg hs, joinL_app r y]
      cases r with
      | nil =>
        rw [if_neg (fun h => h.2 rfl), joinL, if_neg (fun h => bothN_ne _ _ _ h.1)]
      | cons a b =>
        by_cases h : joinL one k (a :: b) (bothN k acc (one s)) = []
        · rw [if_pos ⟨h, by simp⟩, if_pos ⟨h, by simp⟩]
        · rw [if_neg (fun q => h q.1), if_neg (fun q => h q.1)]
/-- A join goes deeper and longer. -/
theorem joinL_mono {one : ByteArray → List Nd} {k : Int} {M : Nat} (hk : k = 2 ∨ k = 3) : ∀ (ls : List ByteArray) (acc acc2 : List Nd) (da da2 : Int), (∀ s ∈ ls, one s ≠ [] → ∃ dp, Ex (one s) dp) → (∀ s ∈ ls, (one s).length ≤ M) → acc.length ≤ acc2.length → acc2.length + ls.length * (M + 1) ≤ 1000000 → Ex acc da → Ex acc2 da2 → da ≤ da2 → joinL one k ls acc2 ≠ [] →
    ∃ d d2, Ex (joinL one k ls acc) d ∧ Ex (joinL one k ls acc2) d2 ∧ d ≤ d2 ∧ da2 ≤ d2 ∧ acc2.length ≤ (joinL one k ls acc2).length ∧ (joinL one k ls acc2).length + acc.length = (joinL one k ls acc).length + acc2.length
  | [], acc, acc2, da, da2, _, _, hl, _, h1, h2, hd, _ => ⟨da, da2, h1, h2, hd, Int.le_refl _, Nat.le_refl _, by show acc2.length + acc.length = acc.length + acc2.length; omega⟩
  | s :: r, acc, acc2, da, da2, g1, g2, hl, hb, h1, h2, hd, hn => by
    rw [joinL] at hn
    by_cases hs : one s = []
    · rw [if_pos hs] at hn; exact absurd rfl hn
    · rw [if_neg hs] at hn
      have e1 : joinL one k (s :: r) acc = joinL one k r (bothN k acc (one s)) := by rw [joinL, if_neg hs]
      have e2 : joinL one k (s :: r) acc2 = joinL one k r (bothN k acc2 (one s)) := by rw [joinL, if_neg hs]
      rw [e1, e2]
      obtain ⟨dd, hE⟩ := g1 s List.mem_cons_self hs
      have h3 := g2 s List.mem_cons_self
      rw [List.length_cons, Nat.add_mul, Nat.one_mul] at hb
      obtain ⟨d, d2, q1, q2, q3, q4, q5, q6⟩ := joinL_mono hk r (bothN k acc (one s)) (bothN k acc2 (one s)) (1 + max da dd) (1 + max da2 dd) (fun x hx => g1 x (List.mem_cons_of_mem _ hx)) (fun x hx => g2 x (List.mem_cons_of_mem _ hx)) (by rw [bothN_len, bothN_len]; omega) (by rw [bothN_len]; omega) (ex_both2 hk h1 hE (by omega) (by omega)) (ex_both2 hk h2 hE (by omega) (by omega)) (by omega) hn
      rw [bothN_len] at q5
      rw [bothN_len, bothN_len] at q6
      exact ⟨d, d2, q1, q2, q3, by omega, by omega, by omega⟩
/-- What a join answers. -/
theorem joinL_run (tg : ByteArray → Bool) {one : ByteArray → List Nd} {M : Nat} : ∀ (ls : List ByteArray) (acc : List Nd) (da : Int), (∀ s ∈ ls, one s ≠ [] → ∃ dp, Ex (one s) dp) → (∀ s ∈ ls, (one s).length ≤ M) → (∀ s ∈ ls, one s ≠ [] → checkF (one s) = 0) → acc.length + ls.length * (M + 1) ≤ 1000000 → Ex acc da → joinL one 2 ls acc ≠ [] → checkF (joinL one 2 ls acc) = 0 →
    runF tg (joinL one 2 ls acc) = (runF tg acc && ls.all fun s => runF tg (one s))
  | [], acc, da, _, _, _, _, _, _, _ => by rw [joinL, List.all_nil, Bool.and_true]
  | s :: r, acc, da, g1, g2, g3, hb, h1, hn, hc => by
    have hn0 := hn
    have hc0 := hc
    rw [joinL] at hn
    by_cases hs : one s = []
    · rw [if_pos hs] at hn; exact absurd rfl hn
    · rw [if_neg hs] at hn
      have e1 : joinL one 2 (s :: r) acc = joinL one 2 r (bothN 2 acc (one s)) := by rw [joinL, if_neg hs]
      obtain ⟨d, d2, q1, q2, q3, q4, q5, q6⟩ := joinL_mono (k := 2) (.inl rfl) (s :: r) acc acc da da g1 g2 (Nat.le_refl _) hb h1 h1 (Int.le_refl _) hn0
      have hok := (ex_ok q2).1 hc0
      have hca : checkF acc = 0 := (ex_ok h1).2 ⟨by omega, by omega⟩
      rw [e1] at hc ⊢
      obtain ⟨dd, hE⟩ := g1 s List.mem_cons_self hs
      have h3 := g2 s List.mem_cons_self
      rw [List.length_cons, Nat.add_mul, Nat.one_mul] at hb
      rw [joinL_run tg r (bothN 2 acc (one s)) (1 + max da dd) (fun x hx => g1 x (List.mem_cons_of_mem _ hx)) (fun x hx => g2 x (List.mem_cons_of_mem _ hx)) (fun x hx => g3 x (List.mem_cons_of_mem _ hx)) (by rw [bothN_len]; omega) (ex_both2 (.inl rfl) h1 hE (by omega) (by omega)) hn hc]
      rw [run_both tg hca (g3 s List.mem_cons_self hs), if_neg (by decide), if_neg (by decide), if_pos rfl, List.all_cons, Bool.and_assoc]
/-! ### Lines of two lists -/
theorem joined_eq {x y : List ByteArray} (hx : x ≠ []) : linesJ (x ++ y) = if linesJ x = [] then [] else joinL line1 2 y (linesJ x) := by
  cases x with
  | nil => exact absurd rfl hx
  | cons s r =>
    have e1 : linesJ (s :: r ++ y) = if line1 s = [] then [] else joinL line1 2 (r ++ y) (line1 s) := rfl
    have e2 : linesJ (s :: r) = if line1 s = [] then [] else joinL line1 2 r (line1 s) := rfl
    rw [e1, e2]
    by_cases hs : line1 s = []
    · rw [if_pos hs, if_pos hs, if_pos rfl]
    · rw [if_neg hs, if_neg hs, joinL_app]
      by_cases h : joinL line1 2 r (line1 s) = []
      · have hr : r ≠ [] := by
          intro e
          rw [e, joinL] at h
          exact hs h
        rw [if_pos ⟨h, hr⟩, if_pos h]
      · rw [if_neg (fun q => h q.1), if_neg h]
theorem joined_ne {x y : List ByteArray} (hx : x ≠ []) (hy : y ≠ []) (lx : x.length ≤ 512) (ly : y.length ≤ 512) (sx : ∀ s ∈ x, s.size ≤ 512) (sy : ∀ s ∈ y, s.size ≤ 512) (hC : linesJ (x ++ y) ≠ []) :
    linesJ x ≠ [] ∧ linesJ y ≠ [] ∧ ∃ dA dB dC, Ex (linesJ x) dA ∧ Ex (linesJ y) dB ∧ Ex (linesJ (x ++ y)) dC ∧ dA ≤ dC ∧ dB ≤ dC ∧ (linesJ (x ++ y)).length = (linesJ x).length + (linesJ y).length + 1 := by
  rw [joined_eq hx] at hC ⊢
  by_cases hA : linesJ x = []
  · rw [if_pos hA] at hC; exact absurd rfl hC
  rw [if_neg hA] at hC ⊢
  obtain ⟨dA, eA⟩ := lines_ex (by omega) sx hA
  have hAl := joinF_len (k := 2) x (one := line1) (M1 := 60) (fun t ht => checked_len _)
  have hAl2 : (linesJ x).length ≤ x.length * (60 + 1) := hAl
  cases y with
  | nil => exact absurd rfl hy
  | cons t r =>
    rw [joinL] at hC ⊢
    by_cases ht : line1 t = []
    · rw [if_pos ht] at hC; exact absurd rfl hC
    rw [if_neg ht] at hC ⊢
    have eB : linesJ (t :: r) = joinL line1 2 r (line1 t) := by
      show (if line1 t = [] then [] else joinL line1 2 r (line1 t)) = _
      rw [if_neg ht]
    have st := sy t List.mem_cons_self
    obtain ⟨dt, et⟩ := line1_ex st ht
    have htl : (line1 t).length ≤ 60 := checked_len _
    rw [List.length_cons] at ly
    obtain ⟨d, d2, q1, q2, q3, q4, q5, q6⟩ := joinL_mono (k := 2) (one := line1) (M := 60) (.inl rfl) r (line1 t) (bothN 2 (linesJ x) (line1 t)) dt (1 + max dA dt) (fun s hs hn => line1_ex (sy s (List.mem_cons_of_mem _ hs)) hn) (fun s hs => checked_len _) (by rw [bothN_len]; omega) (by rw [bothN_len]; omega) et (ex_both2 (.inl rfl) eA et (by omega) (by omega)) (by omega) hC
    rw [bothN_len] at q6
    rw [eB]
    refine ⟨hA, ?_, dA, d, d2, eA, q1, q2, by omega, q3, by omega⟩
    intro e
    have := q1.2
    rw [e] at this
    exact absurd this (by decide)
theorem joinL_none {one : ByteArray → List Nd} {k : Int} : ∀ (ls : List ByteArray) (a b : List Nd), b ≠ [] → joinL one k ls a ≠ [] → joinL one k ls b ≠ []
  | [], a, b, hb, _ => hb
  | s :: r, a, b, hb, h => by
    rw [joinL] at h ⊢
    by_cases hs : one s = []
    · rw [if_pos hs] at h; exact absurd rfl h
    · rw [if_neg hs] at h ⊢
      exact joinL_none r _ _ (bothN_ne _ _ _) h
theorem joined_some {x y : List ByteArray} (hx : x ≠ []) (hA : linesJ x ≠ []) (hB : linesJ y ≠ []) : linesJ (x ++ y) ≠ [] := by
  rw [joined_eq hx, if_neg hA]
  cases y with
  | nil => exact hA
  | cons t r =>
    have eB : linesJ (t :: r) = if line1 t = [] then [] else joinL line1 2 r (line1 t) := rfl
    rw [eB] at hB
    rw [joinL]
    by_cases ht : line1 t = []
    · rw [if_pos ht] at hB; exact absurd rfl hB
    · rw [if_neg ht] at hB ⊢
      exact joinL_none r _ _ (bothN_ne _ _ _) hB
theorem line1_ok {s : ByteArray} (h : line1 s ≠ []) : checkF (line1 s) = 0 := by
  unfold line1 lineF checkedF at h ⊢
  by_cases h1 : lineJ s ≠ [] ∧ checkF (lineJ s) = 0
  · rw [if_pos h1]; exact h1.2
  · rw [if_neg h1] at h; exact absurd rfl h
/-- A list of lines is so if each is. -/
theorem lines_run (tg : ByteArray → Bool) {x : List ByteArray} (hx : x ≠ []) (lx : x.length ≤ 2000) (sx : ∀ s ∈ x, s.size ≤ 512) (hA : linesJ x ≠ []) (hc : checkF (linesJ x) = 0) : runF tg (linesJ x) = x.all fun s => runF tg (line1 s) := by
  cases x with
  | nil => exact absurd rfl hx
  | cons t r =>
    have eA : linesJ (t :: r) = if line1 t = [] then [] else joinL line1 2 r (line1 t) := rfl
    by_cases ht : line1 t = []
    · rw [eA, if_pos ht] at hA; exact absurd rfl hA
    rw [eA, if_neg ht] at hA hc ⊢
    obtain ⟨dt, et⟩ := line1_ex (sx t List.mem_cons_self) ht
    have htl : (line1 t).length ≤ 60 := checked_len _
    rw [List.length_cons] at lx
    rw [joinL_run tg (M := 60) r (line1 t) dt (fun s hs hn => line1_ex (sx s (List.mem_cons_of_mem _ hs)) hn) (fun s hs => checked_len _) (fun s hs hn => line1_ok hn) (by omega) et hA hc, List.all_cons]
/-- An expression's depth is no more than its length. -/
theorem ex_depth {l : List Nd} {d : Int} (h : Ex l d) : d ≤ (l.length : Int) := by
  have h1 := ex_whole h
  have h2 := whole_bd l l.length (l.length - 1)
  rw [h1] at h2
  exact h2.2.2.2
end Go.Proofs.YtjndccjpjknbkaaDoor.PurePl
namespace Go.Proofs.YtjndccjpjknbkaaDoor.PurePl
open Go.RowKit Go.Proofs.YtjndccjpjknbkaaDoor.PPl Go.Proofs.YtjndccjpjknbkaaDoorW.PrintWords Go.Proofs.YtjndccjpjknbkaaDoorW.PrintLast Go.Proofs.YtjndccjpjknbkaaDoorW.PrintMore Go.Proofs.YtjndccjpjknbkaaDoor.BytesLib Go.Proofs.YtjndccjpjknbkaaDoor.ExLib Go.Proofs.YtjndccjpjknbkaaDoor.ExNode Go.Proofs.YtjndccjpjknbkaaDoor.ExTag Go.Proofs.YtjndccjpjknbkaaDoor.ExSem Go.Proofs.YtjndccjpjknbkaaDoor.ExLaw Go.Proofs.YtjndccjpjknbkaaDoor.ExLaw2 Go.Proofs.YtjndccjpjknbkaaDoor.ExLaw3 Go.Proofs.YtjndccjpjknbkaaDoor.ExBoth Go.Proofs.YtjndccjpjknbkaaDoor.PlJoin Go.Proofs.YtjndccjpjknbkaaDoor.PlLine Go.Proofs.YtjndccjpjknbkaaDoor.PlSplit
open Go.Proofs.YtjndccjpjknbkaaDoor.ExCheck (checkF)
set_option linter.unusedVariables false

theorem lines_two (l : List ByteArray) : ((linesF l).2 = 0 ∧ linesJ l ≠ [] ∧ checkF (linesJ l) = 0 ∧ (linesF l).1 = linesJ l) ∨ ((linesF l).2 = 120 ∧ ¬ (linesJ l ≠ [] ∧ checkF (linesJ l) = 0)) := by
  unfold linesF checkedF
  by_cases h : linesJ l ≠ [] ∧ checkF (linesJ l) = 0
  · rw [if_pos h]; exact .inl ⟨rfl, h.1, h.2, rfl⟩
  · rw [if_neg h]; exact .inr ⟨rfl, h⟩
theorem enc_dec (N : List Nd) : (N.map plus_Lines.dec).map expr_Eval.enc = N := by
  rw [List.map_map]
  exact List.map_id N
theorem eval_dec {N : List Nd} (ht : smallT N) (ts : List ByteArray) : expr_Eval.f (N.map plus_Lines.dec) ts = some (evalF N ts) := by
  unfold expr_Eval.f
  rw [enc_dec, if_pos]
  unfold expr_Eval.tagsOk
  rw [List.all_eq_true]
  intro x hx
  obtain ⟨y, hy, rfl⟩ := List.mem_map.1 hx
  exact decide_eq_true (ht y hy)
theorem eval_okL {N : List Nd} (h : checkF N = 0) (ts : List ByteArray) : evalF N ts = runF (fun x => Lib.containsS ts x) N := by unfold evalF; rw [decide_eq_true h]; rfl
theorem joined_j2 (x y ts : List ByteArray) (hx : x ≠ []) (hy : y ≠ []) (lx : x.length ≤ 512) (ly : y.length ≤ 512) (sx : ∀ s ∈ x, s.size ≤ 512) (sy : ∀ s ∈ y, s.size ≤ 512) (b : Bool) (hb : b = true ↔ ¬ ((linesF x).2 = 0 ∧ (linesF y).2 = 0)) :
    Ev (fun k => graftbedlaw13_PlusJoined.j2 k ts ((linesF x).1.map plus_Lines.dec) ((linesF y).1.map plus_Lines.dec) ((linesF (x ++ y)).1.map plus_Lines.dec) (linesF (x ++ y)).2 b) true := by
  have sxy : ∀ s ∈ x ++ y, s.size ≤ 512 := fun s hs => (List.mem_append.1 hs).elim (sx s) (sy s)
  have lxy : (x ++ y).length ≤ 2000 := by rw [List.length_append]; omega
  have hxy : x ++ y ≠ [] := fun e => hx (List.append_eq_nil_iff.1 e).1
  cases b with
  | true =>
    refine Ev.step (f := fun _ => some true) (fun k => ?_) (Ev.now _)
    rw [graftbedlaw13_PlusJoined.j2, if_pos rfl]
    have hno := hb.1 rfl
    rcases lines_two (x ++ y) with ⟨h1, h2, h3, h4⟩ | ⟨h1, h2⟩
    · exfalso
      apply hno
      obtain ⟨hA, hB, dA, dB, dC, eA, eB, eC, q1, q2, q3⟩ := joined_ne hx hy lx ly sx sy h2
      have hok := (ex_ok eC).1 h3
      have cA : checkF (linesJ x) = 0 := (ex_ok eA).2 ⟨by omega, by omega⟩
      have cB : checkF (linesJ y) = 0 := (ex_ok eB).2 ⟨by omega, by omega⟩
      refine ⟨?_, ?_⟩
      · rcases lines_two x with h | h
        · exact h.1
        · exact absurd ⟨hA, cA⟩ h.2
      · rcases lines_two y with h | h
        · exact h.1
        · exact absurd ⟨hB, cB⟩ h.2
    · rw [h1]; rfl
  | false =>
    have hyes : (linesF x).2 = 0 ∧ (linesF y).2 = 0 := by
      by_cases h : (linesF x).2 = 0 ∧ (linesF y).2 = 0
      · exact h
      · exact absurd (hb.2 h) (by decide)
    obtain ⟨nA, cA, fA⟩ : linesJ x ≠ [] ∧ checkF (linesJ x) = 0 ∧ (linesF x).1 = linesJ x := by
      rcases lines_two x with h | h
      · exact h.2
      · exfalso
        have h1 := h.1
        rw [hyes.1] at h1
        exact absurd h1 (by decide)
    obtain ⟨nB, cB, fB⟩ : linesJ y ≠ [] ∧ checkF (linesJ y) = 0 ∧ (linesF y).1 = linesJ y := by
      rcases lines_two y with h | h
      · exact h.2
      · exfalso
        have h1 := h.1
        rw [hyes.2] at h1
        exact absurd h1 (by decide)
    have nC := joined_some hx nA nB
    obtain ⟨_, _, dA, dB, dC, eA, eB, eC, q1, q2, q3⟩ := joined_ne hx hy lx ly sx sy nC
    have oA := (ex_ok eA).1 cA
    have oB := (ex_ok eB).1 cB
    refine Ev.step (f := fun _ => some true) (fun k => ?_) (Ev.now _)
    rw [graftbedlaw13_PlusJoined.j2, if_neg (by decide), fA, fB]
    rcases lines_two (x ++ y) with ⟨h1, h2, h3, h4⟩ | ⟨h1, h2⟩
    · rw [h1, if_pos rfl, h4, eval_dec (lines_small sxy), eval_dec (lines_small sx), eval_dec (lines_small sy), eval_okL h3, eval_okL cA, eval_okL cB]
      simp only [Option.bind_some, List.length_map]
      rw [lines_run _ hxy lxy sxy h2 h3, lines_run _ hx (by omega) sx nA cA, lines_run _ hy (by omega) sy nB cB, List.all_append, q3]
      have hw : wrap64 (wrap64 (((linesJ x).length : Int) + ((linesJ y).length : Int)) + 1) = (((linesJ x).length + (linesJ y).length + 1 : Nat) : Int) := by
        rw [w64u (x := ((linesJ x).length : Int) + ((linesJ y).length : Int)) (by omega) (by omega), w64u (by omega) (by omega)]
        omega
      rw [hw]
      cases x.all fun s => runF (fun z => Lib.containsS ts z) (line1 s) <;> cases y.all fun s => runF (fun z => Lib.containsS ts z) (line1 s) <;> simp
    · rw [h1, if_neg (by decide)]
      have hnc : ¬ checkF (linesJ (x ++ y)) = 0 := fun e => h2 ⟨nC, e⟩
      rw [ex_ok eC] at hnc
      have hdp := ex_depth eC
      simp only [List.length_map]
      rw [w64u (by omega) (by omega), decide_eq_true (by omega)]
end Go.Proofs.YtjndccjpjknbkaaDoor.PurePl
namespace Go.Proofs.YtjndccjpjknbkaaDoor.Pure
open Go.RowKit Go.Proofs.YtjndccjpjknbkaaDoor.PPl Go.Proofs.YtjndccjpjknbkaaDoor.PurePl Go.Proofs.YtjndccjpjknbkaaDoorW.PrintWords Go.Proofs.YtjndccjpjknbkaaDoorW.PrintLast Go.Proofs.YtjndccjpjknbkaaDoorW.PrintMore Go.Proofs.YtjndccjpjknbkaaDoor.PlJoin Go.Proofs.YtjndccjpjknbkaaDoor.PlLine
set_option linter.unusedVariables false
theorem PlusJoined (l0 l1 l2 : List ByteArray) (w0 : l0.length * 16 ≤ 140737488351232 ∧ ∀ y ∈ l0, y.size ≤ 140737488351232) (w1 : l1.length * 16 ≤ 140737488351232 ∧ ∀ y ∈ l1, y.size ≤ 140737488351232) (w2 : l2.length * 16 ≤ 140737488351232 ∧ ∀ y ∈ l2, y.size ≤ 140737488351232) : ∃ k, graftbedlaw13_PlusJoined.f k l0 l1 l2 = some true := by
  refine Ev.rounds (g := fun k => graftbedlaw13_PlusJoined.f k l0 l1 l2) ?_
  have e3 : plus_Line.f ⟨#[]⟩ = some ((lineF ⟨#[]⟩).1.map plus_Line.dec, (lineF ⟨#[]⟩).2) := by
    unfold plus_Line.f
    rw [if_pos (by decide)]
  rw [line_empty] at e3
  have hj : Ev (fun k => graftbedlaw13_PlusJoined.j0 k l0 l1 l2 120 true) true := Ev.step (f := fun _ => some true) (fun k => by rw [graftbedlaw13_PlusJoined.j0, if_pos rfl]; rfl) (Ev.now _)
  refine Ev.congr (fun k => by unfold graftbedlaw13_PlusJoined.f; rw [e3, Option.bind_some]) ?_
  obtain ⟨b0, hb0, hc0⟩ := heavy_ev l0
  obtain ⟨b1, hb1, hc1⟩ := heavy_ev l1
  refine Ev.bind hb0 ?_
  cases b0 with
  | true => exact Ev.congr (fun k => by rw [if_pos rfl]) hj
  | false =>
  refine Ev.congr (fun k => by rw [if_neg (by decide)]) ?_
  refine Ev.bind hb1 ?_
  cases b1 with
  | true => exact Ev.congr (fun k => by rw [if_pos rfl]) hj
  | false =>
  obtain ⟨lx, sx⟩ := hc0 rfl
  obtain ⟨ly, sy⟩ := hc1 rfl
  refine Ev.congr (fun k => by rw [if_neg (by decide)]) ?_
  by_cases h2 : (l2.length : Int) > 50
  · exact Ev.congr (fun k => by rw [if_pos h2]) hj
  by_cases hx : (l0.length : Int) = 0
  · exact Ev.congr (fun k => by rw [if_neg h2, if_pos hx]) hj
  by_cases hy : (l1.length : Int) = 0
  · exact Ev.congr (fun k => by rw [if_neg h2, if_neg hx, beq_iff_eq.2 hy]) hj
  have nx : l0 ≠ [] := fun e => hx (by rw [e]; rfl)
  have ny : l1 ≠ [] := fun e => hy (by rw [e]; rfl)
  have eL : ∀ l : List ByteArray, l.length ≤ 2000 → (∀ t ∈ l, t.size ≤ 512) → plus_Lines.f l = some ((linesF l).1.map plus_Lines.dec, (linesF l).2) := fun l h1 h2 => by
    unfold plus_Lines.f plus_Lines.small
    rw [if_pos h1, if_pos (by rw [List.all_eq_true]; intro t ht; exact decide_eq_true (h2 t ht))]
  have sxy : ∀ s ∈ l0 ++ l1, s.size ≤ 512 := fun s hs => (List.mem_append.1 hs).elim (sx s) (sy s)
  refine Ev.congr (f := fun k => graftbedlaw13_PlusJoined.j0 k l0 l1 l2 120 false) (fun k => by rw [if_neg h2, if_neg hx, beq_eq_false_iff_ne.2 hy]) ?_
  have es0 := eL l0 (by omega) sx
  have es1 := eL l1 (by omega) sy
  have es2 := eL (l0 ++ l1) (by rw [List.length_append]; omega) sxy
  have hfn : ∀ k, graftbedlaw13_PlusJoined.j0 (k + 1) l0 l1 l2 120 false = (graftbedref13_Lines.f k l0).bind fun bt295 => if (linesF l0).2 = bt295.2 then graftbedlaw13_PlusJoined.j1 k l2 ((linesF l0).1.map plus_Lines.dec) (linesF l0).2 ((linesF l1).1.map plus_Lines.dec) (linesF l1).2 ((linesF (l0 ++ l1)).1.map plus_Lines.dec) (linesF (l0 ++ l1)).2 ((120 : Int) != 120) else graftbedlaw13_PlusJoined.j1 k l2 ((linesF l0).1.map plus_Lines.dec) (linesF l0).2 ((linesF l1).1.map plus_Lines.dec) (linesF l1).2 ((linesF (l0 ++ l1)).1.map plus_Lines.dec) (linesF (l0 ++ l1)).2 true := fun k => by
    rw [graftbedlaw13_PlusJoined.j0, if_neg (by decide), Option.bind_some, if_pos (by simp only [List.length_nil]; omega), Option.bind_some]
    have en : ([] : List ByteArray) ++ l0 = l0 := List.nil_append l0
    rw [en, if_pos (by omega), es0, Option.bind_some, es1, Option.bind_some, es2, Option.bind_some]
  refine Ev.step (fun k => hfn k) ?_
  refine Ev.bind (f := fun k bt295 => if (linesF l0).2 = bt295.2 then graftbedlaw13_PlusJoined.j1 k l2 ((linesF l0).1.map plus_Lines.dec) (linesF l0).2 ((linesF l1).1.map plus_Lines.dec) (linesF l1).2 ((linesF (l0 ++ l1)).1.map plus_Lines.dec) (linesF (l0 ++ l1)).2 ((120 : Int) != 120) else graftbedlaw13_PlusJoined.j1 k l2 ((linesF l0).1.map plus_Lines.dec) (linesF l0).2 ((linesF l1).1.map plus_Lines.dec) (linesF l1).2 ((linesF (l0 ++ l1)).1.map plus_Lines.dec) (linesF (l0 ++ l1)).2 true) (rlines_ev (by omega) sx) ?_
  refine Ev.congr (f := fun k => graftbedlaw13_PlusJoined.j1 k l2 ((linesF l0).1.map plus_Lines.dec) (linesF l0).2 ((linesF l1).1.map plus_Lines.dec) (linesF l1).2 ((linesF (l0 ++ l1)).1.map plus_Lines.dec) (linesF (l0 ++ l1)).2 false) (fun k => by rw [if_pos rfl]; rfl) ?_
  by_cases h0 : (linesF l0).2 = 0
  · refine Ev.step (fun k => by rw [graftbedlaw13_PlusJoined.j1, if_neg (by decide), if_pos h0]) (joined_j2 l0 l1 l2 nx ny lx ly sx sy _ ?_)
    rw [bne_iff_ne]
    exact ⟨fun h q => h q.2, fun h q => h ⟨h0, q⟩⟩
  · refine Ev.step (fun k => by rw [graftbedlaw13_PlusJoined.j1, if_neg (by decide), if_neg h0]) (joined_j2 l0 l1 l2 nx ny lx ly sx sy _ ?_)
    exact ⟨fun _ q => h0 q.1, fun _ => rfl⟩
end Go.Proofs.YtjndccjpjknbkaaDoor.Pure
