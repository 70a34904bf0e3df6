/- Elder lines: the reference's Line and Lines answer what ours answer. -/
import Derived.Test.YtjndccjpjknbkaaDoorMpa
import Derived.Test.YtjndccjpjknbkaaDoorPurePlBase
namespace Go.Proofs.YtjndccjpjknbkaaDoor.PurePl
open Go.RowKit Go.Proofs.YtjndccjpjknbkaaDoor.PPl Go.Proofs.YtjndccjpjknbkaaDoorW.PrintWords Go.Proofs.YtjndccjpjknbkaaDoorW.PrintLast Go.Proofs.YtjndccjpjknbkaaDoorW.PrintMore Go.Proofs.YtjndccjpjknbkaaDoor.BytesLib Go.Proofs.YtjndccjpjknbkaaDoor.ExLib Go.Proofs.YtjndccjpjknbkaaDoor.ExNode Go.Proofs.YtjndccjpjknbkaaDoor.ExTag Go.Proofs.YtjndccjpjknbkaaDoor.ExSem Go.Proofs.YtjndccjpjknbkaaDoor.ExLaw Go.Proofs.YtjndccjpjknbkaaDoor.ExLaw2 Go.Proofs.YtjndccjpjknbkaaDoor.ExLaw3 Go.Proofs.YtjndccjpjknbkaaDoor.ExBoth Go.Proofs.YtjndccjpjknbkaaDoor.PlJoin Go.Proofs.YtjndccjpjknbkaaDoor.PlLine Go.Proofs.YtjndccjpjknbkaaDoor.PlSplit
open Go.Proofs.YtjndccjpjknbkaaDoor.ExCheck (checkF)
set_option linter.unusedVariables false

/-! ### What is not empty is an expression -/
theorem ex_tag1 {t : ByteArray} (h : tagOk t = true) : Ex [⟨0, t, 0, 0⟩] 1 := by
  refine ⟨?_, by simp⟩
  rw [steps_cons (step_tag (o := []) (d := []) (i := 0) h rfl), stepsC]
  rfl
theorem notN'_eq {a : List Nd} (h : a.length ≤ 1000000) : notN' a = notN a := by
  unfold notN' notN
  rw [w64u (by omega) (by omega)]
theorem term_ex {s : ByteArray} (h : termF s ≠ []) : ∃ dp, Ex (termF s) dp := by
  unfold termF at h ⊢
  by_cases h1 : tagOk (cutP s bangB) = true
  · rw [if_pos h1]
    by_cases h2 : hasP s bangB = true
    · rw [if_pos h2, notN'_eq (by simp)]; exact ⟨_, ex_not (ex_tag1 h1)⟩
    · rw [if_neg h2]; exact ⟨_, ex_tag1 h1⟩
  · rw [if_neg h1] at h; exact absurd rfl h
theorem ex_both2 {k da db : Int} {a b : List Nd} (hk : k = 2 ∨ k = 3) (ha : Ex a da) (hb : Ex b db) (hl : a.length ≤ 1000000) (hl2 : b.length ≤ 1000000) : Ex (bothN k a b) (1 + max da db) := by
  obtain ⟨h1, h10⟩ := ha
  obtain ⟨h2, h20⟩ := hb
  have h3 : stepsC (b.map (shiftN (a.length : Int))) (0 + (a.length : Int)) [(a.length : Int) - 1] [da] = some ([(a.length : Int) - 1, (b.length : Int) - 1 + (a.length : Int)], [da, db]) := steps_shift (m := (a.length : Int)) (p := [(a.length : Int) - 1]) (e := [da]) rfl (by omega) (by omega) b 0 [] [] _ _ h2 rfl (fun y hy => by cases hy) (Int.le_refl _) (by omega)
  refine ⟨?_, by unfold bothN; simp; omega⟩
  unfold bothN
  rw [List.append_assoc, steps_app _ _ _ _ _ _ _ h1]
  rw [show (0 : Int) + (a.length : Int) = 0 + (a.length : Int) from rfl, steps_app _ _ _ _ _ _ _ h3]
  rw [w64u (by omega) (by omega), w64u (by omega) (by omega)]
  have hst := step_two (o := []) (d := []) (i := 0 + (a.length : Int) + ((b.map (shiftN (a.length : Int))).length : Int)) (a := (a.length : Int) - 1) (b := (a.length : Int) + (b.length : Int) - 1) (p := da) (q := db) hk rfl
  rw [List.nil_append, List.nil_append, List.nil_append, List.nil_append] at hst
  show stepsC _ _ [(a.length : Int) - 1, (b.length : Int) - 1 + (a.length : Int)] [da, db] = _
  rw [show (b.length : Int) - 1 + (a.length : Int) = (a.length : Int) + (b.length : Int) - 1 from by omega, steps_cons hst, stepsC]
  simp
  omega
theorem joinL_ex {one : ByteArray → List Nd} {k : Int} {M : Nat} (hk : k = 2 ∨ k = 3) : ∀ (ls : List ByteArray) (acc : List Nd), (∀ s ∈ ls, one s ≠ [] → ∃ dp, Ex (one s) dp) → (∀ s ∈ ls, (one s).length ≤ M) → acc.length + ls.length * (M + 1) ≤ 1000000 → (∃ dp, Ex acc dp) → joinL one k ls acc ≠ [] → ∃ dp, Ex (joinL one k ls acc) dp
  | [], acc, _, _, _, ha, _ => ha
  | s :: r, acc, h1, h2, hl, ⟨d, ha⟩, hn => by
    unfold joinL at hn ⊢
    by_cases hs : one s = []
    · rw [if_pos hs] at hn; exact absurd rfl hn
    · rw [if_neg hs] at hn ⊢
      obtain ⟨d2, hb⟩ := h1 s List.mem_cons_self hs
      have h3 := h2 s List.mem_cons_self
      rw [List.length_cons, Nat.add_mul, Nat.one_mul] at hl
      exact joinL_ex hk r _ (fun x hx => h1 x (List.mem_cons_of_mem _ hx)) (fun x hx => h2 x (List.mem_cons_of_mem _ hx)) (by rw [bothN_len]; omega) ⟨_, ex_both2 hk ha hb (by omega) (by omega)⟩ hn
theorem joinF_ex {one : ByteArray → List Nd} {k : Int} {M : Nat} (hk : k = 2 ∨ k = 3) (ls : List ByteArray) (h1 : ∀ s ∈ ls, one s ≠ [] → ∃ dp, Ex (one s) dp) (h2 : ∀ s ∈ ls, (one s).length ≤ M) (hl : ls.length * (M + 1) ≤ 1000000) (hn : joinF one k ls ≠ []) : ∃ dp, Ex (joinF one k ls) dp := by
  cases ls with
  | nil => exact absurd rfl hn
  | cons s r =>
    have e : joinF one k (s :: r) = if one s = [] then [] else joinL one k r (one s) := rfl
    rw [e] at hn ⊢
    by_cases hs : one s = []
    · rw [if_pos hs] at hn; exact absurd rfl hn
    · rw [if_neg hs] at hn ⊢
      have h3 := h2 s List.mem_cons_self
      rw [List.length_cons, Nat.add_mul, Nat.one_mul] at hl
      exact joinL_ex hk r _ (fun x hx => h1 x (List.mem_cons_of_mem _ hx)) (fun x hx => h2 x (List.mem_cons_of_mem _ hx)) (by omega) (h1 s List.mem_cons_self hs) hn
theorem opt_ex {s : ByteArray} (hs : s.size ≤ 512) (h : optF s ≠ []) : ∃ dp, Ex (optF s) dp := by
  have := terms_len s
  exact joinF_ex (M := 2) (.inl rfl) _ (fun t _ ht => term_ex ht) (fun t _ => term_len t) (by omega) h
theorem opt_len2 {s : ByteArray} (hs : s.size ≤ 512) : (optF s).length ≤ 1539 := by
  have := opt_len s
  omega
theorem line_ex {s : ByteArray} (hs : s.size ≤ 512) (h : lineJ s ≠ []) : ∃ dp, Ex (lineJ s) dp := by
  have := fields_len s
  exact joinF_ex (M := 1539) (.inr rfl) _ (fun t ht hn => opt_ex (by have := fields_size ht; omega) hn) (fun t ht => opt_len2 (by have := fields_size ht; omega)) (by omega) h
theorem line1_ex {s : ByteArray} (hs : s.size ≤ 512) (h : line1 s ≠ []) : ∃ dp, Ex (line1 s) dp := by
  unfold line1 lineF checkedF at h ⊢
  by_cases h1 : lineJ s ≠ [] ∧ checkF (lineJ s) = 0
  · rw [if_pos h1]; exact line_ex hs h1.1
  · rw [if_neg h1] at h; exact absurd rfl h
theorem lines_ex {l : List ByteArray} (hl : l.length ≤ 2000) (hs : ∀ s ∈ l, s.size ≤ 512) (h : linesJ l ≠ []) : ∃ dp, Ex (linesJ l) dp :=
  joinF_ex (M := 60) (.inl rfl) _ (fun t ht hn => line1_ex (hs t ht) hn) (fun t ht => checked_len _) (by omega) h

/-! ### A join from a place on -/
def joinAt (one : ByteArray → List Nd) (k : Int) (ls : List ByteArray) (j : Nat) (acc : List Nd) : List Nd := if j = 0 then joinF one k ls else joinL one k (ls.drop j) acc
theorem joinAt_end {one : ByteArray → List Nd} {k : Int} {ls : List ByteArray} {acc : List Nd} (h : 0 < ls.length) : joinAt one k ls ls.length acc = acc := by
  unfold joinAt
  rw [if_neg (by omega), List.drop_length, joinL]
theorem joinAt_none {one : ByteArray → List Nd} {k : Int} {ls : List ByteArray} {j : Nat} {acc : List Nd} (hj : j < ls.length) (h : one ls[j] = []) : joinAt one k ls j acc = [] := by
  unfold joinAt
  by_cases h0 : j = 0
  · subst h0
    cases ls with
    | nil => rfl
    | cons s r =>
      have h' : one s = [] := h
      rw [if_pos rfl, joinF, if_pos h']
  · rw [if_neg h0, List.drop_eq_getElem_cons hj, joinL, if_pos h]
theorem joinAt_some {one : ByteArray → List Nd} {k : Int} {ls : List ByteArray} {j : Nat} {acc : List Nd} (hj : j < ls.length) (h : one ls[j] ≠ []) : joinAt one k ls j acc = joinAt one k ls (j + 1) (if j = 0 then one ls[j] else bothN k acc (one ls[j])) := by
  unfold joinAt
  by_cases h0 : j = 0
  · subst h0
    cases ls with
    | nil => cases hj
    | cons s r =>
      have h' : one s ≠ [] := h
      rw [if_pos rfl, joinF, if_neg h', if_neg (by omega), if_pos rfl]
      rfl
  · rw [if_neg h0, List.drop_eq_getElem_cons hj, joinL, if_neg h, if_neg (by omega), if_neg h0]

/-! ### The bang -/
theorem bang_eq {t : ByteArray} (h : 0 < t.size) : (bt t 0 == 33) = hasP t bangB := by
  have hl : 0 < (L t).length := by rw [L_length]; exact h
  have hb := bt_nat (s := t) (i := 0) hl
  have hc : ∃ c r, L t = c :: r := by
    cases hL : L t with
    | nil => rw [hL] at hl; cases hl
    | cons c r => exact ⟨c, r, rfl⟩
  obtain ⟨c, r, hc⟩ := hc
  have hb2 : bt t 0 = (c.toNat : Int) := by
    have : (L t)[0] = c := by simp [hc]
    rw [this] at hb
    exact hb
  rw [hb2]
  unfold hasP Lib.hasPrefix
  show _ = List.isPrefixOf [33] (L t)
  rw [hc]
  show _ = ((33 : UInt8) == c && List.isPrefixOf [] r)
  rw [show List.isPrefixOf ([] : List UInt8) r = true from by cases r <;> rfl, Bool.and_true]
  by_cases h33 : c = 33
  · subst h33; rfl
  · rw [beq_eq_false_iff_ne.2 (fun e => h33 e.symm), beq_eq_false_iff_ne.2 (fun e => h33 (by apply UInt8.toNat_inj.1; show c.toNat = 33; omega))]
theorem bang_none {t : ByteArray} (h : ¬ 0 < t.size) : hasP t bangB = false := by
  rw [Bool.eq_false_iff]
  intro he
  unfold hasP Lib.hasPrefix at he
  have := List.IsPrefix.length_le (List.isPrefixOf_iff_prefix.1 he)
  rw [show t.data.toList.length = t.size from L_length t] at this
  have h1 : bangB.data.toList.length = 1 := rfl
  omega
theorem bang_size {t : ByteArray} (he : hasP t bangB = true) : 1 ≤ t.size := by
  by_cases h : 0 < t.size
  · exact h
  · rw [bang_none h] at he; cases he
theorem bang_cut {t : ByteArray} (he : hasP t bangB = true) : t.extract 1 t.size = cutP t bangB := by
  apply L_inj
  rw [L_piece]
  have hs := bang_size he
  rw [← L_length, piece_all _ _ (by rw [L_length]; exact hs)]
  unfold hasP at he
  unfold cutP Lib.trimPrefix
  rw [he]
  rfl
theorem rd_str {l : List ByteArray} {i : Nat} (h : i < l.length) : rdOf ByteArray.empty l (i : Int) = l[i] := by
  unfold rdOf
  simp [List.getD, h]

/-! ### The reference's Line -/
theorem line_l1 (X4 : List Nd) (fs : List ByteArray) (i : Int) (ts : List ByteArray) (hts : ts.length ≤ 100000) (hts0 : 0 < ts.length) (hsz : ∀ t ∈ ts, t.size ≤ 1000000) (R : List S61 × Int) (J : List Nd)
    (hK : J ≠ [] → Ev (fun k => if i = 0 then graftbedref13_Line.l0 k (rus J) fs (wrap64 (i + 1)) else ((graftbedref12_Or.f (rus X4) (rus J)).bind fun t => graftbedref13_Line.l0 k t fs (wrap64 (i + 1)))) R)
    (hE : J = [] → R = ([], 120)) : ∀ (d j : Nat) (acc : List Nd), ts.length - j = d → j ≤ ts.length → acc.length ≤ 3 * j → (0 < j → acc ≠ []) → joinAt termF 2 ts j acc = J →
    Ev (fun k => graftbedref13_Line.l1 k (rus X4) fs i (rus acc) ts (j : Int)) R
  | 0, j, acc, hd, hj, hl, ha, hJ => by
    obtain rfl : j = ts.length := by omega
    rw [joinAt_end hts0] at hJ
    subst hJ
    exact Ev.step (fun k => by rw [graftbedref13_Line.l1, if_neg (by omega)]) (hK (ha hts0))
  | d + 1, j, acc, hd, hj, hl, ha, hJ => by
    have hlt : j < ts.length := by omega
    have hrd := rd_str hlt
    have htx := hsz ts[j] (List.getElem_mem hlt)
    have hN := joinAt_none (one := termF) (k := 2) (acc := acc) hlt
    have hS := joinAt_some (one := termF) (k := 2) (acc := acc) hlt
    have hrec := fun (acc2 : List Nd) (h1 : acc2.length ≤ 3 * (j + 1)) (h2 : acc2 ≠ []) (h3 : joinAt termF 2 ts (j + 1) acc2 = J) => line_l1 X4 fs i ts hts hts0 hsz R J hK hE d (j + 1) acc2 (by omega) (by omega) h1 (fun _ => h2) h3
    obtain ⟨t, ht⟩ : ∃ t, ts[j] = t := ⟨_, rfl⟩
    rw [ht] at hrd htx hN hS
    have hw : wrap64 ((j : Int) + 1) = ((j + 1 : Nat) : Int) := by rw [w64u (by omega) (by omega)]; rfl
    refine Ev.step (f := fun k => graftbedref13_Line.j2 k (rus X4) fs i (rus acc) ts (j : Int) t (hasP t bangB)) (fun k => ?_) ?_
    · rw [graftbedref13_Line.l1, if_pos (by omega), if_pos (by omega), hrd]
      by_cases h0 : 0 < t.size
      · rw [if_pos (by omega), if_pos (by omega), bang_eq h0]
      · rw [if_neg (by omega), bang_none h0]
    refine Ev.step (f := fun k => graftbedref13_Line.j3 k (rus X4) fs i (rus acc) ts (j : Int) (cutP t bangB) (hasP t bangB)) (fun k => ?_) ?_
    · rw [graftbedref13_Line.j2]
      by_cases hb : hasP t bangB = true
      · rw [if_pos hb, if_pos (by have := bang_size hb; omega), bang_cut hb]
      · rw [if_neg hb, cutP_no (by simpa using hb)]
    have hcs : (cutP t bangB).size ≤ 4611686018427387904 := by
      by_cases hb : hasP t bangB = true
      · rw [← bang_cut hb, ByteArray.size_extract]; omega
      · rw [cutP_no (by simpa using hb)]; omega
    refine Ev.step (fun k => by rw [graftbedref13_Line.j3]) (Ev.bind (rtag_eq _ hcs) ?_)
    by_cases hok : tagOk (cutP t bangB) = true
    · have hne : termF t ≠ [] := by
        unfold termF
        rw [if_pos hok]
        split
        · unfold notN'; simp
        · simp
      have hlen := term_len t
      have hl1 : (if j = 0 then termF t else bothN 2 acc (termF t)).length ≤ 3 * (j + 1) := by
        by_cases h0 : j = 0
        · rw [if_pos h0]; omega
        · rw [if_neg h0, bothN_len]; omega
      have hl2 : (if j = 0 then termF t else bothN 2 acc (termF t)) ≠ [] := by
        by_cases h0 : j = 0
        · rw [if_pos h0]; exact hne
        · rw [if_neg h0]; exact bothN_ne _ _ _
      have h1 := hrec _ hl1 hl2 (by rw [← hS hne]; exact hJ)
      refine Ev.congr (fun k => ?_) h1
      rw [if_pos hok, Option.bind_some]
      have hA : graftbedref12_And.f (rus acc) (rus (termF t)) = some (rus (bothN 2 acc (termF t))) := rAnd_eq (by omega) (by omega)
      have hfin : (if (j : Int) = 0 then graftbedref13_Line.l1 k (rus X4) fs i (rus (termF t)) ts (wrap64 ((j : Int) + 1)) else (graftbedref12_And.f (rus acc) (rus (termF t))).bind fun t180 => graftbedref13_Line.l1 k (rus X4) fs i t180 ts (wrap64 ((j : Int) + 1))) = graftbedref13_Line.l1 k (rus X4) fs i (rus (if j = 0 then termF t else bothN 2 acc (termF t))) ts ((j + 1 : Nat) : Int) := by
        rw [hw]
        by_cases h0 : j = 0
        · rw [if_pos (by omega), if_pos h0]
        · rw [if_neg (by omega), if_neg h0, hA, Option.bind_some]
      by_cases hb : hasP t bangB = true
      · have hNt : graftbedref12_Not.f [(⟨0, cutP t bangB, 0, 0⟩ : S61)] = some (rus (termF t)) := by
          have : termF t = notN' [⟨0, cutP t bangB, 0, 0⟩] := by unfold termF; rw [if_pos hok, if_pos hb]
          rw [this]
          exact rNot_eq (a := [⟨0, cutP t bangB, 0, 0⟩]) (by simp)
        rw [if_pos hb, hNt, Option.bind_some]
        exact hfin
      · have hNt : [(⟨0, cutP t bangB, 0, 0⟩ : S61)] = rus (termF t) := by
          have : termF t = [⟨0, cutP t bangB, 0, 0⟩] := by unfold termF; rw [if_pos hok, if_neg hb]
          rw [this]
          rfl
        rw [if_neg hb, hNt]
        exact hfin
    · have he : termF t = [] := by unfold termF; rw [if_neg hok]
      rw [hN he] at hJ
      rw [hE hJ.symm]
      exact Ev.congr (f := fun _ => some ([], 120)) (fun k => by rw [if_neg hok]) (Ev.now _)
end Go.Proofs.YtjndccjpjknbkaaDoor.PurePl
