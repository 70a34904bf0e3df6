/- SemverPre, as a statement over numbers and lists: identifiers of digits alone stand by their value, ahead of all others; more of them behind the same ones is higher. No condition but the machine's own. -/
import Derived.Test.YtaddonafdllciaaDoorMpa
import Derived.Test.YtaddonafdllciaaDoorPureSemverSteps
namespace Go.Proofs.YtaddonafdllciaaDoor.Pure
open Go.RowKit Go.Proofs.YtaddonafdllciaaDoor.PAll Go.Proofs.YtaddonafdllciaaDoorW.PrintWords Go.Proofs.YtaddonafdllciaaDoorW.PrintLast
open Go.Proofs.YtaddonafdllciaaDoor.BytesLib Go.Proofs.YtaddonafdllciaaDoor.SemParts Go.Proofs.YtaddonafdllciaaDoor.SemNum Go.Proofs.YtaddonafdllciaaDoor.SemParse Go.Proofs.YtaddonafdllciaaDoor.SemOrder Go.Proofs.YtaddonafdllciaaDoor.SemSplit Go.Proofs.YtaddonafdllciaaDoor.SemCmp Go.Proofs.YtaddonafdllciaaDoor.SemList
set_option linter.unusedVariables false
set_option linter.unusedSimpArgs false

theorem bt_is {s : ByteArray} {i : Nat} (h : i < (L s).length) (c : UInt8) : (bt s (i : Int) = (c.toNat : Int)) ↔ (L s)[i] = c := by
  rw [bt_nat h]
  constructor
  · intro e; exact UInt8.toNat_inj.1 (by simpa using Int.ofNat_inj.1 e)
  · intro e; rw [e]
theorem law_find_loop (c : UInt8) (s : ByteArray) (hs : s.size ≤ 1099511627776) (d : Nat) : ∀ (i k : Nat), s.size - i = d → i ≤ s.size →
    graftbedlaw03_find.l0 (k + d + 1) s (c.toNat : Int) (i : Int) = some (decide (c ∈ (L s).drop i)) := by
  induction d with
  | zero =>
    intro i k h1 h2
    obtain rfl : i = s.size := by omega
    simp only [graftbedlaw03_find.l0]
    rw [if_neg (by omega), List.drop_of_length_le (by rw [L_length]; exact Nat.le_refl _)]
    rfl
  | succ d ih =>
    intro i k h1 h2
    have hlt : i < (L s).length := by rw [L_length]; omega
    have ih' := ih (i + 1) k (by omega) (by omega)
    rw [show k + (d + 1) + 1 = (k + d + 1) + 1 from by omega]
    generalize k + d + 1 = q at ih' ⊢
    simp only [graftbedlaw03_find.l0]
    rw [if_pos (by omega), if_pos (by omega), List.drop_eq_getElem_cons hlt]
    by_cases hc : (L s)[i] = c
    · rw [if_pos ((bt_is hlt c).2 hc), hc, decide_eq_true List.mem_cons_self]
    · rw [if_neg (fun e => hc ((bt_is hlt c).1 e)), w64 (by omega) (by omega), show (i : Int) + 1 = ((i + 1 : Nat) : Int) from rfl, ih']
      congr 1
      rw [decide_eq_decide, List.mem_cons]
      exact ⟨.inr, fun h => h.resolve_left (fun e => hc e.symm)⟩
theorem law_find (c : UInt8) (s : ByteArray) (hs : s.size ≤ 1099511627776) (k : Nat) (hk : s.size < k) : graftbedlaw03_find.f k s (c.toNat : Int) = some (decide (c ∈ L s)) := by
  have := law_find_loop c s hs s.size 0 (k - s.size - 1) (by omega) (by omega)
  rw [show k - s.size - 1 + s.size + 1 = k from by omega, List.drop_zero] at this
  exact this

/-- A version with something behind its '-', and nothing behind a '+'. -/
theorem parse_pre_ok {s : ByteArray} {a b c : Nat} {P : List UInt8} (ha : a < 1000000000) (hb : b < 1000000000) (hc : c < 1000000000) (hs : L s = 118 :: (nt a b c ++ 45 :: P)) (hsz : s.size ≤ 60) (h43 : 43 ∉ P)
    (hP : (split 46 (ofL P)).all (preB true) = true) : parseF s = ((a : Int), (b : Int), (c : Int), ofL P, (⟨#[]⟩ : ByteArray), (0 : Int)) := by
  have hr : L (s.extract 1 s.size) = nt a b c ++ 45 :: P := by rw [L_tail, hs]; rfl
  obtain ⟨h1, h2, h3, h4⟩ := nums_nt ha hb hc (rest_nt hs (.inr (.inr rfl)))
  have n43 : 43 ∉ nt a b c ++ 45 :: P := by
    intro hm
    rcases List.mem_append.1 hm with h | h
    · exact nt_no a b c (by decide) (by decide) h
    · rcases List.mem_cons.1 h with h | h
      · exact absurd h (by decide)
      · exact h43 h
  have hm : hasMeta (s.extract 1 s.size) = false := by
    cases h : hasMeta (s.extract 1 s.size) with
    | false => rfl
    | true =>
      have := (cutF_mem 43 _).1 h
      rw [hr] at this
      exact absurd this n43
  have hcut : L (cutA 43 (s.extract 1 s.size)) = nt a b c ++ 45 :: P := by rw [L_cutA, hr, takeWhile_none n43]
  have hpre : preOf (s.extract 1 s.size) = ofL P := L_inj (by rw [L_ofL]; exact L_cutB hcut (nt_no a b c (by decide) (by decide)))
  have hhas : hasPre (s.extract 1 s.size) = true := (cutF_mem 45 _).2 (by rw [hcut]; simp)
  have h5 : ok4 (s.extract 1 s.size) = true := by
    unfold ok4 ok3
    rw [h1, hm, hhas, hpre, hP, show metaB false = (fun _ => true) from rfl]
    simp
  unfold parseF
  rw [if_pos ⟨by rw [hs]; rfl, hsz, h5⟩, h2, h3, h4, show metaOf (s.extract 1 s.size) = ⟨#[]⟩ from cutB_none hm, hpre]

theorem sign_of_digit {c : UInt8} (h : digB c = true) : signB c = true := by unfold signB; rw [h]; rfl
theorem D_signs (n : Nat) : everyB signB (D n) = true := by
  unfold everyB
  rw [show L (D n) = dL n from L_ofL _]
  rw [Bool.and_eq_true]
  refine ⟨List.all_eq_true.2 (fun c hc => sign_of_digit (List.all_eq_true.1 (dL_digits n) c hc)), ?_⟩
  cases h : dL n with
  | nil => exact absurd h (dL_ne n)
  | cons x l => rfl
theorem D_pre (n : Nat) : preB true (D n) = true := by unfold preB; rw [D_signs, D_nought]; rfl
theorem split_one {P : List UInt8} (h : 46 ∉ P) : split 46 (ofL P) = [ofL P] := by rw [split_list, L_ofL, splitL_none h]; rfl
theorem pk_ne {P : List UInt8} (h : P ≠ []) : pk (ofL P) = 0 := by unfold pk; rw [if_neg (by rw [toList_L, L_ofL]; exact h)]
theorem not_digits {P : List UInt8} {c : UInt8} (hc : c ∈ P) (hd : digB c = false) : everyB digB (ofL P) = false := by
  unfold everyB
  rw [L_ofL]
  cases h : P.all digB with
  | false => rfl
  | true => have := List.all_eq_true.1 h c hc; rw [hd] at this; cases this
theorem order_digit (n : Nat) {y : ByteArray} (h : everyB digB y = false) : orderF (D n) y = -1 := by
  unfold orderF
  rw [D_every, h]; rfl

theorem SemverPre : graftbedlaw03_SemverPre.Pure := by
  intro a0 b0 s wa wb hs
  by_cases hbig : s.size > 30
  · refine ⟨1, ?_⟩
    unfold graftbedlaw03_SemverPre.f
    rw [if_pos (by omega)]
  · have num : ∀ x : Int, (Lit.int .u32 x).wf = true → ∃ n : Nat, x = n ∧ n < 4294967296 := fun x h => by
      have h1 : (0 : Int) ≤ x := ((Lit.wf_int_iff .u32 x).1 h).1
      have h2 : x ≤ 4294967295 := ((Lit.wf_int_iff .u32 x).1 h).2
      exact ⟨x.toNat, by omega, by omega⟩
    obtain ⟨a, rfl, ha⟩ := num a0 wa
    obtain ⟨b, rfl, hb⟩ := num b0 wb
    clear num wa wb
    have za : (D a).size ≤ 10 := by rw [D_size]; exact dL_len 9 a (by omega)
    have zb : (D b).size ≤ 10 := by rw [D_size]; exact dL_len 9 b (by omega)
    have l1 : ∀ x : UInt8, (⟨#[x]⟩ : ByteArray).size = 1 := fun _ => rfl
    have l2 : (⟨#[46, 48]⟩ : ByteArray).size = 2 := rfl
    have l7 : (⟨#[118, 49, 46, 48, 46, 48, 45]⟩ : ByteArray).size = 7 := rfl
    have LD : ∀ n, L (D n) = dL n := fun n => L_ofL _
    have hv : ∀ P : List UInt8, L (⟨#[118, 49, 46, 48, 46, 48, 45]⟩ : ByteArray) ++ P = 118 :: (nt 1 0 0 ++ 45 :: P) := fun P => by
      unfold nt
      rw [dL_small (n := 0) (by omega), dL_small (n := 1) (by omega)]
      rfl
    obtain ⟨X, hX⟩ : ∃ X, (⟨#[118, 49, 46, 48, 46, 48, 45]⟩ : ByteArray) ++ D a = X := ⟨_, rfl⟩
    obtain ⟨Y, hY⟩ : ∃ Y, (⟨#[118, 49, 46, 48, 46, 48, 45]⟩ : ByteArray) ++ D b = Y := ⟨_, rfl⟩
    have sX : X.size ≤ 17 := by rw [← hX, size_append, l7]; omega
    have sY : Y.size ≤ 17 := by rw [← hY, size_append, l7]; omega
    have LX : L X = 118 :: (nt 1 0 0 ++ 45 :: dL a) := by rw [← hX, L_append, LD]; exact hv _
    have LY : L Y = 118 :: (nt 1 0 0 ++ 45 :: dL b) := by rw [← hY, L_append, LD]; exact hv _
    have LX0 : L (X ++ (⟨#[46, 48]⟩ : ByteArray)) = 118 :: (nt 1 0 0 ++ 45 :: (dL a ++ [46, 48])) := by rw [L_append, LX]; simp [show L (⟨#[46, 48]⟩ : ByteArray) = [46, 48] from rfl]
    have LXd : L (X ++ (⟨#[45]⟩ : ByteArray)) = 118 :: (nt 1 0 0 ++ 45 :: (dL a ++ [45])) := by rw [L_append, LX]; simp [show L (⟨#[45]⟩ : ByteArray) = [45] from rfl]
    have c0 : (0 : Nat) < 1000000000 := by decide
    have c1 : (1 : Nat) < 1000000000 := by decide
    have d46 : ∀ n, (46 : UInt8) ∉ dL n := fun n => dL_no (by decide)
    have d43 : ∀ n, (43 : UInt8) ∉ dL n := fun n => dL_no (by decide)
    have pX := parse_pre_ok c1 c0 c0 LX (by omega) (d43 a) (by rw [split_one (d46 a)]; show ([D a].all (preB true)) = true; simp [D_pre])
    have pY := parse_pre_ok c1 c0 c0 LY (by omega) (d43 b) (by rw [split_one (d46 b)]; show ([D b].all (preB true)) = true; simp [D_pre])
    have s0 : split 46 (ofL (dL a ++ [46, 48])) = [D a, ofL [48]] := by
      rw [split_list, L_ofL, splitL_at _ (d46 a)]; rfl
    have pX0 := parse_pre_ok c1 c0 c0 LX0 (by rw [size_append, l2]; omega) (by
      intro h
      rcases List.mem_append.1 h with h | h
      · exact d43 a h
      · exact absurd h (by decide)) (by rw [s0, List.all_cons, D_pre]; decide)
    have n46 : (46 : UInt8) ∉ dL a ++ [45] := by
      intro h
      rcases List.mem_append.1 h with h | h
      · exact d46 a h
      · exact absurd h (by decide)
    have e45 : everyB digB (ofL (dL a ++ [45])) = false := not_digits (c := 45) (by simp) (by decide)
    have pXd := parse_pre_ok c1 c0 c0 LXd (by rw [size_append, l1]; omega) (by
      intro h
      rcases List.mem_append.1 h with h | h
      · exact d43 a h
      · exact absurd h (by decide)) (by
      rw [split_one n46]
      have hsg : everyB signB (ofL (dL a ++ [45])) = true := by
        unfold everyB
        rw [L_ofL, List.all_append, List.all_eq_true.2 (fun c hc => sign_of_digit (List.all_eq_true.1 (dL_digits a) c hc))]
        rw [show [45].all signB = true from by decide]
        simp
      have hno : noughtB (ofL (dL a ++ [45])) = false := by unfold noughtB; rw [e45]; simp
      simp only [List.all_cons, List.all_nil, Bool.and_true]
      unfold preB
      rw [hsg, hno]; rfl)
    have hk : pk (D a) = 0 := pk_ne (dL_ne a)
    have v1 : VC X Y = cmpI a b := by
      rw [VC_ok (by rw [pX]) (by rw [pY]), pX, pY]
      show orI 0 (orI 0 (orI 0 (preC (D a) (D b)))) = _
      unfold preC
      rw [hk, show pk (D b) = 0 from pk_ne (dL_ne b), show split 46 (D a) = [D a] from split_one (d46 a), show split 46 (D b) = [D b] from split_one (d46 b)]
      show orI (orderF (D a) (D b)) 0 = _
      rw [D_order]
      unfold orI
      split
      · rename_i h; exact h.symm
      · rfl
    have v2 : VC X (X ++ (⟨#[46, 48]⟩ : ByteArray)) = -1 := by
      rw [VC_ok (by rw [pX]) (by rw [pX0]), pX, pX0]
      show orI 0 (orI 0 (orI 0 (preC (D a) (ofL (dL a ++ [46, 48]))))) = _
      unfold preC
      rw [hk, pk_ne (by simp), show split 46 (D a) = [D a] from split_one (d46 a), s0]
      show orI (orderF (D a) (D a)) (-1) = _
      rw [orderF_cmp.self]; rfl
    have v3 : VC X (X ++ (⟨#[45]⟩ : ByteArray)) = -1 := by
      rw [VC_ok (by rw [pX]) (by rw [pXd]), pX, pXd]
      show orI 0 (orI 0 (orI 0 (preC (D a) (ofL (dL a ++ [45]))))) = _
      unfold preC
      rw [hk, pk_ne (by simp), show split 46 (D a) = [D a] from split_one (d46 a), split_one n46]
      show orI (orderF (D a) (ofL (dL a ++ [45]))) 0 = _
      rw [order_digit a e45]; rfl
    obtain ⟨W, hW⟩ : ∃ W, ((⟨#[118, 49, 46, 48, 46, 48, 45]⟩ : ByteArray) ++ s) ++ (⟨#[122]⟩ : ByteArray) = W := ⟨_, rfl⟩
    have sW : W.size ≤ 38 := by rw [← hW, size_append, size_append, l7, l1]; omega
    have LW : L W = 118 :: (nt 1 0 0 ++ 45 :: (L s ++ [122])) := by rw [← hW, L_append, L_append, List.append_assoc]; exact hv _
    have hcm := fun x y (hx : x.size ≤ 100) (hy : y.size ≤ 100) (k : Nat) (hk : 10 ≤ k) => prog_compare x y (by omega) (by omega) k hk
    refine ⟨100 + 3, ?_⟩
    have hJ2 : graftbedlaw03_SemverPre.j2 (100 + 1) s X false = some true := by
      simp only [graftbedlaw03_SemverPre.j2]
      rw [if_neg (by decide), if_pos (by omega), if_pos (by rw [size_append, l7]; omega), hW]
      unfold semver_Parse.f graftbedref03_Parse.f
      rw [if_pos (by omega), Option.bind_some, Option.bind_some, if_pos rfl]
      by_cases h : (parseF W).2.2.2.2.2 = 0
      · rw [if_pos h, show graftbedlaw03_find.f 100 s 46 = _ from law_find 46 s (by omega) 100 (by omega), show graftbedlaw03_find.f 100 s 43 = _ from law_find 43 s (by omega) 100 (by omega), Option.bind_some, Option.bind_some]
        by_cases h46 : (46 : UInt8) ∈ L s
        · rw [decide_eq_true h46, if_pos rfl]
        · rw [decide_eq_false h46, if_neg (by decide)]
          by_cases h43 : (43 : UInt8) ∈ L s
          · rw [decide_eq_true h43, if_pos rfl]
          · rw [decide_eq_false h43, if_neg (by decide), hcm X W (by omega) (by omega) 100 (by omega), Option.bind_some]
            obtain ⟨r1, r2, r3, r4, r5⟩ := parse_pre c1 c0 c0 LW h
            have t43 : (L s ++ [122]).takeWhile (· != 43) = L s ++ [122] := takeWhile_none (by
              intro hm
              rcases List.mem_append.1 hm with h | h
              · exact h43 h
              · exact absurd h (by decide))
            have t46 : (46 : UInt8) ∉ L s ++ [122] := by
              intro hm
              rcases List.mem_append.1 hm with h | h
              · exact h46 h
              · exact absurd h (by decide)
            have hpre : (parseF W).2.2.2.1 = ofL (L s ++ [122]) := L_inj (by rw [r4, t43, L_ofL])
            have v4 : VC X W = -1 := by
              rw [VC_ok (by rw [pX]) h, pX, r1, r2, r3, hpre]
              show orI 0 (orI 0 (orI 0 (preC (D a) (ofL (L s ++ [122]))))) = _
              unfold preC
              rw [hk, pk_ne (by simp), show split 46 (D a) = [D a] from split_one (d46 a), split_one t46]
              show orI (orderF (D a) (ofL (L s ++ [122]))) 0 = _
              rw [order_digit a (not_digits (c := 122) (by simp) (by decide))]; rfl
            rw [v4]; rfl
      · rw [if_neg h]
    have hJ1 : ∀ w : Int, w = cmpI a b → graftbedlaw03_SemverPre.j1 (100 + 2) s X Y w = some true := by
      intro w hw
      have e1 := hcm X Y (by omega) (by omega) (100 + 1) (by omega)
      have e2 := hcm X (X ++ (⟨#[46, 48]⟩ : ByteArray)) (by omega) (by rw [size_append, l2]; omega) (100 + 1) (by omega)
      have e3 := hcm X (X ++ (⟨#[45]⟩ : ByteArray)) (by omega) (by rw [size_append, l1]; omega) (100 + 1) (by omega)
      rw [show 100 + 2 = (100 + 1) + 1 from rfl]
      generalize 100 + 1 = n at hJ2 e1 e2 e3 ⊢
      simp only [graftbedlaw03_SemverPre.j1]
      rw [e1, Option.bind_some, v1, if_pos hw.symm, if_pos (by omega), e2, Option.bind_some, v2, if_pos rfl, if_pos (by omega), e3, Option.bind_some, v3]
      exact hJ2
    have rDa := ref_Digits a (by omega) (100 + 3) (by omega)
    have rDb := ref_Digits b (by omega) (100 + 3) (by omega)
    have hJ0 : ∀ w : Int, (¬ (a : Int) > b → w = cmpI a b) → graftbedlaw03_SemverPre.j0 (100 + 3) (a : Int) (b : Int) s X Y w = some true := by
      intro w hw
      rw [show 100 + 3 = (100 + 2) + 1 from rfl]
      generalize 100 + 2 = n at hJ1 ⊢
      simp only [graftbedlaw03_SemverPre.j0]
      by_cases h : (a : Int) > b
      · rw [if_pos h]
        exact hJ1 1 (by unfold cmpI; rw [if_neg (by omega), if_pos h])
      · rw [if_neg h]
        exact hJ1 w (hw h)
    unfold graftbedlaw03_SemverPre.f
    rw [if_neg (by omega), w64 (x := (a : Int)) (by omega) (by omega), w64 (x := (b : Int)) (by omega) (by omega), rDa, Option.bind_some, rDb, if_pos (by omega), Option.bind_some, if_pos (by omega), hX, hY]
    by_cases h : (a : Int) < b
    · rw [if_pos h]
      exact hJ0 (-1) (fun _ => by unfold cmpI; rw [if_pos h])
    · rw [if_neg h]
      exact hJ0 0 (fun h2 => by unfold cmpI; rw [if_neg h, if_neg h2])

end Go.Proofs.YtaddonafdllciaaDoor.Pure
