/- Printed parts, put together. -/
import Derived.Test.YtmocfgghccmdgaaMpa
import Derived.Test.YtmocfgghccmdgaaOrderLib
import Derived.Test.YtmocfgghccmdgaaMpb
import Derived.Test.YtmocfgghccmdgaaMtb
import Derived.Test.YtmocfgghccmdgaaMpc
import Derived.Test.YtmocfgghccmdgaaRowOksTreeNames
/- What the printed reference on paths comes to, in lists of bytes. -/
namespace Go.Proofs.Ytmocfgghccmdgaa.Pure
open Go.RowKit Go.Proofs.Ytmocfgghccmdgaa.PTn Go.Proofs.YtmocfgghccmdgaaW.PrintWords Go.Proofs.YtmocfgghccmdgaaW.PrintLast
open Go.Proofs.Ytmocfgghccmdgaa.BytesLib Go.Proofs.Ytmocfgghccmdgaa.SplitLib Go.Proofs.Ytmocfgghccmdgaa.OrderLib Go.Proofs.Ytmocfgghccmdgaa.Elems Go.Proofs.Ytmocfgghccmdgaa.Valid Go.Proofs.Ytmocfgghccmdgaa.PathBase
set_option linter.unusedVariables false


theorem tail_ofL (s : ByteArray) (a : Nat) : s.extract a s.size = ofL ((L s).drop a) := L_inj (by rw [L_tail, L_ofL])
theorem cut_ofL (s : ByteArray) (a b : Nat) : s.extract a b = ofL (((L s).drop a).take (b - a)) := L_inj (by rw [L_extract, L_ofL])

theorem not_mem_take {l : List UInt8} {c : UInt8} {m n : Nat} (h : ∀ j, m ≤ j → j < n → l[j]? ≠ some c) : c ∉ (l.drop m).take (n - m) := by
  intro hm
  obtain ⟨k, hk, hk2⟩ := List.mem_iff_getElem.1 hm
  rw [List.length_take, List.length_drop] at hk
  rw [List.getElem_take, List.getElem_drop] at hk2
  exact h (m + k) (by omega) (by omega) (by rw [List.getElem?_eq_some_iff]; exact ⟨by omega, hk2⟩)

theorem ref_elems_loop (s : ByteArray) (hs : s.size ≤ 1099511627776) (d : Nat) : ∀ (i m : Nat) (acc : List ByteArray), m ≤ i → i ≤ s.size → s.size - i = d → acc.length ≤ i →
    (∀ j, m ≤ j → j < i → (L s)[j]? ≠ some 47) →
    Ev (fun k => graftbedref01_Elems.l0 k s acc (m : Int) (i : Int)) (acc ++ (splitL 47 ((L s).drop m)).map ofL) := by
  induction d with
  | zero =>
    intro i m acc h1 h2 h3 h4 h5
    obtain rfl : i = s.size := by omega
    have hn : (47 : UInt8) ∉ (L s).drop m := by
      have := not_mem_take h5
      rwa [List.take_of_length_le (by rw [List.length_drop, L_length]; exact Nat.le_refl _)] at this
    rw [splitL_none hn]
    refine Ev.step (f := fun k => graftbedref01_Elems.l0 k s (acc ++ [s.extract m s.size]) ((s.size : Int) + 1) ((s.size : Int) + 1)) (fun k => ?_) ?_
    · simp only [graftbedref01_Elems.l0]
      rw [if_pos (by omega), if_pos trivial, if_pos (by omega), if_pos (by omega), if_pos (by omega), w64 (by omega) (by omega), Int.toNat_natCast, Int.toNat_natCast]
    · refine Ev.step (f := fun _ => some (acc ++ [s.extract m s.size])) (fun k => ?_) ?_
      · simp only [graftbedref01_Elems.l0]
        rw [if_neg (by omega)]
      · rw [tail_ofL]; exact Ev.now _
  | succ d ih =>
    intro i m acc h1 h2 h3 h4 h5
    have hlt : i < (L s).length := by rw [L_length]; omega
    have hb := bt_nat hlt
    by_cases hc : (L s)[i] = 47
    · have hc2 : bt s (i : Int) = 47 := by rw [hb, hc]; rfl
      have hn := not_mem_take h5
      have hsp : (L s).drop m = ((L s).drop m).take (i - m) ++ 47 :: (L s).drop (i + 1) := by
        conv => lhs; rw [← List.take_append_drop (i - m) ((L s).drop m), List.drop_drop, show m + (i - m) = i from by omega, List.drop_eq_getElem_cons hlt, hc]
      refine Ev.step (f := fun k => graftbedref01_Elems.l0 k s (acc ++ [s.extract m i]) ((i + 1 : Nat) : Int) ((i + 1 : Nat) : Int)) (fun k => ?_) ?_
      · simp only [graftbedref01_Elems.l0]
        rw [if_pos (by omega), if_neg (by omega), if_pos (by omega), if_pos (by omega), if_pos hc2, if_pos (by omega), if_pos (by omega), if_pos (by omega), w64 (by omega) (by omega), Int.toNat_natCast, Int.toNat_natCast]
        rfl
      · have := ih (i + 1) (i + 1) (acc ++ [s.extract m i]) (Nat.le_refl _) (by omega) (by omega) (by simp; omega) (fun j hj hj2 => by omega)
        rw [hsp, splitL_at _ hn, List.map_cons]
        rw [List.append_assoc] at this
        rw [cut_ofL] at this ⊢
        exact this
    · have hc2 : ¬ bt s (i : Int) = 47 := by
        rw [hb]
        intro e
        exact hc (UInt8.toNat_inj.1 (by simpa using Int.ofNat_inj.1 e))
      refine Ev.step (f := fun k => graftbedref01_Elems.l0 k s acc (m : Int) ((i + 1 : Nat) : Int)) (fun k => ?_) ?_
      · simp only [graftbedref01_Elems.l0]
        rw [if_pos (by omega), if_neg (by omega), if_pos (by omega), if_pos (by omega), if_neg hc2, w64 (by omega) (by omega)]
        rfl
      · exact ih (i + 1) m acc (by omega) (by omega) (by omega) (by omega) (fun j hj hj2 => by
          by_cases e : j = i
          · rw [e, List.getElem?_eq_getElem hlt]; simpa using hc
          · exact h5 j hj (by omega))

theorem ref_elems (s : ByteArray) (hs : s.size ≤ 1099511627776) : Ev (fun k => graftbedref01_Elems.f k s) (elems s) := by
  unfold graftbedref01_Elems.f
  simp only [Option.bind_some]
  by_cases h : s.toList = []
  · simp only [h, if_true]
    rw [elems_list, show L s = [] from by rw [← toList_L]; exact h]
    exact Ev.now _
  · simp only [if_neg h]
    have := ref_elems_loop s hs s.size 0 0 [] (Nat.le_refl _) (Nat.zero_le _) (by omega) (Nat.zero_le _) (fun j hj hj2 => by omega)
    rw [elems_list]
    unfold elemsL
    rw [if_neg (by rw [← toList_L]; exact h)]
    exact this

theorem ref_cmp_loop (x y : List ByteArray) (hx : x.length ≤ 1099511627777) (d : Nat) : ∀ (i : Nat), i ≤ x.length → x.length - i = d → i ≤ y.length →
    Ev (fun k => graftbedref01_Compare.l0 k x y (i : Int)) (cmpLL ((x.drop i).map L) ((y.drop i).map L)) := by
  induction d with
  | zero =>
    intro i h1 h2 h3
    obtain rfl : i = x.length := by omega
    rw [List.drop_length]
    refine Ev.step (f := fun k => graftbedref01_Compare.j1 k x y (x.length : Int) false) (fun k => ?_) ?_
    · simp only [graftbedref01_Compare.l0]; rw [if_neg (by omega)]
    refine Ev.step (f := fun _ => some (cmpLL [] ((y.drop x.length).map L))) (fun k => ?_) (Ev.now _)
    simp only [graftbedref01_Compare.j1, Bool.false_eq_true, if_false]
    by_cases h : (x.length : Int) < (y.length : Int)
    · rw [if_pos h, List.drop_eq_getElem_cons (by omega), List.map_cons]; rfl
    · rw [if_neg h, if_neg (by omega), List.drop_of_length_le (by omega)]; rfl
  | succ d ih =>
    intro i h1 h2 h3
    have hlt : i < x.length := by omega
    rw [List.drop_eq_getElem_cons hlt, List.map_cons]
    by_cases hy : i < y.length
    · rw [List.drop_eq_getElem_cons hy, List.map_cons, cmpLL]
      refine Ev.step (f := fun k => graftbedref01_Compare.j1 k x y (i : Int) true) (fun k => ?_) ?_
      · simp only [graftbedref01_Compare.l0]; rw [if_pos (by omega), decide_eq_true (by omega)]
      by_cases l1 : L x[i] < L y[i]
      · rw [if_pos l1]
        refine Ev.step (f := fun _ => some (-1)) (fun k => ?_) (Ev.now _)
        simp only [graftbedref01_Compare.j1, if_true]
        rw [if_pos (by omega), if_pos (by omega), if_pos (by omega), rdOf_get _ hlt, rdOf_get _ hy, toList_L, toList_L, if_pos ((less_iff _ _).2 l1)]
      · rw [if_neg l1]
        by_cases l2 : L y[i] < L x[i]
        · rw [if_pos l2]
          refine Ev.step (f := fun _ => some 1) (fun k => ?_) (Ev.now _)
          simp only [graftbedref01_Compare.j1, if_true]
          rw [if_pos (by omega), if_pos (by omega), if_pos (by omega), rdOf_get _ hlt, rdOf_get _ hy, toList_L, toList_L, if_neg (fun e => l1 ((less_iff _ _).1 e)), if_pos ((less_iff _ _).2 l2)]
        · rw [if_neg l2]
          refine Ev.step (f := fun k => graftbedref01_Compare.l0 k x y ((i + 1 : Nat) : Int)) (fun k => ?_) (ih (i + 1) (by omega) (by omega) (by omega))
          simp only [graftbedref01_Compare.j1, if_true]
          rw [if_pos (by omega), if_pos (by omega), if_pos (by omega), rdOf_get _ hlt, rdOf_get _ hy, toList_L, toList_L, if_neg (fun e => l1 ((less_iff _ _).1 e)), if_neg (fun e => l2 ((less_iff _ _).1 e)), w64 (by omega) (by omega)]
          rfl
    · rw [List.drop_of_length_le (l := y) (by omega)]
      refine Ev.step (f := fun k => graftbedref01_Compare.j1 k x y (i : Int) false) (fun k => ?_) ?_
      · simp only [graftbedref01_Compare.l0]; rw [if_pos (by omega), decide_eq_false (by omega)]
      refine Ev.step (f := fun _ => some 1) (fun k => ?_) (Ev.now _)
      simp only [graftbedref01_Compare.j1, Bool.false_eq_true, if_false]
      rw [if_neg (by omega), if_pos (by omega)]

theorem ref_cmp (a b : ByteArray) (ha : a.size ≤ 1099511627776) (hb : b.size ≤ 1099511627776) : Ev (fun k => graftbedref01_Compare.f k a b) (cmpP a b) := by
  have hl := elems_length a
  have h := ref_cmp_loop (elems a) (elems b) (by omega) (elems a).length 0 (Nat.zero_le _) (by omega) (Nat.zero_le _)
  rw [List.drop_zero, List.drop_zero, elems_map, elems_map] at h
  exact Ev.bind (g := fun k => graftbedref01_Elems.f k a) (f := fun k t => (graftbedref01_Elems.f k b).bind fun t2 => graftbedref01_Compare.l0 k t t2 0) (ref_elems a ha)
    (Ev.bind (g := fun k => graftbedref01_Elems.f k b) (f := fun k t2 => graftbedref01_Compare.l0 k (elems a) t2 0) (ref_elems b hb) h)


theorem byte_eq {x : UInt8} {c : Int} (h0 : 0 ≤ c) (h1 : c ≤ 255) : (x.toNat : Int) = c ↔ x = c.toNat.toUInt8 := by
  have e : (c.toNat.toUInt8).toNat = c.toNat := by
    rw [Nat.toUInt8_eq, UInt8.toNat_ofNat']; omega
  constructor
  · intro h
    apply UInt8.toNat_inj.1
    rw [e]; omega
  · intro h
    rw [h, e]; omega

theorem ref_fine_loop (c : Int) (h0 : 0 ≤ c) (h1 : c ≤ 255) (s : ByteArray) (hs : s.size ≤ 1000) (d : Nat) : ∀ i : Nat, i ≤ s.size → s.size - i = d →
    Ev (fun k => graftbedref01_fine.l0 k c s (i : Int)) (decide (c.toNat.toUInt8 ∉ (L s).drop i)) := by
  induction d with
  | zero =>
    intro i h2 h3
    refine Ev.step (f := fun _ => some true) (fun k => ?_) ?_
    · simp only [graftbedref01_fine.l0]; rw [if_neg (by omega)]
    · rw [List.drop_of_length_le (by rw [L_length]; omega)]
      simp only [List.not_mem_nil, not_false_eq_true, decide_true]
      exact Ev.now _
  | succ d ih =>
    intro i h2 h3
    have hlt : i < (L s).length := by rw [L_length]; omega
    have hb := bt_nat hlt
    rw [List.drop_eq_getElem_cons hlt]
    by_cases e : bt s (i : Int) = c
    · refine Ev.step (f := fun _ => some false) (fun k => ?_) ?_
      · simp only [graftbedref01_fine.l0]; rw [if_pos (by omega), if_pos (by omega), if_pos e]
      · rw [hb, byte_eq h0 h1] at e
        rw [decide_eq_false (by rw [e]; simp)]
        exact Ev.now _
    · refine Ev.step (f := fun k => graftbedref01_fine.l0 k c s ((i + 1 : Nat) : Int)) (fun k => ?_) ?_
      · simp only [graftbedref01_fine.l0]; rw [if_pos (by omega), if_pos (by omega), if_neg e, w64 (by omega) (by omega)]; rfl
      · rw [hb, byte_eq h0 h1] at e
        have := ih (i + 1) (by omega) (by omega)
        rw [show decide (c.toNat.toUInt8 ∉ (L s)[i] :: (L s).drop (i + 1)) = decide (c.toNat.toUInt8 ∉ (L s).drop (i + 1)) from by
          rw [decide_eq_decide, List.mem_cons, not_or]
          exact ⟨fun h => h.2, fun h => ⟨fun h2 => e h2.symm, h⟩⟩]
        exact this

theorem index_mem (l : List UInt8) (c : UInt8) : decide (Lib.indexByte l c < 0) = decide (c ∉ l) := by
  rw [decide_eq_decide]
  constructor
  · intro h; exact index_none c l (by omega)
  · intro h
    by_cases g : 0 ≤ Lib.indexByte l c
    · have := (index_split c l g).1
      exact absurd (by rw [this]; simp) h
    · omega

theorem ref_fine (c : Int) (h0 : 0 ≤ c) (h1 : c ≤ 255) : Ev (fun k => graftbedref01_fine.f k c) (fineI c) := by
  unfold graftbedref01_fine.f fineI
  by_cases g1 : c < 33
  · simp only [if_pos g1]
    rw [decide_eq_false (show ¬ c > 32 by omega)]
    refine Ev.step (f := fun _ => some false) (fun k => by simp only [graftbedref01_fine.j0, if_true]) (Ev.now _)
  · simp only [if_neg g1]
    rw [decide_eq_true (show c > 32 by omega), Bool.true_and]
    by_cases g2 : c > 126
    · simp only [decide_eq_true g2]
      rw [decide_eq_false (show ¬ c < 127 by omega)]
      refine Ev.step (f := fun _ => some false) (fun k => by simp only [graftbedref01_fine.j0, if_true]) (Ev.now _)
    · simp only [decide_eq_false g2]
      rw [decide_eq_true (show c < 127 by omega), Bool.true_and, index_mem]
      refine Ev.step (f := fun k => graftbedref01_fine.l0 k c (⟨#[34, 42, 58, 60, 62, 63, 92, 124, 96]⟩ : ByteArray) 0) (fun k => by simp only [graftbedref01_fine.j0, Bool.false_eq_true, if_false]) ?_
      have := ref_fine_loop c h0 h1 ⟨#[34, 42, 58, 60, 62, 63, 92, 124, 96]⟩ (by decide) _ 0 (Nat.zero_le _) rfl
      exact this

theorem ref_valid_in (l : List ByteArray) (hl : l.length ≤ 1099511627777) (i : Nat) (hi : i < l.length) (hsz : l[i].size ≤ 1099511627777) (r : Bool)
    (hnext : Ev (fun k => graftbedref01_Valid.l0 k l ((i + 1 : Nat) : Int)) r) (d : Nat) : ∀ j : Nat, j ≤ l[i].size → l[i].size - j = d →
    Ev (fun k => graftbedref01_Valid.l1 k l (i : Int) (j : Int)) (fineFrom l[i] j && r) := by
  induction d with
  | zero =>
    intro j h1 h2
    obtain rfl : j = l[i].size := by omega
    rw [fine_end, Bool.true_and]
    refine Ev.step (f := fun k => graftbedref01_Valid.l0 k l ((i + 1 : Nat) : Int)) (fun k => ?_) hnext
    simp only [graftbedref01_Valid.l1]
    rw [if_pos (by omega), if_pos (by omega), rdOf_get _ hi, if_neg (by omega), w64 (by omega) (by omega)]; rfl
  | succ d ih =>
    intro j h1 h2
    have hlt : j < l[i].size := by omega
    have hlt2 : j < (L l[i]).length := by rw [L_length]; exact hlt
    have hb := bt_nat hlt2
    have hbe : bt l[i] (j : Int) = (l[i][j].toNat : Int) := hb
    have hr := bt_range l[i] (j : Int)
    have hf := ref_fine (bt l[i] (j : Int)) hr.1 hr.2
    refine Ev.step (f := fun k => (graftbedref01_fine.f k (bt l[i] (j : Int))).bind fun t => (if t = true then (graftbedref01_Valid.l1 k l (i : Int) ((j + 1 : Nat) : Int)) else (some false))) (fun k => ?_) ?_
    · simp only [graftbedref01_Valid.l1]
      rw [if_pos (by omega), if_pos (by omega), rdOf_get _ hi, if_pos (by omega), if_pos (by omega), w64 (by omega) (by omega)]; rfl
    · refine Ev.bind hf ?_
      cases e : fineI (bt l[i] (j : Int)) with
      | true =>
        rw [fine_step l[i] j hlt (hbe ▸ e)]
        simp only [if_true]
        exact ih (j + 1) (by omega) (by omega)
      | false =>
        rw [fine_stop l[i] j hlt (hbe ▸ e)]
        simp only [Bool.false_eq_true, if_false, Bool.false_and]
        exact Ev.now _

theorem ref_valid_loop (l : List ByteArray) (hl : l.length ≤ 1099511627777) (hsz : ∀ x ∈ l, x.size ≤ 1099511627777) (d : Nat) : ∀ i : Nat, i ≤ l.length → l.length - i = d →
    Ev (fun k => graftbedref01_Valid.l0 k l (i : Int)) ((l.drop i).all okE) := by
  induction d with
  | zero =>
    intro i h1 h2
    rw [List.drop_of_length_le (by omega)]
    refine Ev.step (f := fun _ => some true) (fun k => ?_) (Ev.now _)
    simp only [graftbedref01_Valid.l0]; rw [if_neg (by omega)]
  | succ d ih =>
    intro i h1 h2
    have hi : i < l.length := by omega
    rw [List.drop_eq_getElem_cons hi, List.all_cons]
    have bad : okE l[i] = false → Ev (fun k => graftbedref01_Valid.j2 k l (i : Int) true) (okE l[i] && (l.drop (i + 1)).all okE) := by
      intro h
      rw [h, Bool.false_and]
      exact Ev.step (f := fun _ => some false) (fun k => by simp only [graftbedref01_Valid.j2, if_true]) (Ev.now _)
    by_cases e1 : (l[i].size : Int) < 1
    · have hE : okE l[i] = false := by
        unfold okE
        rw [toList_L, show L l[i] = [] from List.length_eq_zero_iff.1 (by rw [L_length]; omega)]; rfl
      refine Ev.step (f := fun k => graftbedref01_Valid.j2 k l (i : Int) true) (fun k => ?_) (bad hE)
      simp only [graftbedref01_Valid.l0]; rw [if_pos (by omega), if_pos (by omega), rdOf_get _ hi, if_pos e1]
    · by_cases e2 : (l[i].size : Int) > 30
      · have hE : okE l[i] = false := by unfold okE; rw [decide_eq_false (show ¬ (l[i].size : Int) ≤ 30 by omega)]; simp
        refine Ev.step (f := fun k => graftbedref01_Valid.j2 k l (i : Int) true) (fun k => ?_) (bad hE)
        simp only [graftbedref01_Valid.l0]; rw [if_pos (by omega), if_pos (by omega), rdOf_get _ hi, if_neg e1, if_pos e2]
      · by_cases e3 : l[i].toList = [46]
        · have hE : okE l[i] = false := by unfold okE; rw [e3]; simp
          refine Ev.step (f := fun k => graftbedref01_Valid.j2 k l (i : Int) true) (fun k => ?_) (bad hE)
          simp only [graftbedref01_Valid.l0]; rw [if_pos (by omega), if_pos (by omega), rdOf_get _ hi, if_neg e1, if_neg e2, if_pos e3]
        · by_cases e4 : l[i].toList = [46, 46]
          · have hE : okE l[i] = false := by unfold okE; rw [e4]; simp
            refine Ev.step (f := fun k => graftbedref01_Valid.j2 k l (i : Int) true) (fun k => ?_) (bad hE)
            simp only [graftbedref01_Valid.l0]; rw [if_pos (by omega), if_pos (by omega), rdOf_get _ hi, if_neg e1, if_neg e2, if_neg e3, e4]; rfl
          · have hne : l[i].toList.isEmpty = false := by
              rw [toList_L]
              cases h : L l[i] with
              | nil => have := L_length l[i]; rw [h] at this; simp at this; omega
              | cons _ _ => rfl
            have hE : okE l[i] = fineFrom l[i] 0 := by
              unfold okE
              rw [hne, decide_eq_true (show (l[i].size : Int) ≤ 30 by omega), beq_eq_false_iff_ne.2 e3, beq_eq_false_iff_ne.2 e4]; rfl
            rw [hE]
            refine Ev.step (f := fun k => graftbedref01_Valid.j2 k l (i : Int) false) (fun k => ?_) ?_
            · simp only [graftbedref01_Valid.l0]; rw [if_pos (by omega), if_pos (by omega), rdOf_get _ hi, if_neg e1, if_neg e2, if_neg e3, beq_eq_false_iff_ne.2 e4]
            · refine Ev.step (f := fun k => graftbedref01_Valid.l1 k l (i : Int) 0) (fun k => by simp only [graftbedref01_Valid.j2, Bool.false_eq_true, if_false]) ?_
              exact ref_valid_in l hl i hi (hsz _ (List.getElem_mem hi)) _ (ih (i + 1) (by omega) (by omega)) _ 0 (Nat.zero_le _) rfl

theorem ref_valid (s : ByteArray) (hs : s.size ≤ 1099511627776) : Ev (fun k => graftbedref01_Valid.f k s) (valid s) := by
  unfold graftbedref01_Valid.f
  by_cases g1 : (s.size : Int) < 1
  · simp only [if_pos g1]
    rw [valid_empty (by rw [toList_L]; exact List.length_eq_zero_iff.1 (by rw [L_length]; omega))]
    exact Ev.step (f := fun _ => some false) (fun k => by simp only [graftbedref01_Valid.j0, if_true]) (Ev.now _)
  · simp only [if_neg g1]
    by_cases g2 : (s.size : Int) > 60
    · simp only [decide_eq_true g2]
      rw [valid_long (by omega)]
      exact Ev.step (f := fun _ => some false) (fun k => by simp only [graftbedref01_Valid.j0, if_true]) (Ev.now _)
    · simp only [decide_eq_false g2]
      have hne : ¬ s.toList = [] := by
        intro h
        rw [toList_L] at h
        have := L_length s
        rw [h] at this; simp at this; omega
      rw [valid_in hne (by omega)]
      have hll := elems_length s
      have h := ref_valid_loop (elems s) (by omega) (fun x hx => by have := elems_size s x hx; omega) _ 0 (Nat.zero_le _) rfl
      rw [List.drop_zero] at h
      refine Ev.step (f := fun k => (graftbedref01_Elems.f k s).bind fun t => graftbedref01_Valid.l0 k t 0) (fun k => by simp only [graftbedref01_Valid.j0, Bool.false_eq_true, if_false]) ?_
      exact Ev.bind (ref_elems s hs) h

/-- What a path that may be has: it is not empty, and each element is neither empty nor a point. -/
theorem valid_tells {s : ByteArray} (h : valid s = true) : L s ≠ [] ∧ s.size ≤ 60 ∧ ∀ e ∈ elemsL (L s), e ≠ [] ∧ e ≠ [46] ∧ e ≠ [46, 46] := by
  have h1 : ¬ s.toList = [] := fun e => by rw [valid_empty e] at h; cases h
  have h2 : (s.size : Int) ≤ 60 := by
    by_cases g : (s.size : Int) ≤ 60
    · exact g
    · rw [valid_long g] at h; cases h
  rw [valid_in h1 h2, List.all_eq_true] at h
  refine ⟨by rw [← toList_L]; exact h1, by omega, ?_⟩
  intro e he
  have hm : ofL e ∈ elems s := by rw [elems_list]; exact List.mem_map.2 ⟨e, he, rfl⟩
  have := h _ hm
  unfold okE at this
  rw [toList_L, L_ofL] at this
  simp only [Bool.and_eq_true, Bool.not_eq_true', List.isEmpty_eq_false_iff, beq_eq_false_iff_ne] at this
  exact ⟨this.1.1.1.1, this.1.1.2, this.1.2⟩

theorem valid_not_here {s : ByteArray} (h : valid s = true) : L s ≠ [] ∧ L s ≠ [46] := by
  obtain ⟨h1, _, h3⟩ := valid_tells h
  refine ⟨h1, fun e => ?_⟩
  have := (h3 [46] (by rw [e]; decide +kernel)).2.1
  exact this rfl

/-- The reference's Within. -/
theorem ref_within (s d : ByteArray) (hd : d.size ≤ 1099511627776) (hs : s.size ≤ 1099511627776) : Ev (fun k => graftbedref01_Within.f k s d) (withinF s d) := by
  have hj : ∀ b : Bool, b = decide (L d = [] ∨ L d = [46]) → Ev (fun k => graftbedref01_Within.j0 k s d b) (withinF s d) := by
    intro b hb
    refine Ev.step (f := fun _ => some (withinF s d)) (fun k => ?_) (Ev.now _)
    simp only [graftbedref01_Within.j0]
    unfold withinF
    by_cases h1 : L d = [] ∨ L d = [46]
    · rw [hb, decide_eq_true h1, if_pos rfl, if_pos h1]
    · rw [hb, decide_eq_false h1, if_neg (by decide), if_neg h1, toList_L, toList_L]
      by_cases h2 : L s = L d
      · rw [if_pos h2, if_pos h2]
      · rw [if_neg h2, if_neg h2, w64 (by omega) (by omega)]
        by_cases h3 : (s.size : Int) ≥ (d.size : Int) + 1
        · rw [if_pos h3, if_pos (by omega), if_pos (by omega), if_pos (by omega)]
          have e1 : ((d.size : Int) + 1).toNat = d.size + 1 := by omega
          rw [e1, toList_L, toList_L, L_head, L_append]
          have e2 : L (⟨#[47]⟩ : ByteArray) = [47] := rfl
          rw [e2]
          by_cases h4 : L d ++ [47] <+: L s
          · rw [if_pos h4, if_pos]
            obtain ⟨r, hr⟩ := h4
            rw [← hr, List.take_left' (by rw [List.length_append, L_length]; rfl)]
          · rw [if_neg h4, if_neg]
            intro e
            exact h4 ⟨(L s).drop (d.size + 1), by rw [← e, List.take_append_drop]⟩
        · rw [if_neg h3, if_neg]
          rintro ⟨r, hr⟩
          have := congrArg List.length hr
          rw [List.length_append, List.length_append, L_length, L_length] at this
          simp at this
          omega
  unfold graftbedref01_Within.f
  rw [toList_L]
  by_cases h1 : L d = []
  · simp only [if_pos h1]
    exact hj true (by rw [decide_eq_true (Or.inl h1)])
  · simp only [if_neg h1]
    refine hj _ ?_
    by_cases h2 : L d = [46]
    · rw [decide_eq_true (Or.inr h2), h2]; rfl
    · rw [decide_eq_false (by rintro (h | h); exact h1 h; exact h2 h), beq_eq_false_iff_ne.2 h2]

theorem ref_inside (s d : ByteArray) (hd : d.size ≤ 1099511627776) (hs : s.size ≤ 1099511627776) : Ev (fun k => graftbedref02_inside.f k s d) (insideF s d) := by
  unfold graftbedref02_inside.f insideF
  refine Ev.bind (ref_within s d hd hs) ?_
  show Ev (fun k => if (withinF s d).2 = true then _ else _) _
  cases (withinF s d).2 with
  | true => simp only [if_true]; exact Ev.now _
  | false => simp only [Bool.false_eq_true, if_false]; exact Ev.now _

end Go.Proofs.Ytmocfgghccmdgaa.Pure


/- What the printed functions on trees come to. -/
namespace Go.Proofs.Ytmocfgghccmdgaa.Pure
open Go Go.RowKit Go.Proofs.Ytmocfgghccmdgaa.PTn Go.Proofs.YtmocfgghccmdgaaW.PrintWords Go.Proofs.YtmocfgghccmdgaaW.PrintLast
open Go.Proofs.Ytmocfgghccmdgaa.BytesLib Go.Proofs.Ytmocfgghccmdgaa.SplitLib Go.Proofs.Ytmocfgghccmdgaa.OrderLib Go.Proofs.Ytmocfgghccmdgaa.Elems Go.Proofs.Ytmocfgghccmdgaa.Valid Go.Proofs.Ytmocfgghccmdgaa.PathBase Go.Proofs.Ytmocfgghccmdgaa.TrLib Go.Proofs.Ytmocfgghccmdgaa.TrPut Go.Proofs.Ytmocfgghccmdgaa.TrFits Go.Proofs.Ytmocfgghccmdgaa.TrOps Go.Proofs.Ytmocfgghccmdgaa.TrMerge Go.Proofs.Ytmocfgghccmdgaa.TrPlain
set_option linter.unusedVariables false
set_option linter.unusedSimpArgs false

def D (x : Fl) : S24 := ⟨x.1, x.2⟩
def E (x : S24) : Fl := (x.f0, x.f1)
theorem DE (l : List (S24)) : (l.map E).map D = l := by
  rw [List.map_map]
  exact (List.map_congr_left (fun x _ => rfl)).trans (List.map_id l)
theorem rd_D {T : List Fl} {i : Nat} (h : i < T.length) : rd_T24 (T.map D) (i : Int) = D T[i] := by
  unfold rd_T24
  rw [Int.toNat_natCast, List.getD_eq_getElem?_getD, List.getElem?_eq_getElem (by rw [List.length_map]; exact h), List.getElem_map]
  rfl
theorem len_D (T : List Fl) : (T.map D).length = T.length := List.length_map _

/-! ### heavy -/
theorem mn_nat (a : Nat) : mn (a : Int) 1048576 = ((min a 1048576 : Nat) : Int) := by
  unfold mn
  split <;> omega
theorem heavy_loop (l : List Fl) (hl : l.length ≤ 80) : ∀ (d i n : Nat), i ≤ l.length → l.length - i = d → n ≤ 16384 + 2097152 →
    ∃ b, Ev (fun k => graftbedlaw02_heavy.l0 k (l.map D) (n : Int) (i : Int)) b ∧ (b = false → n ≤ 16384 ∧ ∀ x ∈ l.drop i, x.1.size ≤ 16384 ∧ x.2.size ≤ 16384)
  | 0, i, n, h1, h2, h3 => by
    have e : ¬ ((i : Int) < ((l.map D).length : Int)) := by rw [len_D]; omega
    refine ⟨decide ((n : Int) > 16384), Ev.step (f := fun _ => some (decide ((n : Int) > 16384))) (fun k => by simp only [graftbedlaw02_heavy.l0]; rw [if_neg e]) (Ev.now _), fun hb => ⟨by have := of_decide_eq_false hb; omega, fun x hx => ?_⟩⟩
    rw [List.drop_of_length_le (by omega)] at hx
    cases hx
  | d + 1, i, n, h1, h2, h3 => by
    have hi : i < l.length := by omega
    have e : (i : Int) < ((l.map D).length : Int) := by rw [len_D]; omega
    by_cases g : (n : Int) ≤ 16384
    · have hm1 := Nat.min_le_right l[i].1.size 1048576
      have hm2 := Nat.min_le_right l[i].2.size 1048576
      obtain ⟨b, hb, hb2⟩ := heavy_loop l hl d (i + 1) (n + (min l[i].1.size 1048576 + min l[i].2.size 1048576)) (by omega) (by omega) (by omega)
      refine ⟨b, Ev.step (fun k => ?_) hb, fun h0 => ?_⟩
      · simp only [graftbedlaw02_heavy.l0]
        rw [if_pos e, if_pos g, if_pos (by omega), rd_D hi]
        show graftbedlaw02_heavy.l0 k (l.map D) (wrap64 ((n : Int) + (mn (l[i].1.size : Int) 1048576 + mn (l[i].2.size : Int) 1048576))) (wrap64 ((i : Int) + 1)) = _
        rw [mn_nat, mn_nat, w64 (by omega) (by omega), w64 (by omega) (by omega)]
        have e1 : (n : Int) + (((min l[i].1.size 1048576 : Nat) : Int) + ((min l[i].2.size 1048576 : Nat) : Int)) = ((n + (min l[i].1.size 1048576 + min l[i].2.size 1048576) : Nat) : Int) := by omega
        rw [e1]; rfl
      · obtain ⟨g1, g2⟩ := hb2 h0
        refine ⟨by omega, fun x hx => ?_⟩
        rw [List.drop_eq_getElem_cons hi] at hx
        rcases List.mem_cons.1 hx with rfl | hx
        · omega
        · exact g2 x hx
    · refine ⟨true, Ev.step (f := fun _ => some true) (fun k => ?_) (Ev.now _), fun h => by cases h⟩
      simp only [graftbedlaw02_heavy.l0]
      rw [if_pos e, if_neg g, decide_eq_true (by omega)]
theorem heavy_ev (l : List Fl) : ∃ b, Ev (fun k => graftbedlaw02_heavy.f k (l.map D)) b ∧ (b = false → l.length ≤ 80 ∧ ∀ x ∈ l, x.1.size ≤ 16384 ∧ x.2.size ≤ 16384) := by
  unfold graftbedlaw02_heavy.f
  by_cases g : ((l.map D).length : Int) > 80
  · simp only [if_pos g]
    exact ⟨true, Ev.now _, fun h => by cases h⟩
  · simp only [if_neg g]
    rw [mn_nat, len_D]
    rw [len_D] at g
    obtain ⟨b, hb, hb2⟩ := heavy_loop l (by omega) l.length 0 (min l.length 1048576) (Nat.zero_le _) rfl (by omega)
    refine ⟨b, hb, fun h => ⟨by omega, ?_⟩⟩
    have := (hb2 h).2
    rw [List.drop_zero] at this
    exact this

/-! ### The program's functions, as printed -/
def Small (T : List Fl) : Prop := T.length ≤ 1000000 ∧ ∀ x ∈ T, x.1.size ≤ 1099511627776
theorem put_ok {T : List Fl} (h : Small T) : tree_Put.ok (T.map D) = true := by
  unfold tree_Put.ok
  rw [len_D, decide_eq_true h.1, Bool.true_and, List.all_eq_true]
  intro x hx
  obtain ⟨y, hy, rfl⟩ := List.mem_map.1 hx
  exact decide_eq_true (h.2 y hy)
theorem put_f {T : List Fl} (h : Small T) {x : Fl} (hx : x.1.size ≤ 1099511627776) : tree_Put.f (T.map D) x.1 x.2 = some ((putT T x).1.map D, (putT T x).2) := by
  unfold tree_Put.f
  rw [if_pos ⟨put_ok h, hx⟩]
  have e : (T.map D).map tree_Put.enc = T := by
    rw [List.map_map]; exact (List.map_congr_left (fun x _ => rfl)).trans (List.map_id T)
  rw [e]; rfl

theorem tree_small {T : List Fl} (h : Tree T) : Small T := ⟨by have := h.few; omega, fun x hx => by have := (valid_tells (h.ok x hx).1).2.1; omega⟩
theorem tree_nil : Tree [] := ⟨(fun _ h => nomatch h), List.Pairwise.nil, (fun _ h => nomatch h), Nat.zero_le _⟩

theorem wrong_zero {x : Fl} : wrongF x = 0 ↔ valid x.1 = true ∧ x.2.size ≤ 4000 := by
  unfold wrongF
  by_cases h : valid x.1 = true
  · rw [if_pos h]
    by_cases g : (x.2.size : Int) > 4000
    · rw [if_pos g]; simp; omega
    · rw [if_neg g]; simp [h]; omega
  · rw [if_neg h]; simp [h]

theorem inside_self {p : ByteArray} (h1 : L p ≠ []) (h2 : L p ≠ [46]) : insideF p p = false := by
  cases e : insideF p p with
  | false => rfl
  | true => have := inside_lt h1 h2 e; rw [cmp_self] at this; omega

/-- What put does with a tree, if it does it. -/
theorem put_zero {T : List Fl} (hT : Tree T) {x : Fl} (h : (putT T x).2 = 0) :
    putT T x = (putF T x, 0) ∧ Tree (putF T x) ∧ valid x.1 = true ∧ x.2.size ≤ 4000 ∧ (∀ y ∈ T, insideF y.1 x.1 = false ∧ insideF x.1 y.1 = false) := by
  unfold putT at h ⊢
  by_cases g1 : wrongF x = 0
  · rw [if_pos g1] at h ⊢
    obtain ⟨v1, v2⟩ := wrong_zero.1 g1
    by_cases g2 : fitsF T x.1 = true
    · rw [if_pos g2] at h ⊢
      have hf := (fits_iff hT v1).1 g2
      by_cases g3 : ((putF T x).length : Int) > 60
      · rw [if_pos g3] at h; exact absurd h (by decide)
      · rw [if_neg g3]
        have hm := put_mem hT.up x
        refine ⟨rfl, ⟨?_, put_up hT.up x, ?_, by omega⟩, v1, v2, hf⟩
        · intro y hy
          rcases (hm y).1 hy with rfl | ⟨h1, _⟩
          · exact ⟨v1, v2⟩
          · exact hT.ok y h1
        · intro y hy z hz
          rcases (hm y).1 hy with rfl | ⟨h1, _⟩
          · rcases (hm z).1 hz with rfl | ⟨h2, _⟩
            · exact inside_self (valid_not_here v1).1 (valid_not_here v1).2
            · exact (hf z h2).2
          · rcases (hm z).1 hz with rfl | ⟨h2, _⟩
            · exact (hf y h1).1
            · exact hT.out y h1 z h2
    · rw [if_neg g2] at h; exact absurd h (by decide)
  · rw [if_neg g1] at h; exact absurd h g1
/-- When it does it. -/
theorem put_can {T : List Fl} (hT : Tree T) {x : Fl} (v1 : valid x.1 = true) (v2 : x.2.size ≤ 4000) (hf : ∀ y ∈ T, insideF y.1 x.1 = false ∧ insideF x.1 y.1 = false) :
    putT T x = if ((putF T x).length : Int) > 60 then ([], 2) else (putF T x, 0) := by
  unfold putT
  rw [if_pos (wrong_zero.2 ⟨v1, v2⟩), if_pos ((fits_iff hT v1).2 hf)]

/-! ### shown -/
def fAB : Fl := (⟨#[97, 47, 98]⟩, ⟨#[120]⟩)
theorem valid_ab : valid ⟨#[97, 47, 98]⟩ = true := by
  rw [valid_in (by rw [toList_L]; decide) (by decide), elems_list]
  decide +kernel
theorem put_ab : putT [] fAB = ([fAB], 0) := by
  rw [put_can tree_nil valid_ab (by decide) (fun _ h => nomatch h)]
  rfl
theorem shown_f : graftbedlaw02_shown.f = some true := by
  unfold graftbedlaw02_shown.f
  have h := put_f (T := []) (x := fAB) (tree_small tree_nil) (by decide)
  rw [put_ab] at h
  have h2 : tree_Put.f ([] : List (S24)) (⟨#[97, 47, 98]⟩ : ByteArray) (⟨#[120]⟩ : ByteArray) = some ([D fAB], 0) := h
  rw [h2, Option.bind_some]
  have e0 : rd_T24 ([D fAB], (0 : Int)).1 0 = D fAB := rfl
  rw [e0, toList_L, toList_L]
  rfl

/-! ### The reference's Put -/
def confF (x : Fl) (y : Fl) : Bool := insideF y.1 x.1 || insideF x.1 y.1
def goP (x : Fl) : List Fl → Bool → List Fl
  | [], done => if done = true then [] else [x]
  | y :: r, done => (if done = false ∧ 0 ≤ cmpP y.1 x.1 then [x] else []) ++ ((if L y.1 = L x.1 then [] else [y]) ++ goP x r (done || decide (0 ≤ cmpP y.1 x.1)))
def endP (o : List Fl) : List Fl × Int := if (o.length : Int) > 60 then ([], 2) else (o, 0)
theorem ref_put_loop (T : List Fl) (x : Fl) (hT : T.length ≤ 1000000) (hTs : ∀ y ∈ T, y.1.size ≤ 1099511627776) (hx : x.1.size ≤ 1099511627776) : ∀ (d i : Nat) (acc : List Fl) (done : Bool), i ≤ T.length → T.length - i = d → acc.length ≤ 2 * i →
    Ev (fun k => graftbedref02_Put.l0 k (T.map D) (acc.map D) done (i : Int) x.1 x.2) (let r := if (T.drop i).any (confF x) = true then (([] : List Fl), (4 : Int)) else endP (acc ++ goP x (T.drop i) done); (r.1.map D, r.2)) := by
  intro d
  induction d with
  | zero =>
    intro i acc done h1 h2 h3
    obtain rfl : i = T.length := by omega
    rw [List.drop_length]
    refine Ev.step (f := fun _ => some ((endP (acc ++ goP x [] done)).1.map D, (endP (acc ++ goP x [] done)).2)) (fun k => ?_) (Ev.now _)
    simp only [graftbedref02_Put.l0]
    rw [if_neg (by rw [len_D]; omega)]
    unfold endP goP
    cases done with
    | true =>
      rw [if_pos rfl, if_pos rfl, List.append_nil, len_D]
      by_cases g : (acc.length : Int) > 60
      · rw [if_pos g, if_pos g]; rfl
      · rw [if_neg g, if_neg g]
    | false =>
      simp only [Bool.false_eq_true, if_false]
      rw [if_pos (by rw [len_D]; omega), Option.bind_some]
      have e : acc.map D ++ [(⟨x.1, x.2⟩ : S24)] = (acc ++ [x]).map D := by rw [List.map_append]; rfl
      rw [e, len_D]
      by_cases g : (((acc ++ [x]).length : Nat) : Int) > 60
      · rw [if_pos g, if_pos g]; rfl
      · rw [if_neg g, if_neg g]
  | succ d ih =>
    intro i acc done h1 h2 h3
    have hi : i < T.length := by omega
    have hlt : (i : Int) < ((T.map D).length : Int) := by rw [len_D]; omega
    have hy := hTs T[i] (List.getElem_mem hi)
    rw [List.drop_eq_getElem_cons hi, List.any_cons]
    -- behind the tests
    have next : ∀ (acc2 : List Fl) (done2 : Bool), acc2.length ≤ 2 * i + 1 → Ev (fun k => if L T[i].1 = L x.1 then (graftbedref02_Put.l0 k (T.map D) (acc2.map D) done2 ((i + 1 : Nat) : Int) x.1 x.2) else (graftbedref02_Put.l0 k (T.map D) ((acc2 ++ [T[i]]).map D) done2 ((i + 1 : Nat) : Int) x.1 x.2))
        (let r := if (T.drop (i + 1)).any (confF x) = true then (([] : List Fl), (4 : Int)) else endP (acc2 ++ ((if L T[i].1 = L x.1 then [] else [T[i]]) ++ goP x (T.drop (i + 1)) done2)); (r.1.map D, r.2)) := by
      intro acc2 done2 hl
      by_cases g : L T[i].1 = L x.1
      · simp only [if_pos g]
        exact ih (i + 1) acc2 done2 (by omega) (by omega) (by omega)
      · simp only [if_neg g]
        have := ih (i + 1) (acc2 ++ [T[i]]) done2 (by omega) (by omega) (by rw [List.length_append]; simp; omega)
        rw [List.append_assoc] at this
        exact this
    have j2 : ∀ b : Bool, b = decide (done = false ∧ 0 ≤ cmpP T[i].1 x.1) → Ev (fun k => graftbedref02_Put.j2 k (T.map D) (acc.map D) done (i : Int) b x.1 x.2)
        (let r := if (T.drop (i + 1)).any (confF x) = true then (([] : List Fl), (4 : Int)) else endP (acc ++ goP x (T[i] :: T.drop (i + 1)) done); (r.1.map D, r.2)) := by
      intro b hb
      rw [goP]
      by_cases g : done = false ∧ 0 ≤ cmpP T[i].1 x.1
      · rw [decide_eq_true g] at hb
        subst hb
        rw [if_pos g]
        have hn := next (acc ++ [x]) true (by rw [List.length_append]; simp; omega)
        rw [← List.append_assoc acc [x]]
        have ed : (done || decide (0 ≤ cmpP T[i].1 x.1)) = true := by rw [decide_eq_true g.2, Bool.or_true]
        rw [ed]
        refine Ev.step (fun k => ?_) hn
        simp only [graftbedref02_Put.j2, if_true]
        have e : acc.map D ++ [(⟨x.1, x.2⟩ : S24)] = (acc ++ [x]).map D := by rw [List.map_append]; rfl
        have e2 : (acc ++ [x]).map D ++ [(⟨(D T[i]).f0, (D T[i]).f1⟩ : S24)] = ((acc ++ [x]) ++ [T[i]]).map D := by rw [List.map_append (l₁ := acc ++ [x])]; rfl
        rw [if_pos (by rw [len_D]; omega), Option.bind_some, if_pos (by omega), if_pos hlt, rd_D hi, e, w64 (by omega) (by omega), e2]
        show (if T[i].1.toList = x.1.toList then _ else _) = _
        rw [toList_L, toList_L, if_pos (show ((acc ++ [x]).map D).length < 4398046511104 by rw [len_D, List.length_append]; simp; omega)]
        rfl
      · rw [decide_eq_false g] at hb
        subst hb
        rw [if_neg g, List.nil_append]
        have ed : (done || decide (0 ≤ cmpP T[i].1 x.1)) = done := by
          cases done with
          | true => rfl
          | false => rw [decide_eq_false (fun h => g ⟨rfl, h⟩)]; rfl
        rw [ed]
        refine Ev.step (fun k => ?_) (next acc done (by omega))
        simp only [graftbedref02_Put.j2, Bool.false_eq_true, if_false]
        have e2 : acc.map D ++ [(⟨(D T[i]).f0, (D T[i]).f1⟩ : S24)] = (acc ++ [T[i]]).map D := by rw [List.map_append]; rfl
        rw [if_pos (by omega), if_pos hlt, rd_D hi, w64 (by omega) (by omega), e2]
        show (if T[i].1.toList = x.1.toList then _ else _) = _
        rw [toList_L, toList_L, if_pos (show (acc.map D).length < 4398046511104 by rw [len_D]; omega)]
        rfl
    have j1 : ∀ b : Bool, b = confF x T[i] → Ev (fun k => graftbedref02_Put.j1 k (T.map D) (acc.map D) done (i : Int) b x.1 x.2)
        (let r := if (confF x T[i] || (T.drop (i + 1)).any (confF x)) = true then (([] : List Fl), (4 : Int)) else endP (acc ++ goP x (T[i] :: T.drop (i + 1)) done); (r.1.map D, r.2)) := by
      intro b hb
      cases hc : confF x T[i] with
      | true =>
        rw [hb, hc, Bool.true_or, if_pos rfl]
        exact Ev.step (f := fun _ => some ([], 4)) (fun k => by simp only [graftbedref02_Put.j1, if_true]) (Ev.now _)
      | false =>
        rw [hb, hc, Bool.false_or]
        cases hd : done with
        | true =>
          have := j2 false (by rw [hd]; rfl)
          rw [hd] at this
          exact Ev.step (fun k => by simp only [graftbedref02_Put.j1, Bool.false_eq_true, if_false, if_true]) this
        | false =>
          have h := j2 (decide (cmpP T[i].1 x.1 ≥ 0)) (by rw [hd]; simp)
          rw [hd] at h
          refine Ev.step (f := fun k => (graftbedref01_Compare.f k T[i].1 x.1).bind fun t => graftbedref02_Put.j2 k (T.map D) (acc.map D) false (i : Int) (decide (t ≥ 0)) x.1 x.2) (fun k => ?_) ?_
          · simp only [graftbedref02_Put.j1, Bool.false_eq_true, if_false]
            rw [if_pos (by omega), if_pos hlt, rd_D hi]
            rfl
          · exact Ev.bind (ref_cmp _ _ hy hx) h
    refine Ev.step (f := fun k => (graftbedref02_inside.f k T[i].1 x.1).bind fun t => (if t = true then (graftbedref02_Put.j1 k (T.map D) (acc.map D) done (i : Int) true x.1 x.2) else ((graftbedref02_inside.f k x.1 T[i].1).bind fun t2 => (graftbedref02_Put.j1 k (T.map D) (acc.map D) done (i : Int) t2 x.1 x.2)))) (fun k => ?_) ?_
    · simp only [graftbedref02_Put.l0]
      rw [if_pos hlt, if_pos (by omega), rd_D hi]
      rfl
    · refine Ev.bind (ref_inside _ _ hx hy) ?_
      cases hc : insideF T[i].1 x.1 with
      | true =>
        simp only [if_true]
        exact j1 true (by unfold confF; rw [hc]; rfl)
      | false =>
        simp only [Bool.false_eq_true, if_false]
        refine Ev.bind (ref_inside _ _ hy hx) ?_
        exact j1 _ (by unfold confF; rw [hc]; rfl)

theorem goP_done (x : Fl) : ∀ B : List Fl, (∀ y ∈ B, 0 < cmpP y.1 x.1) → goP x B true = B
  | [], _ => rfl
  | y :: B, h => by
    have hy := h y List.mem_cons_self
    rw [goP, if_neg (by rintro ⟨h, _⟩; cases h), if_neg (fun e => cmp_ne (.inr hy) (L_inj e)), Bool.true_or, goP_done x B (fun z hz => h z (List.mem_cons_of_mem _ hz))]
    rfl
theorem goP_form {x : Fl} : ∀ {A B : List Fl}, (∀ y ∈ A, cmpP y.1 x.1 < 0) → (∀ y ∈ B, 0 < cmpP y.1 x.1) → goP x (A ++ B) false = A ++ x :: B ∧ ∀ z : Fl, z.1 = x.1 → goP x (A ++ z :: B) false = A ++ x :: B
  | [], B, _, hB => by
    refine ⟨?_, fun z hz => ?_⟩
    · cases B with
      | nil => rfl
      | cons y B =>
        have hy := hB y List.mem_cons_self
        rw [List.nil_append, goP, if_pos ⟨rfl, Int.le_of_lt hy⟩, if_neg (fun e => cmp_ne (.inr hy) (L_inj e)), decide_eq_true (Int.le_of_lt hy), Bool.false_or, goP_done x B (fun z hz => hB z (List.mem_cons_of_mem _ hz))]
        rfl
    · rw [List.nil_append, goP, if_pos ⟨rfl, by rw [hz, cmp_self]; exact Int.le_refl _⟩, if_pos (by rw [hz]), decide_eq_true (by rw [hz, cmp_self]; exact Int.le_refl _), Bool.false_or, goP_done x B hB]
      rfl
  | a :: A, B, hA, hB => by
    have ha := hA a List.mem_cons_self
    obtain ⟨h1, h2⟩ := goP_form (A := A) (fun y hy => hA y (List.mem_cons_of_mem _ hy)) hB
    have e : ∀ R, goP x (a :: R) false = a :: goP x R false := by
      intro R
      rw [goP, if_neg (by rintro ⟨_, h⟩; omega), if_neg (fun e => cmp_ne (.inl ha) (L_inj e)), decide_eq_false (by omega)]
      rfl
    refine ⟨by rw [List.cons_append, e, h1]; rfl, fun z hz => by rw [List.cons_append, e, h2 z hz]; rfl⟩

theorem goP_put {T : List Fl} (up : T.Pairwise (fun x y => cmpP x.1 y.1 < 0)) (x : Fl) : goP x T false = putF T x := by
  rcases put_form up x with ⟨A, B, rfl, hA, hB, e⟩ | ⟨A, z, B, rfl, hA, hz, hB, e⟩
  · rw [e, (goP_form hA hB).1]
  · rw [e, (goP_form hA hB).2 z hz]

theorem ref_put {T : List Fl} (hT : Tree T) (x : Fl) (hx : x.1.size ≤ 1099511627776) : Ev (fun k => graftbedref02_Put.f k (T.map D) x.1 x.2) ((putT T x).1.map D, (putT T x).2) := by
  unfold graftbedref02_Put.f
  refine Ev.bind (ref_valid x.1 hx) ?_
  unfold putT wrongF
  cases hv : valid x.1 with
  | false =>
    simp only [Bool.false_eq_true, if_false]
    exact Ev.now _
  | true =>
    simp only [if_true]
    by_cases g : (x.2.size : Int) > 4000
    · simp only [if_pos g]
      exact Ev.now _
    · simp only [if_neg g, if_true]
      have h := ref_put_loop T x (tree_small hT).1 (tree_small hT).2 hx T.length 0 [] false (Nat.zero_le _) rfl (Nat.zero_le _)
      rw [List.drop_zero, goP_put hT.up, List.nil_append] at h
      by_cases f : fitsF T x.1 = true
      · have ha : ¬ T.any (confF x) = true := by
          intro ha
          obtain ⟨y, hy, hc⟩ := List.any_eq_true.1 ha
          obtain ⟨h1, h2⟩ := (fits_iff hT hv).1 f y hy
          unfold confF at hc
          rw [h1, h2] at hc
          cases hc
        rw [if_neg ha] at h
        rw [if_pos f]
        exact h
      · have ha : T.any (confF x) = true := by
          cases e : T.any (confF x) with
          | true => rfl
          | false =>
            exfalso
            apply f
            refine (fits_iff hT hv).2 (fun y hy => ?_)
            have := List.any_eq_false.1 e y hy
            unfold confF at this
            rw [Bool.or_eq_true, not_or, Bool.not_eq_true, Bool.not_eq_true] at this
            exact this
        rw [if_pos ha] at h
        rw [if_neg f]
        exact h

/-! ### grown, Same -/
def grow : List Fl → List Fl → List Fl
  | T, [] => T
  | T, x :: r => grow (if (putT T x).2 = 0 then (putT T x).1 else T) r
theorem grow_tree : ∀ (l T : List Fl), Tree T → Tree (grow T l)
  | [], T, h => h
  | x :: r, T, h => by
    rw [grow]
    refine grow_tree r _ ?_
    split
    · rename_i g
      rw [(put_zero h g).1]
      exact (put_zero h g).2.1
    · exact h
theorem grown_loop (l : List Fl) (hl : l.length ≤ 1000000) (hs : ∀ y ∈ l, y.1.size ≤ 1099511627776) : ∀ (d i : Nat) (T : List Fl), Tree T → i ≤ l.length → l.length - i = d →
    Ev (fun k => graftbedlaw02_grown.l0 k (l.map D) (T.map D) (i : Int)) ((grow T (l.drop i)).map D) := by
  intro d
  induction d with
  | zero =>
    intro i T hT h1 h2
    rw [List.drop_of_length_le (by omega), grow]
    refine Ev.step (f := fun _ => some (T.map D)) (fun k => ?_) (Ev.now _)
    simp only [graftbedlaw02_grown.l0]
    rw [if_neg (by rw [len_D]; omega)]
  | succ d ih =>
    intro i T hT h1 h2
    have hi : i < l.length := by omega
    rw [List.drop_eq_getElem_cons hi, grow]
    refine Ev.step (f := fun k => (graftbedref02_Put.f k (T.map D) l[i].1 l[i].2).bind fun t => (if t.2 = 0 then (graftbedlaw02_grown.l0 k (l.map D) t.1 ((i + 1 : Nat) : Int)) else (graftbedlaw02_grown.l0 k (l.map D) (T.map D) ((i + 1 : Nat) : Int)))) (fun k => ?_) ?_
    · simp only [graftbedlaw02_grown.l0]
      rw [if_pos (by rw [len_D]; omega), if_pos (by omega), rd_D hi, w64 (by omega) (by omega)]
      rfl
    · refine Ev.bind (ref_put hT l[i] (hs _ (List.getElem_mem hi))) ?_
      by_cases g : (putT T l[i]).2 = 0
      · simp only [if_pos g]
        refine ih (i + 1) _ ?_ (by omega) (by omega)
        rw [(put_zero hT g).1]
        exact (put_zero hT g).2.1
      · simp only [if_neg g]
        exact ih (i + 1) _ hT (by omega) (by omega)
theorem grown_ev (l : List Fl) (hl : l.length ≤ 1000000) (hs : ∀ y ∈ l, y.1.size ≤ 1099511627776) : Ev (fun k => graftbedlaw02_grown.f k (l.map D)) ((grow [] l).map D) := by
  have := grown_loop l hl hs l.length 0 [] tree_nil (Nat.zero_le _) rfl
  rw [List.drop_zero] at this
  exact this

theorem same_loop (T : List Fl) (hT : T.length ≤ 1000000) : ∀ (d i : Nat), i ≤ T.length → T.length - i = d → Ev (fun k => graftbedref02_Same.l0 k (T.map D) (T.map D) (i : Int)) true := by
  intro d
  induction d with
  | zero =>
    intro i h1 h2
    refine Ev.step (f := fun _ => some true) (fun k => ?_) (Ev.now _)
    simp only [graftbedref02_Same.l0]
    rw [if_neg (by rw [len_D]; omega)]
  | succ d ih =>
    intro i h1 h2
    have hi : i < T.length := by omega
    refine Ev.step (fun k => ?_) (ih (i + 1) (by omega) (by omega))
    simp only [graftbedref02_Same.l0]
    rw [if_pos (by rw [len_D]; omega), if_pos (by omega), if_pos (by rw [len_D]; omega), if_neg (by simp), w64 (by omega) (by omega)]
    rfl
theorem same_ev (T : List Fl) (hT : T.length ≤ 1000000) : Ev (fun k => graftbedref02_Same.f k (T.map D) (T.map D)) true := by
  unfold graftbedref02_Same.f
  simp only [if_true]
  exact same_loop T hT T.length 0 (Nat.zero_le _) rfl

end Go.Proofs.Ytmocfgghccmdgaa.Pure


/- TreeNames: names, what is within a directory, what is set under one. -/
namespace Go.Proofs.Ytmocfgghccmdgaa.Pure
open Go Go.RowKit Go.Proofs.Ytmocfgghccmdgaa.PTn Go.Proofs.YtmocfgghccmdgaaW.PrintWords Go.Proofs.YtmocfgghccmdgaaW.PrintLast
open Go.Proofs.Ytmocfgghccmdgaa.BytesLib Go.Proofs.Ytmocfgghccmdgaa.SplitLib Go.Proofs.Ytmocfgghccmdgaa.OrderLib Go.Proofs.Ytmocfgghccmdgaa.Elems Go.Proofs.Ytmocfgghccmdgaa.Valid Go.Proofs.Ytmocfgghccmdgaa.PathBase Go.Proofs.Ytmocfgghccmdgaa.TrLib Go.Proofs.Ytmocfgghccmdgaa.TrPut Go.Proofs.Ytmocfgghccmdgaa.TrFits Go.Proofs.Ytmocfgghccmdgaa.TrOps Go.Proofs.Ytmocfgghccmdgaa.TrMerge Go.Proofs.Ytmocfgghccmdgaa.TrPlain
open Go.Proofs.Ytmocfgghccmdgaa.RowOksTreeNames Go.Proofs.Ytmocfgghccmdgaa.TrNames
set_option linter.unusedVariables false
set_option linter.unusedSimpArgs false

theorem hereT_f (s : ByteArray) : paths_here.f s = some (decide (L s = [] ∨ L s = [46])) := by
  unfold paths_here.f
  rw [toList_L]
  by_cases h1 : L s = []
  · rw [if_pos h1]; simp [h1]
  · rw [if_neg h1]
    by_cases h2 : L s = [46]
    · simp [h2]
    · rw [beq_eq_false_iff_ne.2 h2]; simp [h1, h2]

/-- The join of two, where neither is no directory of its own. -/
def slash (a b : ByteArray) : ByteArray := (a ++ (⟨#[47]⟩ : ByteArray)) ++ b
theorem L_slash2 (a b : ByteArray) : L (slash a b) = L a ++ 47 :: L b := by
  unfold slash
  rw [L_append, L_append, List.append_assoc]; rfl
theorem join_f (a b : ByteArray) (ha : a.size ≤ 1099511627776) (hb : b.size ≤ 1099511627776) :
    paths_Join.f a b = some (if L a = [] ∨ L a = [46] then b else if L b = [] ∨ L b = [46] then a else slash a b) := by
  unfold paths_Join.f
  rw [hereT_f, hereT_f]
  simp only [Option.bind_some]
  by_cases h1 : L a = [] ∨ L a = [46]
  · rw [decide_eq_true h1, if_pos rfl, if_pos h1]
  · rw [decide_eq_false h1, if_neg (by decide), if_neg h1]
    by_cases h2 : L b = [] ∨ L b = [46]
    · rw [decide_eq_true h2, if_pos rfl, if_pos h2]
    · have s1 : (a ++ (⟨#[47]⟩ : ByteArray)).size = a.size + 1 := size_append _ _
      rw [decide_eq_false h2, if_neg (by decide), if_neg h2, if_pos (by omega), if_pos (by omega)]; rfl

theorem withinT_f (s d : ByteArray) (hd : d.size ≤ 1099511627776) :
    paths_Within.f s d = some (if L d = [] ∨ L d = [46] then (s, true) else if L s = L d then ((⟨#[]⟩ : ByteArray), true)
      else if L d ++ [47] <+: L s then (s.extract (d.size + 1) s.size, true) else ((⟨#[]⟩ : ByteArray), false)) := by
  unfold paths_Within.f
  rw [hereT_f]
  simp only [Option.bind_some]
  by_cases h1 : L d = [] ∨ L d = [46]
  · rw [decide_eq_true h1, if_pos rfl, if_pos h1]
  · rw [decide_eq_false h1, if_neg (by decide), if_neg h1, toList_L, toList_L]
    by_cases h2 : L s = L d
    · rw [if_pos h2, if_pos h2]
    · have s1 : (d ++ (⟨#[47]⟩ : ByteArray)).size = d.size + 1 := size_append _ _
      rw [if_neg h2, if_neg h2, if_pos (by omega)]
      unfold strings_CutPrefix.f stringslite_CutPrefix.f stringslite_HasPrefix.f
      rw [s1]
      by_cases h3 : L d ++ [47] <+: L s
      · have hl := h3.length_le
        rw [List.length_append, L_length, L_length, List.length_singleton] at hl
        rw [if_pos h3, if_pos (by omega), if_pos (by omega), if_pos (by omega), toList_L, toList_L, L_head, L_append]
        rw [show ((L s).take (((d.size + 1 : Nat) : Int)).toNat == L d ++ L (⟨#[47]⟩ : ByteArray)) = true from by
          rw [beq_iff_eq, Int.toNat_natCast]
          have := List.prefix_iff_eq_take.1 h3
          rw [List.length_append, L_length, List.length_singleton] at this
          exact this.symm]
        simp only [Option.bind_some, if_true]
        rw [if_pos (by omega), if_pos (by omega)]; rfl
      · rw [if_neg h3]
        by_cases h4 : (s.size : Int) ≥ ((d.size + 1 : Nat) : Int)
        · rw [if_pos h4, if_pos (by omega), if_pos (by omega), toList_L, toList_L, L_head, L_append]
          rw [show ((L s).take (((d.size + 1 : Nat) : Int)).toNat == L d ++ L (⟨#[47]⟩ : ByteArray)) = false from by
            rw [beq_eq_false_iff_ne, Int.toNat_natCast]
            intro e
            apply h3
            rw [show L d ++ [47] = (L s).take (d.size + 1) from e.symm]
            exact List.take_prefix _ _]
          simp
        · rw [if_neg h4]; simp

theorem lsame_loop (l : List ByteArray) (hl : l.length ≤ 1000000) : ∀ (d i : Nat), i ≤ l.length → l.length - i = d → Ev (fun k => graftbedlaw02_same.l0 k l l (i : Int)) true := by
  intro d
  induction d with
  | zero =>
    intro i h1 h2
    refine Ev.step (f := fun _ => some true) (fun k => ?_) (Ev.now _)
    simp only [graftbedlaw02_same.l0]
    rw [if_neg (by omega)]
  | succ d ih =>
    intro i h1 h2
    have hi : i < l.length := by omega
    refine Ev.step (fun k => ?_) (ih (i + 1) (by omega) (by omega))
    simp only [graftbedlaw02_same.l0, if_true]
    rw [if_pos (by omega), if_pos (by omega), if_pos (by omega), w64 (by omega) (by omega)]; rfl
theorem lsame_ev (l : List ByteArray) (hl : l.length ≤ 1000000) : Ev (fun k => graftbedlaw02_same.f k l l) true := by
  unfold graftbedlaw02_same.f
  simp only [if_true]
  exact lsame_loop l hl l.length 0 (Nat.zero_le _) rfl

/-! ### Sub -/
open TrNm (subL)
theorem within_T (s d : ByteArray) (hd : d.size ≤ 1099511627776) : paths_Within.f s d = some (withinF s d) := withinT_f s d hd
theorem tsub_loop (l : List Fl) (dir : ByteArray) (hl : l.length ≤ 1000000) (hd : dir.size ≤ 1099511627776) : ∀ (d i : Nat) (acc : List Fl), i ≤ l.length → l.length - i = d → acc.length ≤ i →
    Ev (fun k => tree_Sub.l0 k dir (acc.map D) (l.map D) (l.length : Int) (i : Int)) ((acc ++ subL dir (l.drop i)).map D) := by
  intro d
  induction d with
  | zero =>
    intro i acc h1 h2 h3
    rw [List.drop_of_length_le (by omega), subL, List.append_nil]
    refine Ev.step (f := fun _ => some (acc.map D)) (fun k => ?_) (Ev.now _)
    simp only [tree_Sub.l0]
    rw [if_neg (by omega)]
  | succ d ih =>
    intro i acc h1 h2 h3
    have hi : i < l.length := by omega
    rw [List.drop_eq_getElem_cons hi, subL]
    have e : ∀ b : ByteArray, acc.map D ++ [(⟨b, (D l[i]).f1⟩ : S24)] = (acc ++ [(b, l[i].2)]).map D := by intro b; rw [List.map_append]; rfl
    have hw : paths_Within.f (D l[i]).f0 dir = some (withinF l[i].1 dir) := within_T l[i].1 dir hd
    by_cases g1 : (withinF l[i].1 dir).2 = true
    · by_cases g2 : (withinF l[i].1 dir).1.toList = []
      · rw [if_neg (fun h => h.2 g2)]
        refine Ev.step (fun k => ?_) (ih (i + 1) acc (by omega) (by omega) (by omega))
        simp only [tree_Sub.l0]
        rw [if_pos (by omega), if_pos (by omega), if_pos (by rw [len_D]; omega), rd_D hi, w64 (by omega) (by omega), hw, Option.bind_some, if_pos g1, if_pos g2]
        rfl
      · rw [if_pos ⟨g1, g2⟩]
        have := ih (i + 1) (acc ++ [((withinF l[i].1 dir).1, l[i].2)]) (by omega) (by omega) (by rw [List.length_append]; simp; omega)
        rw [List.append_assoc] at this
        refine Ev.step (fun k => ?_) this
        simp only [tree_Sub.l0]
        rw [if_pos (by omega), if_pos (by omega), if_pos (by rw [len_D]; omega), rd_D hi, w64 (by omega) (by omega), hw, Option.bind_some, if_pos g1, if_neg g2, if_pos (show (acc.map D).length < 4398046511104 by rw [len_D]; omega), e]
        rfl
    · rw [if_neg (fun h => g1 h.1)]
      refine Ev.step (fun k => ?_) (ih (i + 1) acc (by omega) (by omega) (by omega))
      simp only [tree_Sub.l0]
      rw [if_pos (by omega), if_pos (by omega), if_pos (by rw [len_D]; omega), rd_D hi, w64 (by omega) (by omega), hw, Option.bind_some, if_neg g1]
      rfl
theorem tsub_ev (l : List Fl) (dir : ByteArray) (hl : l.length ≤ 1000000) (hd : dir.size ≤ 1099511627776) : Ev (fun k => tree_Sub.f k (l.map D) dir) ((subL dir l).map D) := by
  have := tsub_loop l dir hl hd l.length 0 [] (Nat.zero_le _) rfl (Nat.zero_le _)
  rw [List.drop_zero, List.nil_append] at this
  unfold tree_Sub.f
  rw [len_D]
  exact this
theorem rsub_loop (l : List Fl) (dir : ByteArray) (hl : l.length ≤ 1000000) (hs : ∀ y ∈ l, y.1.size ≤ 1099511627776) (hd : dir.size ≤ 1099511627776) : ∀ (d i : Nat) (acc : List Fl), i ≤ l.length → l.length - i = d → acc.length ≤ i →
    Ev (fun k => graftbedref02_Sub.l0 k (l.map D) dir (acc.map D) (i : Int)) ((acc ++ subL dir (l.drop i)).map D) := by
  intro d
  induction d with
  | zero =>
    intro i acc h1 h2 h3
    rw [List.drop_of_length_le (by omega), subL, List.append_nil]
    refine Ev.step (f := fun _ => some (acc.map D)) (fun k => ?_) (Ev.now _)
    simp only [graftbedref02_Sub.l0]
    rw [if_neg (by rw [len_D]; omega)]
  | succ d ih =>
    intro i acc h1 h2 h3
    have hi : i < l.length := by omega
    rw [List.drop_eq_getElem_cons hi, subL]
    refine Ev.step (f := fun k => (graftbedref01_Within.f k l[i].1 dir).bind fun bt105 => (if bt105.2 = true then (if bt105.1.toList = ([] : List UInt8) then (graftbedref02_Sub.l0 k (l.map D) dir (acc.map D) ((i + 1 : Nat) : Int)) else (graftbedref02_Sub.l0 k (l.map D) dir ((acc ++ [(bt105.1, l[i].2)]).map D) ((i + 1 : Nat) : Int))) else (graftbedref02_Sub.l0 k (l.map D) dir (acc.map D) ((i + 1 : Nat) : Int)))) (fun k => ?_) ?_
    · simp only [graftbedref02_Sub.l0]
      rw [if_pos (by rw [len_D]; omega), if_pos (by omega), rd_D hi, w64 (by omega) (by omega)]
      have e : ∀ b : ByteArray, acc.map D ++ [(⟨b, (D l[i]).f1⟩ : S24)] = (acc ++ [(b, l[i].2)]).map D := by intro b; rw [List.map_append]; rfl
      simp only [e, if_pos (show (acc.map D).length < 4398046511104 by rw [len_D]; omega)]
      rfl
    · refine Ev.bind (ref_within _ _ hd (hs _ (List.getElem_mem hi))) ?_
      by_cases g1 : (withinF l[i].1 dir).2 = true
      · by_cases g2 : (withinF l[i].1 dir).1.toList = []
        · rw [if_neg (fun h => h.2 g2)]
          simp only [if_pos g1, if_pos g2]
          exact ih (i + 1) acc (by omega) (by omega) (by omega)
        · rw [if_pos ⟨g1, g2⟩]
          simp only [if_pos g1, if_neg g2]
          have := ih (i + 1) (acc ++ [((withinF l[i].1 dir).1, l[i].2)]) (by omega) (by omega) (by rw [List.length_append]; simp; omega)
          rw [List.append_assoc] at this
          exact this
      · rw [if_neg (fun h => g1 h.1)]
        simp only [if_neg g1]
        exact ih (i + 1) acc (by omega) (by omega) (by omega)
theorem rsub_ev (l : List Fl) (dir : ByteArray) (hl : l.length ≤ 1000000) (hs : ∀ y ∈ l, y.1.size ≤ 1099511627776) (hd : dir.size ≤ 1099511627776) : Ev (fun k => graftbedref02_Sub.f k (l.map D) dir) ((subL dir l).map D) := by
  have := rsub_loop l dir hl hs hd l.length 0 [] (Nat.zero_le _) rfl (Nat.zero_le _)
  rw [List.drop_zero, List.nil_append] at this
  exact this

/-! ### Under -/
def joinF (a b : ByteArray) : ByteArray := if L a = [] ∨ L a = [46] then b else if L b = [] ∨ L b = [46] then a else slash a b
def undL (dir : ByteArray) (l : List Fl) : List Fl := l.map fun x => (joinF dir x.1, x.2)
theorem tund_loop (l : List Fl) (dir : ByteArray) (hl : l.length ≤ 1000000) (hs : ∀ y ∈ l, y.1.size ≤ 1099511627776) (hd : dir.size ≤ 1099511627776) : ∀ (d i : Nat) (acc : List Fl), i ≤ l.length → l.length - i = d → acc.length ≤ i →
    Ev (fun k => tree_Under.l0 k dir (acc.map D) (l.map D) (l.length : Int) (i : Int)) ((acc ++ undL dir (l.drop i)).map D) := by
  intro d
  induction d with
  | zero =>
    intro i acc h1 h2 h3
    rw [List.drop_of_length_le (by omega)]
    refine Ev.step (f := fun _ => some (acc.map D)) (fun k => ?_) (by rw [undL, List.map_nil, List.append_nil]; exact Ev.now _)
    simp only [tree_Under.l0]
    rw [if_neg (by omega)]
  | succ d ih =>
    intro i acc h1 h2 h3
    have hi : i < l.length := by omega
    rw [List.drop_eq_getElem_cons hi, undL, List.map_cons]
    have e : ∀ b : ByteArray, acc.map D ++ [(⟨b, (D l[i]).f1⟩ : S24)] = (acc ++ [(b, l[i].2)]).map D := by intro b; rw [List.map_append]; rfl
    have hw : paths_Join.f dir (D l[i]).f0 = some (joinF dir l[i].1) := join_f dir l[i].1 hd (hs _ (List.getElem_mem hi))
    have := ih (i + 1) (acc ++ [(joinF dir l[i].1, l[i].2)]) (by omega) (by omega) (by rw [List.length_append]; simp; omega)
    rw [List.append_assoc] at this
    refine Ev.step (fun k => ?_) this
    simp only [tree_Under.l0]
    rw [if_pos (by omega), if_pos (by omega), if_pos (by rw [len_D]; omega), rd_D hi, w64 (by omega) (by omega), hw, Option.bind_some, if_pos (show (acc.map D).length < 4398046511104 by rw [len_D]; omega), e]
    rfl
theorem tund_ev (l : List Fl) (dir : ByteArray) (hl : l.length ≤ 1000000) (hs : ∀ y ∈ l, y.1.size ≤ 1099511627776) (hd : dir.size ≤ 1099511627776) : Ev (fun k => tree_Under.f k (l.map D) dir) ((undL dir l).map D) := by
  have := tund_loop l dir hl hs hd l.length 0 [] (Nat.zero_le _) rfl (Nat.zero_le _)
  rw [List.drop_zero, List.nil_append] at this
  unfold tree_Under.f
  rw [len_D]
  exact this
theorem rjoin_ev (a b : ByteArray) (ha : a.size ≤ 1099511627776) (hb : b.size ≤ 1099511627776) : Ev (fun k => graftbedref01_Join.f k a b) (joinF a b) := by
  have hj : ∀ c : Bool, c = decide (L a = [] ∨ L a = [46]) → Ev (fun k => graftbedref01_Join.j0 k a b c) (joinF a b) := by
    intro c hc
    refine Ev.step (f := fun _ => some (joinF a b)) (fun k => ?_) (Ev.now _)
    simp only [graftbedref01_Join.j0]
    unfold joinF
    by_cases h1 : L a = [] ∨ L a = [46]
    · rw [hc, decide_eq_true h1, if_pos rfl, if_pos h1]
    · have s1 : (a ++ (⟨#[47]⟩ : ByteArray)).size = a.size + 1 := size_append _ _
      rw [hc, decide_eq_false h1, if_neg (by decide), if_neg h1, toList_L]
      by_cases h2 : L b = []
      · rw [if_pos h2, if_pos (.inl h2)]
      · rw [if_neg h2]
        by_cases h3 : L b = [46]
        · rw [if_pos h3, if_pos (.inr h3)]
        · rw [if_neg h3, if_neg (show ¬ (L b = [] ∨ L b = [46]) by rintro (h | h); exact h2 h; exact h3 h), if_pos (by omega), if_pos (by omega)]; rfl
  unfold graftbedref01_Join.f
  rw [toList_L]
  by_cases h1 : L a = []
  · simp only [if_pos h1]
    exact hj true (by rw [decide_eq_true (Or.inl h1)])
  · simp only [if_neg h1]
    refine hj _ ?_
    by_cases h2 : L a = [46]
    · rw [decide_eq_true (Or.inr h2), h2]; rfl
    · rw [decide_eq_false (by rintro (h | h); exact h1 h; exact h2 h), beq_eq_false_iff_ne.2 h2]
theorem rund_loop (l : List Fl) (dir : ByteArray) (hl : l.length ≤ 1000000) (hs : ∀ y ∈ l, y.1.size ≤ 1099511627776) (hd : dir.size ≤ 1099511627776) : ∀ (d i : Nat) (acc : List Fl), i ≤ l.length → l.length - i = d → acc.length ≤ i →
    Ev (fun k => graftbedref02_Under.l0 k (l.map D) dir (acc.map D) (i : Int)) ((acc ++ undL dir (l.drop i)).map D) := by
  intro d
  induction d with
  | zero =>
    intro i acc h1 h2 h3
    rw [List.drop_of_length_le (by omega)]
    refine Ev.step (f := fun _ => some (acc.map D)) (fun k => ?_) (by rw [undL, List.map_nil, List.append_nil]; exact Ev.now _)
    simp only [graftbedref02_Under.l0]
    rw [if_neg (by rw [len_D]; omega)]
  | succ d ih =>
    intro i acc h1 h2 h3
    have hi : i < l.length := by omega
    rw [List.drop_eq_getElem_cons hi, undL, List.map_cons]
    have e : ∀ b : ByteArray, acc.map D ++ [(⟨b, (D l[i]).f1⟩ : S24)] = (acc ++ [(b, l[i].2)]).map D := by intro b; rw [List.map_append]; rfl
    have := ih (i + 1) (acc ++ [(joinF dir l[i].1, l[i].2)]) (by omega) (by omega) (by rw [List.length_append]; simp; omega)
    rw [List.append_assoc] at this
    refine Ev.step (f := fun k => (graftbedref01_Join.f k dir l[i].1).bind fun t => graftbedref02_Under.l0 k (l.map D) dir ((acc ++ [(t, l[i].2)]).map D) ((i + 1 : Nat) : Int)) (fun k => ?_) (Ev.bind (rjoin_ev dir l[i].1 hd (hs _ (List.getElem_mem hi))) this)
    simp only [graftbedref02_Under.l0]
    rw [if_pos (by rw [len_D]; omega), if_pos (by omega), rd_D hi, w64 (by omega) (by omega)]
    simp only [if_pos (show (acc.map D).length < 4398046511104 by rw [len_D]; omega), e]
    rfl
theorem rund_ev (l : List Fl) (dir : ByteArray) (hl : l.length ≤ 1000000) (hs : ∀ y ∈ l, y.1.size ≤ 1099511627776) (hd : dir.size ≤ 1099511627776) : Ev (fun k => graftbedref02_Under.f k (l.map D) dir) ((undL dir l).map D) := by
  have := rund_loop l dir hl hs hd l.length 0 [] (Nat.zero_le _) rfl (Nat.zero_le _)
  rw [List.drop_zero, List.nil_append] at this
  exact this

/-- What is set under a directory is within it again. -/
theorem within_join {dir p : ByteArray} (hd : L dir = [] ∨ valid dir = true) (hp : valid p = true) : withinF (joinF dir p) dir = (p, true) := by
  obtain ⟨p1, p2⟩ := valid_not_here hp
  unfold joinF
  rcases hd with hd | hd
  · rw [if_pos (.inl hd)]
    unfold withinF
    rw [if_pos (.inl hd)]
  · obtain ⟨d1, d2⟩ := valid_not_here hd
    rw [if_neg (by rintro (h | h); exact d1 h; exact d2 h), if_neg (by rintro (h | h); exact p1 h; exact p2 h)]
    unfold withinF
    have hne : ¬ L (slash dir p) = L dir := by
      intro e
      rw [L_slash2] at e
      have := congrArg List.length e
      rw [List.length_append] at this
      simp at this
    rw [if_neg (by rintro (h | h); exact d1 h; exact d2 h), if_neg hne, if_pos ⟨L p, by rw [L_slash2]; simp⟩]
    refine Prod.ext (L_inj ?_) rfl
    show L ((slash dir p).extract (dir.size + 1) (slash dir p).size) = L p
    rw [L_tail, L_slash2, show L dir ++ 47 :: L p = (L dir ++ [47]) ++ L p from by simp, List.drop_left' (by rw [List.length_append, L_length]; rfl)]
theorem sub_under {dir : ByteArray} (hd : L dir = [] ∨ valid dir = true) : ∀ T : List Fl, (∀ x ∈ T, valid x.1 = true) → subL dir (undL dir T) = T
  | [], _ => rfl
  | x :: T, h => by
    have hx := h x List.mem_cons_self
    have hw := within_join hd hx
    rw [undL, List.map_cons, subL]
    show (if (withinF (joinF dir x.1) dir).2 = true ∧ (withinF (joinF dir x.1) dir).1.toList ≠ [] then ((withinF (joinF dir x.1) dir).1, x.2) :: subL dir (undL dir T) else subL dir (undL dir T)) = _
    rw [hw, if_pos ⟨rfl, by rw [toList_L]; exact (valid_not_here hx).1⟩, sub_under hd T (fun y hy => h y (List.mem_cons_of_mem _ hy))]

/-! ### Names -/
theorem stepR_len : ∀ (q : List Fl) (o d : List ByteArray), ((q.foldl TrNm.stepR (o, d)).1.length ≤ o.length + q.length) ∧ ((q.foldl TrNm.stepR (o, d)).2.length ≤ d.length + q.length)
  | [], o, d => ⟨Nat.le_refl _, Nat.le_refl _⟩
  | x :: q, o, d => by
    rw [List.foldl_cons, List.length_cons]
    unfold TrNm.stepR
    by_cases h1 : (elems x.1).length = 1
    · rw [if_pos h1]
      have h := stepR_len q (TrNm.putR o ((elems x.1).getD 0 ⟨#[]⟩)) d
      have hp := TrNmRef.putR_len o ((elems x.1).getD 0 ⟨#[]⟩)
      exact ⟨Nat.le_trans h.1 (by omega), Nat.le_trans h.2 (by omega)⟩
    · rw [if_neg h1]
      by_cases h2 : 1 < (elems x.1).length
      · rw [if_pos h2]
        have h := stepR_len q o (TrNm.putR d ((elems x.1).getD 0 ⟨#[]⟩))
        have hp := TrNmRef.putR_len d ((elems x.1).getD 0 ⟨#[]⟩)
        exact ⟨Nat.le_trans h.1 (by omega), Nat.le_trans h.2 (by omega)⟩
      · rw [if_neg h2]
        have h := stepR_len q o d
        exact ⟨Nat.le_trans h.1 (by omega), Nat.le_trans h.2 (by omega)⟩
theorem names_len (T : List Fl) (dir : ByteArray) : (namesT T dir).1.length ≤ (subL dir T).length ∧ (namesT T dir).2.length ≤ (subL dir T).length := by
  rw [← TrNm.names_eq]
  have := stepR_len (subL dir T) [] []
  rw [List.length_nil, Nat.zero_add] at this
  exact this
theorem names_ok {T : List Fl} (h : Small T) : tree_Names.ok (T.map D) = true ∧ graftbedref02_Names.ok (T.map D) = true := by
  constructor
  · unfold tree_Names.ok
    rw [len_D, decide_eq_true h.1, Bool.true_and, List.all_eq_true]
    intro x hx
    obtain ⟨y, hy, rfl⟩ := List.mem_map.1 hx
    exact decide_eq_true (h.2 y hy)
  · unfold graftbedref02_Names.ok
    rw [len_D, decide_eq_true h.1, Bool.true_and, List.all_eq_true]
    intro x hx
    obtain ⟨y, hy, rfl⟩ := List.mem_map.1 hx
    exact decide_eq_true (h.2 y hy)
theorem names_f {T : List Fl} (h : Small T) {p : ByteArray} (hp : p.size ≤ 1099511627776) : tree_Names.f (T.map D) p = some (namesT T p) ∧ graftbedref02_Names.f (T.map D) p = some (namesT T p) := by
  constructor
  · unfold tree_Names.f
    rw [if_pos ⟨(names_ok h).1, hp⟩]
    have e : (T.map D).map tree_Names.enc = T := by
      rw [List.map_map]; exact (List.map_congr_left (fun x _ => rfl)).trans (List.map_id T)
    rw [e]
  · unfold graftbedref02_Names.f
    rw [if_pos ⟨(names_ok h).2, hp⟩]
    have e : (T.map D).map graftbedref02_Names.enc = T := by
      rw [List.map_map]; exact (List.map_congr_left (fun x _ => rfl)).trans (List.map_id T)
    rw [e]

/-! ### The law -/
theorem names_in (l : List Fl) (dir : ByteArray) (hl : l.length ≤ 80) (hs : ∀ x ∈ l, x.1.size ≤ 16384 ∧ x.2.size ≤ 16384) (hp : dir.size ≤ 1024) :
    Ev (fun k => graftbedlaw02_TreeNames.j0 k (l.map D) dir false) true := by
  have hT := grow_tree l [] tree_nil
  obtain ⟨T, eT⟩ : ∃ T, grow [] l = T := ⟨_, rfl⟩
  have hgr := grown_ev l (by omega) (fun y hy => by have := (hs y hy).1; omega)
  rw [eT] at hgr hT
  have hsm := tree_small hT
  have hfew := hT.few
  obtain ⟨n1, n2⟩ := names_f hsm (p := dir) (by omega)
  obtain ⟨m1, m2⟩ := names_len T dir
  have hsl := TrNm.subL_len dir T
  have huS : (undL dir T).length ≤ 1000000 := by rw [undL, List.length_map]; omega
  have main : (L dir = [] ∨ valid dir = true) → Ev (fun k => graftbedlaw02_TreeNames.j1 k dir (T.map D) false) true := by
    intro hd
    have hsu := sub_under hd T (fun x hx => (hT.ok x hx).1)
    refine Ev.step (f := fun k => ((tree_Sub.f k (T.map D) dir).bind fun t239 => ((tree_Under.f k (T.map D) dir).bind fun t242 => ((graftbedlaw02_same.f k (namesT T dir).1 (namesT T dir).1).bind fun t245 => (if t245 = true then ((graftbedlaw02_same.f k (namesT T dir).2 (namesT T dir).2).bind fun t246 => (if t246 = true then ((graftbedref02_Sub.f k (T.map D) dir).bind fun t247 => ((graftbedref02_Same.f k t239 t247).bind fun t250 => (if t250 = true then ((graftbedref02_Under.f k (T.map D) dir).bind fun t251 => ((graftbedref02_Same.f k t242 t251).bind fun t254 => (graftbedlaw02_TreeNames.j2 k dir (T.map D) (namesT T dir).1 t239 t242 (!t254)))) else (graftbedlaw02_TreeNames.j2 k dir (T.map D) (namesT T dir).1 t239 t242 true)))) else (graftbedlaw02_TreeNames.j2 k dir (T.map D) (namesT T dir).1 t239 t242 true))) else (graftbedlaw02_TreeNames.j2 k dir (T.map D) (namesT T dir).1 t239 t242 true)))))) (fun k => ?_) ?_
    · simp only [graftbedlaw02_TreeNames.j1, Bool.false_eq_true, if_false]
      rw [n1, n2]
      simp only [Option.bind_some]
    refine Ev.bind (tsub_ev T dir hsm.1 (by omega)) ?_
    refine Ev.bind (tund_ev T dir hsm.1 hsm.2 (by omega)) ?_
    refine Ev.bind (lsame_ev _ (by omega)) ?_
    simp only [if_true]
    refine Ev.bind (lsame_ev _ (by omega)) ?_
    simp only [if_true]
    refine Ev.bind (rsub_ev T dir hsm.1 hsm.2 (by omega)) ?_
    refine Ev.bind (same_ev _ (by omega)) ?_
    simp only [if_true]
    refine Ev.bind (rund_ev T dir hsm.1 hsm.2 (by omega)) ?_
    refine Ev.bind (same_ev _ huS) ?_
    simp only [Bool.not_true]
    refine Ev.step (f := fun k => (tree_Sub.f k ((undL dir T).map D) dir).bind fun t255 => ((graftbedref02_Same.f k t255 (T.map D)).bind fun t258 => (if t258 = true then (some (decide (((namesT T dir).1.length : Int) ≤ (((subL dir T).map D).length : Int)))) else (some false)))) (fun k => by simp only [graftbedlaw02_TreeNames.j2, Bool.false_eq_true, if_false]) ?_
    refine Ev.bind (tsub_ev (undL dir T) dir huS (by omega)) ?_
    rw [hsu]
    refine Ev.bind (same_ev T hsm.1) ?_
    simp only [if_true]
    rw [len_D, decide_eq_true (by omega)]
    exact Ev.now _
  have shown : Ev (fun k => graftbedlaw02_TreeNames.j1 k dir (T.map D) true) true :=
    Ev.step (f := fun _ => some true) (fun k => by simp only [graftbedlaw02_TreeNames.j1, if_true]; rw [shown_f]; rfl) (Ev.now _)
  refine Ev.step (f := fun k => (graftbedlaw02_grown.f k (l.map D)).bind fun t222 => (if dir.toList = ([] : List UInt8) then (graftbedlaw02_TreeNames.j1 k dir t222 false) else ((graftbedref01_Valid.f k dir).bind fun t225 => (graftbedlaw02_TreeNames.j1 k dir t222 (!t225))))) (fun k => by simp only [graftbedlaw02_TreeNames.j0, Bool.false_eq_true, if_false]) ?_
  refine Ev.bind hgr ?_
  by_cases h0 : dir.toList = []
  · simp only [if_pos h0]
    exact main (.inl (by rw [← toList_L]; exact h0))
  · simp only [if_neg h0]
    refine Ev.bind (ref_valid dir (by omega)) ?_
    cases hv : valid dir with
    | true => exact main (.inr hv)
    | false => exact shown

theorem TreeNames (l0 : List S24) (a1 : ByteArray) (w0 : l0.length * 32 ≤ 140737488351232 ∧ ∀ y ∈ l0, ok24 y) (w1 : a1.size ≤ 140737488351232) : ∃ k, graftbedlaw02_TreeNames.f k l0 a1 = some true := by
  suffices h : Ev (fun k => graftbedlaw02_TreeNames.f k l0 a1) true by
    obtain ⟨K, hK⟩ := h
    exact ⟨K, hK K (Nat.le_refl _)⟩
  have big : Ev (fun k => graftbedlaw02_TreeNames.j0 k l0 a1 true) true :=
    Ev.step (f := fun _ => some true) (fun k => by simp only [graftbedlaw02_TreeNames.j0, if_true]; rw [shown_f]; rfl) (Ev.now _)
  obtain ⟨b1, hb1, hc1⟩ := heavy_ev (l0.map E)
  rw [DE] at hb1
  unfold graftbedlaw02_TreeNames.f
  refine Ev.bind hb1 ?_
  cases b1 with
  | true => simp only [if_true]; exact big
  | false =>
    simp only [Bool.false_eq_true, if_false]
    by_cases g : (a1.size : Int) > 1024
    · simp only [if_pos g]; exact big
    · simp only [if_neg g]
      rw [shown_f]
      simp only [Option.bind_some, Bool.not_true]
      obtain ⟨p1, p2⟩ := hc1 rfl
      have := names_in (l0.map E) a1 p1 p2 (by omega)
      rw [DE] at this
      exact this

end Go.Proofs.Ytmocfgghccmdgaa.Pure

