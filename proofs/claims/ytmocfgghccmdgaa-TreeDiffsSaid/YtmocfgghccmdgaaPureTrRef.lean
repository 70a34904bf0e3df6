/- What the printed reference on paths comes to, in lists of bytes. -/
import Derived.Test.YtmocfgghccmdgaaMpa
import Derived.Test.YtmocfgghccmdgaaOrderLib
namespace Go.Proofs.Ytmocfgghccmdgaa.Pure
open Go.RowKit Go.Proofs.Ytmocfgghccmdgaa.PTr Go.Proofs.YtmocfgghccmdgaaW.PrintWords Go.Proofs.YtmocfgghccmdgaaW.PrintLast
open Go.Proofs.Ytmocfgghccmdgaa.BytesLib Go.Proofs.Ytmocfgghccmdgaa.SplitLib Go.Proofs.Ytmocfgghccmdgaa.OrderLib Go.Proofs.Ytmocfgghccmdgaa.Elems Go.Proofs.Ytmocfgghccmdgaa.Valid Go.Proofs.Ytmocfgghccmdgaa.PathBase
set_option linter.unusedVariables false


theorem tail_ofL (s : ByteArray) (a : Nat) : s.extract a s.size = ofL ((L s).drop a) := L_inj (by rw [L_tail, L_ofL])
theorem cut_ofL (s : ByteArray) (a b : Nat) : s.extract a b = ofL (((L s).drop a).take (b - a)) := L_inj (by rw [L_extract, L_ofL])

theorem not_mem_take {l : List UInt8} {c : UInt8} {m n : Nat} (h : ∀ j, m ≤ j → j < n → l[j]? ≠ some c) : c ∉ (l.drop m).take (n - m) := by
  intro hm
  obtain ⟨k, hk, hk2⟩ := List.mem_iff_getElem.1 hm
  rw [List.length_take, List.length_drop] at hk
  rw [List.getElem_take, List.getElem_drop] at hk2
  exact h (m + k) (by omega) (by omega) (by rw [List.getElem?_eq_some_iff]; exact ⟨by omega, hk2⟩)

theorem ref_elems_loop (s : ByteArray) (hs : s.size ≤ 1099511627776) (d : Nat) : ∀ (i m : Nat) (acc : List ByteArray), m ≤ i → i ≤ s.size → s.size - i = d → acc.length ≤ i →
    (∀ j, m ≤ j → j < i → (L s)[j]? ≠ some 47) →
    Ev (fun k => graftbedref01_Elems.l0 k s acc (m : Int) (i : Int)) (acc ++ (splitL 47 ((L s).drop m)).map ofL) := by
  induction d with
  | zero =>
    intro i m acc h1 h2 h3 h4 h5
    obtain rfl : i = s.size := by omega
    have hn : (47 : UInt8) ∉ (L s).drop m := by
      have := not_mem_take h5
      rwa [List.take_of_length_le (by rw [List.length_drop, L_length]; exact Nat.le_refl _)] at this
    rw [splitL_none hn]
    refine Ev.step (f := fun k => graftbedref01_Elems.l0 k s (acc ++ [s.extract m s.size]) ((s.size : Int) + 1) ((s.size : Int) + 1)) (fun k => ?_) ?_
    · simp only [graftbedref01_Elems.l0]
      rw [if_pos (by omega), if_pos trivial, if_pos (by omega), if_pos (by omega), if_pos (by omega), w64 (by omega) (by omega), Int.toNat_natCast, Int.toNat_natCast]
    · refine Ev.step (f := fun _ => some (acc ++ [s.extract m s.size])) (fun k => ?_) ?_
      · simp only [graftbedref01_Elems.l0]
        rw [if_neg (by omega)]
      · rw [tail_ofL]; exact Ev.now _
  | succ d ih =>
    intro i m acc h1 h2 h3 h4 h5
    have hlt : i < (L s).length := by rw [L_length]; omega
    have hb := bt_nat hlt
    by_cases hc : (L s)[i] = 47
    · have hc2 : bt s (i : Int) = 47 := by rw [hb, hc]; rfl
      have hn := not_mem_take h5
      have hsp : (L s).drop m = ((L s).drop m).take (i - m) ++ 47 :: (L s).drop (i + 1) := by
        conv => lhs; rw [← List.take_append_drop (i - m) ((L s).drop m), List.drop_drop, show m + (i - m) = i from by omega, List.drop_eq_getElem_cons hlt, hc]
      refine Ev.step (f := fun k => graftbedref01_Elems.l0 k s (acc ++ [s.extract m i]) ((i + 1 : Nat) : Int) ((i + 1 : Nat) : Int)) (fun k => ?_) ?_
      · simp only [graftbedref01_Elems.l0]
        rw [if_pos (by omega), if_neg (by omega), if_pos (by omega), if_pos (by omega), if_pos hc2, if_pos (by omega), if_pos (by omega), if_pos (by omega), w64 (by omega) (by omega), Int.toNat_natCast, Int.toNat_natCast]
        rfl
      · have := ih (i + 1) (i + 1) (acc ++ [s.extract m i]) (Nat.le_refl _) (by omega) (by omega) (by simp; omega) (fun j hj hj2 => by omega)
        rw [hsp, splitL_at _ hn, List.map_cons]
        rw [List.append_assoc] at this
        rw [cut_ofL] at this ⊢
        exact this
    · have hc2 : ¬ bt s (i : Int) = 47 := by
        rw [hb]
        intro e
        exact hc (UInt8.toNat_inj.1 (by simpa using Int.ofNat_inj.1 e))
      refine Ev.step (f := fun k => graftbedref01_Elems.l0 k s acc (m : Int) ((i + 1 : Nat) : Int)) (fun k => ?_) ?_
      · simp only [graftbedref01_Elems.l0]
        rw [if_pos (by omega), if_neg (by omega), if_pos (by omega), if_pos (by omega), if_neg hc2, w64 (by omega) (by omega)]
        rfl
      · exact ih (i + 1) m acc (by omega) (by omega) (by omega) (by omega) (fun j hj hj2 => by
          by_cases e : j = i
          · rw [e, List.getElem?_eq_getElem hlt]; simpa using hc
          · exact h5 j hj (by omega))

theorem ref_elems (s : ByteArray) (hs : s.size ≤ 1099511627776) : Ev (fun k => graftbedref01_Elems.f k s) (elems s) := by
  unfold graftbedref01_Elems.f
  simp only [Option.bind_some]
  by_cases h : s.toList = []
  · simp only [h, if_true]
    rw [elems_list, show L s = [] from by rw [← toList_L]; exact h]
    exact Ev.now _
  · simp only [if_neg h]
    have := ref_elems_loop s hs s.size 0 0 [] (Nat.le_refl _) (Nat.zero_le _) (by omega) (Nat.zero_le _) (fun j hj hj2 => by omega)
    rw [elems_list]
    unfold elemsL
    rw [if_neg (by rw [← toList_L]; exact h)]
    exact this

theorem ref_cmp_loop (x y : List ByteArray) (hx : x.length ≤ 1099511627777) (d : Nat) : ∀ (i : Nat), i ≤ x.length → x.length - i = d → i ≤ y.length →
    Ev (fun k => graftbedref01_Compare.l0 k x y (i : Int)) (cmpLL ((x.drop i).map L) ((y.drop i).map L)) := by
  induction d with
  | zero =>
    intro i h1 h2 h3
    obtain rfl : i = x.length := by omega
    rw [List.drop_length]
    refine Ev.step (f := fun k => graftbedref01_Compare.j1 k x y (x.length : Int) false) (fun k => ?_) ?_
    · simp only [graftbedref01_Compare.l0]; rw [if_neg (by omega)]
    refine Ev.step (f := fun _ => some (cmpLL [] ((y.drop x.length).map L))) (fun k => ?_) (Ev.now _)
    simp only [graftbedref01_Compare.j1, Bool.false_eq_true, if_false]
    by_cases h : (x.length : Int) < (y.length : Int)
    · rw [if_pos h, List.drop_eq_getElem_cons (by omega), List.map_cons]; rfl
    · rw [if_neg h, if_neg (by omega), List.drop_of_length_le (by omega)]; rfl
  | succ d ih =>
    intro i h1 h2 h3
    have hlt : i < x.length := by omega
    rw [List.drop_eq_getElem_cons hlt, List.map_cons]
    by_cases hy : i < y.length
    · rw [List.drop_eq_getElem_cons hy, List.map_cons, cmpLL]
      refine Ev.step (f := fun k => graftbedref01_Compare.j1 k x y (i : Int) true) (fun k => ?_) ?_
      · simp only [graftbedref01_Compare.l0]; rw [if_pos (by omega), decide_eq_true (by omega)]
      by_cases l1 : L x[i] < L y[i]
      · rw [if_pos l1]
        refine Ev.step (f := fun _ => some (-1)) (fun k => ?_) (Ev.now _)
        simp only [graftbedref01_Compare.j1, if_true]
        rw [if_pos (by omega), if_pos (by omega), if_pos (by omega), rdOf_get _ hlt, rdOf_get _ hy, toList_L, toList_L, if_pos ((less_iff _ _).2 l1)]
      · rw [if_neg l1]
        by_cases l2 : L y[i] < L x[i]
        · rw [if_pos l2]
          refine Ev.step (f := fun _ => some 1) (fun k => ?_) (Ev.now _)
          simp only [graftbedref01_Compare.j1, if_true]
          rw [if_pos (by omega), if_pos (by omega), if_pos (by omega), rdOf_get _ hlt, rdOf_get _ hy, toList_L, toList_L, if_neg (fun e => l1 ((less_iff _ _).1 e)), if_pos ((less_iff _ _).2 l2)]
        · rw [if_neg l2]
          refine Ev.step (f := fun k => graftbedref01_Compare.l0 k x y ((i + 1 : Nat) : Int)) (fun k => ?_) (ih (i + 1) (by omega) (by omega) (by omega))
          simp only [graftbedref01_Compare.j1, if_true]
          rw [if_pos (by omega), if_pos (by omega), if_pos (by omega), rdOf_get _ hlt, rdOf_get _ hy, toList_L, toList_L, if_neg (fun e => l1 ((less_iff _ _).1 e)), if_neg (fun e => l2 ((less_iff _ _).1 e)), w64 (by omega) (by omega)]
          rfl
    · rw [List.drop_of_length_le (l := y) (by omega)]
      refine Ev.step (f := fun k => graftbedref01_Compare.j1 k x y (i : Int) false) (fun k => ?_) ?_
      · simp only [graftbedref01_Compare.l0]; rw [if_pos (by omega), decide_eq_false (by omega)]
      refine Ev.step (f := fun _ => some 1) (fun k => ?_) (Ev.now _)
      simp only [graftbedref01_Compare.j1, Bool.false_eq_true, if_false]
      rw [if_neg (by omega), if_pos (by omega)]

theorem ref_cmp (a b : ByteArray) (ha : a.size ≤ 1099511627776) (hb : b.size ≤ 1099511627776) : Ev (fun k => graftbedref01_Compare.f k a b) (cmpP a b) := by
  have hl := elems_length a
  have h := ref_cmp_loop (elems a) (elems b) (by omega) (elems a).length 0 (Nat.zero_le _) (by omega) (Nat.zero_le _)
  rw [List.drop_zero, List.drop_zero, elems_map, elems_map] at h
  exact Ev.bind (g := fun k => graftbedref01_Elems.f k a) (f := fun k t => (graftbedref01_Elems.f k b).bind fun t2 => graftbedref01_Compare.l0 k t t2 0) (ref_elems a ha)
    (Ev.bind (g := fun k => graftbedref01_Elems.f k b) (f := fun k t2 => graftbedref01_Compare.l0 k (elems a) t2 0) (ref_elems b hb) h)


theorem byte_eq {x : UInt8} {c : Int} (h0 : 0 ≤ c) (h1 : c ≤ 255) : (x.toNat : Int) = c ↔ x = c.toNat.toUInt8 := by
  have e : (c.toNat.toUInt8).toNat = c.toNat := by
    rw [Nat.toUInt8_eq, UInt8.toNat_ofNat']; omega
  constructor
  · intro h
    apply UInt8.toNat_inj.1
    rw [e]; omega
  · intro h
    rw [h, e]; omega

theorem ref_fine_loop (c : Int) (h0 : 0 ≤ c) (h1 : c ≤ 255) (s : ByteArray) (hs : s.size ≤ 1000) (d : Nat) : ∀ i : Nat, i ≤ s.size → s.size - i = d →
    Ev (fun k => graftbedref01_fine.l0 k c s (i : Int)) (decide (c.toNat.toUInt8 ∉ (L s).drop i)) := by
  induction d with
  | zero =>
    intro i h2 h3
    refine Ev.step (f := fun _ => some true) (fun k => ?_) ?_
    · simp only [graftbedref01_fine.l0]; rw [if_neg (by omega)]
    · rw [List.drop_of_length_le (by rw [L_length]; omega)]
      simp only [List.not_mem_nil, not_false_eq_true, decide_true]
      exact Ev.now _
  | succ d ih =>
    intro i h2 h3
    have hlt : i < (L s).length := by rw [L_length]; omega
    have hb := bt_nat hlt
    rw [List.drop_eq_getElem_cons hlt]
    by_cases e : bt s (i : Int) = c
    · refine Ev.step (f := fun _ => some false) (fun k => ?_) ?_
      · simp only [graftbedref01_fine.l0]; rw [if_pos (by omega), if_pos (by omega), if_pos e]
      · rw [hb, byte_eq h0 h1] at e
        rw [decide_eq_false (by rw [e]; simp)]
        exact Ev.now _
    · refine Ev.step (f := fun k => graftbedref01_fine.l0 k c s ((i + 1 : Nat) : Int)) (fun k => ?_) ?_
      · simp only [graftbedref01_fine.l0]; rw [if_pos (by omega), if_pos (by omega), if_neg e, w64 (by omega) (by omega)]; rfl
      · rw [hb, byte_eq h0 h1] at e
        have := ih (i + 1) (by omega) (by omega)
        rw [show decide (c.toNat.toUInt8 ∉ (L s)[i] :: (L s).drop (i + 1)) = decide (c.toNat.toUInt8 ∉ (L s).drop (i + 1)) from by
          rw [decide_eq_decide, List.mem_cons, not_or]
          exact ⟨fun h => h.2, fun h => ⟨fun h2 => e h2.symm, h⟩⟩]
        exact this

theorem index_mem (l : List UInt8) (c : UInt8) : decide (Lib.indexByte l c < 0) = decide (c ∉ l) := by
  rw [decide_eq_decide]
  constructor
  · intro h; exact index_none c l (by omega)
  · intro h
    by_cases g : 0 ≤ Lib.indexByte l c
    · have := (index_split c l g).1
      exact absurd (by rw [this]; simp) h
    · omega

theorem ref_fine (c : Int) (h0 : 0 ≤ c) (h1 : c ≤ 255) : Ev (fun k => graftbedref01_fine.f k c) (fineI c) := by
  unfold graftbedref01_fine.f fineI
  by_cases g1 : c < 33
  · simp only [if_pos g1]
    rw [decide_eq_false (show ¬ c > 32 by omega)]
    refine Ev.step (f := fun _ => some false) (fun k => by simp only [graftbedref01_fine.j0, if_true]) (Ev.now _)
  · simp only [if_neg g1]
    rw [decide_eq_true (show c > 32 by omega), Bool.true_and]
    by_cases g2 : c > 126
    · simp only [decide_eq_true g2]
      rw [decide_eq_false (show ¬ c < 127 by omega)]
      refine Ev.step (f := fun _ => some false) (fun k => by simp only [graftbedref01_fine.j0, if_true]) (Ev.now _)
    · simp only [decide_eq_false g2]
      rw [decide_eq_true (show c < 127 by omega), Bool.true_and, index_mem]
      refine Ev.step (f := fun k => graftbedref01_fine.l0 k c (⟨#[34, 42, 58, 60, 62, 63, 92, 124, 96]⟩ : ByteArray) 0) (fun k => by simp only [graftbedref01_fine.j0, Bool.false_eq_true, if_false]) ?_
      have := ref_fine_loop c h0 h1 ⟨#[34, 42, 58, 60, 62, 63, 92, 124, 96]⟩ (by decide) _ 0 (Nat.zero_le _) rfl
      exact this

theorem ref_valid_in (l : List ByteArray) (hl : l.length ≤ 1099511627777) (i : Nat) (hi : i < l.length) (hsz : l[i].size ≤ 1099511627777) (r : Bool)
    (hnext : Ev (fun k => graftbedref01_Valid.l0 k l ((i + 1 : Nat) : Int)) r) (d : Nat) : ∀ j : Nat, j ≤ l[i].size → l[i].size - j = d →
    Ev (fun k => graftbedref01_Valid.l1 k l (i : Int) (j : Int)) (fineFrom l[i] j && r) := by
  induction d with
  | zero =>
    intro j h1 h2
    obtain rfl : j = l[i].size := by omega
    rw [fine_end, Bool.true_and]
    refine Ev.step (f := fun k => graftbedref01_Valid.l0 k l ((i + 1 : Nat) : Int)) (fun k => ?_) hnext
    simp only [graftbedref01_Valid.l1]
    rw [if_pos (by omega), if_pos (by omega), rdOf_get _ hi, if_neg (by omega), w64 (by omega) (by omega)]; rfl
  | succ d ih =>
    intro j h1 h2
    have hlt : j < l[i].size := by omega
    have hlt2 : j < (L l[i]).length := by rw [L_length]; exact hlt
    have hb := bt_nat hlt2
    have hbe : bt l[i] (j : Int) = (l[i][j].toNat : Int) := hb
    have hr := bt_range l[i] (j : Int)
    have hf := ref_fine (bt l[i] (j : Int)) hr.1 hr.2
    refine Ev.step (f := fun k => (graftbedref01_fine.f k (bt l[i] (j : Int))).bind fun t => (if t = true then (graftbedref01_Valid.l1 k l (i : Int) ((j + 1 : Nat) : Int)) else (some false))) (fun k => ?_) ?_
    · simp only [graftbedref01_Valid.l1]
      rw [if_pos (by omega), if_pos (by omega), rdOf_get _ hi, if_pos (by omega), if_pos (by omega), w64 (by omega) (by omega)]; rfl
    · refine Ev.bind hf ?_
      cases e : fineI (bt l[i] (j : Int)) with
      | true =>
        rw [fine_step l[i] j hlt (hbe ▸ e)]
        simp only [if_true]
        exact ih (j + 1) (by omega) (by omega)
      | false =>
        rw [fine_stop l[i] j hlt (hbe ▸ e)]
        simp only [Bool.false_eq_true, if_false, Bool.false_and]
        exact Ev.now _

theorem ref_valid_loop (l : List ByteArray) (hl : l.length ≤ 1099511627777) (hsz : ∀ x ∈ l, x.size ≤ 1099511627777) (d : Nat) : ∀ i : Nat, i ≤ l.length → l.length - i = d →
    Ev (fun k => graftbedref01_Valid.l0 k l (i : Int)) ((l.drop i).all okE) := by
  induction d with
  | zero =>
    intro i h1 h2
    rw [List.drop_of_length_le (by omega)]
    refine Ev.step (f := fun _ => some true) (fun k => ?_) (Ev.now _)
    simp only [graftbedref01_Valid.l0]; rw [if_neg (by omega)]
  | succ d ih =>
    intro i h1 h2
    have hi : i < l.length := by omega
    rw [List.drop_eq_getElem_cons hi, List.all_cons]
    have bad : okE l[i] = false → Ev (fun k => graftbedref01_Valid.j2 k l (i : Int) true) (okE l[i] && (l.drop (i + 1)).all okE) := by
      intro h
      rw [h, Bool.false_and]
      exact Ev.step (f := fun _ => some false) (fun k => by simp only [graftbedref01_Valid.j2, if_true]) (Ev.now _)
    by_cases e1 : (l[i].size : Int) < 1
    · have hE : okE l[i] = false := by
        unfold okE
        rw [toList_L, show L l[i] = [] from List.length_eq_zero_iff.1 (by rw [L_length]; omega)]; rfl
      refine Ev.step (f := fun k => graftbedref01_Valid.j2 k l (i : Int) true) (fun k => ?_) (bad hE)
      simp only [graftbedref01_Valid.l0]; rw [if_pos (by omega), if_pos (by omega), rdOf_get _ hi, if_pos e1]
    · by_cases e2 : (l[i].size : Int) > 30
      · have hE : okE l[i] = false := by unfold okE; rw [decide_eq_false (show ¬ (l[i].size : Int) ≤ 30 by omega)]; simp
        refine Ev.step (f := fun k => graftbedref01_Valid.j2 k l (i : Int) true) (fun k => ?_) (bad hE)
        simp only [graftbedref01_Valid.l0]; rw [if_pos (by omega), if_pos (by omega), rdOf_get _ hi, if_neg e1, if_pos e2]
      · by_cases e3 : l[i].toList = [46]
        · have hE : okE l[i] = false := by unfold okE; rw [e3]; simp
          refine Ev.step (f := fun k => graftbedref01_Valid.j2 k l (i : Int) true) (fun k => ?_) (bad hE)
          simp only [graftbedref01_Valid.l0]; rw [if_pos (by omega), if_pos (by omega), rdOf_get _ hi, if_neg e1, if_neg e2, if_pos e3]
        · by_cases e4 : l[i].toList = [46, 46]
          · have hE : okE l[i] = false := by unfold okE; rw [e4]; simp
            refine Ev.step (f := fun k => graftbedref01_Valid.j2 k l (i : Int) true) (fun k => ?_) (bad hE)
            simp only [graftbedref01_Valid.l0]; rw [if_pos (by omega), if_pos (by omega), rdOf_get _ hi, if_neg e1, if_neg e2, if_neg e3, e4]; rfl
          · have hne : l[i].toList.isEmpty = false := by
              rw [toList_L]
              cases h : L l[i] with
              | nil => have := L_length l[i]; rw [h] at this; simp at this; omega
              | cons _ _ => rfl
            have hE : okE l[i] = fineFrom l[i] 0 := by
              unfold okE
              rw [hne, decide_eq_true (show (l[i].size : Int) ≤ 30 by omega), beq_eq_false_iff_ne.2 e3, beq_eq_false_iff_ne.2 e4]; rfl
            rw [hE]
            refine Ev.step (f := fun k => graftbedref01_Valid.j2 k l (i : Int) false) (fun k => ?_) ?_
            · simp only [graftbedref01_Valid.l0]; rw [if_pos (by omega), if_pos (by omega), rdOf_get _ hi, if_neg e1, if_neg e2, if_neg e3, beq_eq_false_iff_ne.2 e4]
            · refine Ev.step (f := fun k => graftbedref01_Valid.l1 k l (i : Int) 0) (fun k => by simp only [graftbedref01_Valid.j2, Bool.false_eq_true, if_false]) ?_
              exact ref_valid_in l hl i hi (hsz _ (List.getElem_mem hi)) _ (ih (i + 1) (by omega) (by omega)) _ 0 (Nat.zero_le _) rfl

theorem ref_valid (s : ByteArray) (hs : s.size ≤ 1099511627776) : Ev (fun k => graftbedref01_Valid.f k s) (valid s) := by
  unfold graftbedref01_Valid.f
  by_cases g1 : (s.size : Int) < 1
  · simp only [if_pos g1]
    rw [valid_empty (by rw [toList_L]; exact List.length_eq_zero_iff.1 (by rw [L_length]; omega))]
    exact Ev.step (f := fun _ => some false) (fun k => by simp only [graftbedref01_Valid.j0, if_true]) (Ev.now _)
  · simp only [if_neg g1]
    by_cases g2 : (s.size : Int) > 60
    · simp only [decide_eq_true g2]
      rw [valid_long (by omega)]
      exact Ev.step (f := fun _ => some false) (fun k => by simp only [graftbedref01_Valid.j0, if_true]) (Ev.now _)
    · simp only [decide_eq_false g2]
      have hne : ¬ s.toList = [] := by
        intro h
        rw [toList_L] at h
        have := L_length s
        rw [h] at this; simp at this; omega
      rw [valid_in hne (by omega)]
      have hll := elems_length s
      have h := ref_valid_loop (elems s) (by omega) (fun x hx => by have := elems_size s x hx; omega) _ 0 (Nat.zero_le _) rfl
      rw [List.drop_zero] at h
      refine Ev.step (f := fun k => (graftbedref01_Elems.f k s).bind fun t => graftbedref01_Valid.l0 k t 0) (fun k => by simp only [graftbedref01_Valid.j0, Bool.false_eq_true, if_false]) ?_
      exact Ev.bind (ref_elems s hs) h

/-- What a path that may be has: it is not empty, and each element is neither empty nor a point. -/
theorem valid_tells {s : ByteArray} (h : valid s = true) : L s ≠ [] ∧ s.size ≤ 60 ∧ ∀ e ∈ elemsL (L s), e ≠ [] ∧ e ≠ [46] ∧ e ≠ [46, 46] := by
  have h1 : ¬ s.toList = [] := fun e => by rw [valid_empty e] at h; cases h
  have h2 : (s.size : Int) ≤ 60 := by
    by_cases g : (s.size : Int) ≤ 60
    · exact g
    · rw [valid_long g] at h; cases h
  rw [valid_in h1 h2, List.all_eq_true] at h
  refine ⟨by rw [← toList_L]; exact h1, by omega, ?_⟩
  intro e he
  have hm : ofL e ∈ elems s := by rw [elems_list]; exact List.mem_map.2 ⟨e, he, rfl⟩
  have := h _ hm
  unfold okE at this
  rw [toList_L, L_ofL] at this
  simp only [Bool.and_eq_true, Bool.not_eq_true', List.isEmpty_eq_false_iff, beq_eq_false_iff_ne] at this
  exact ⟨this.1.1.1.1, this.1.1.2, this.1.2⟩

theorem valid_not_here {s : ByteArray} (h : valid s = true) : L s ≠ [] ∧ L s ≠ [46] := by
  obtain ⟨h1, _, h3⟩ := valid_tells h
  refine ⟨h1, fun e => ?_⟩
  have := (h3 [46] (by rw [e]; decide +kernel)).2.1
  exact this rfl

/-- The reference's Within. -/
theorem ref_within (s d : ByteArray) (hd : d.size ≤ 1099511627776) (hs : s.size ≤ 1099511627776) : Ev (fun k => graftbedref01_Within.f k s d) (withinF s d) := by
  have hj : ∀ b : Bool, b = decide (L d = [] ∨ L d = [46]) → Ev (fun k => graftbedref01_Within.j0 k s d b) (withinF s d) := by
    intro b hb
    refine Ev.step (f := fun _ => some (withinF s d)) (fun k => ?_) (Ev.now _)
    simp only [graftbedref01_Within.j0]
    unfold withinF
    by_cases h1 : L d = [] ∨ L d = [46]
    · rw [hb, decide_eq_true h1, if_pos rfl, if_pos h1]
    · rw [hb, decide_eq_false h1, if_neg (by decide), if_neg h1, toList_L, toList_L]
      by_cases h2 : L s = L d
      · rw [if_pos h2, if_pos h2]
      · rw [if_neg h2, if_neg h2, w64 (by omega) (by omega)]
        by_cases h3 : (s.size : Int) ≥ (d.size : Int) + 1
        · rw [if_pos h3, if_pos (by omega), if_pos (by omega), if_pos (by omega)]
          have e1 : ((d.size : Int) + 1).toNat = d.size + 1 := by omega
          rw [e1, toList_L, toList_L, L_head, L_append]
          have e2 : L (⟨#[47]⟩ : ByteArray) = [47] := rfl
          rw [e2]
          by_cases h4 : L d ++ [47] <+: L s
          · rw [if_pos h4, if_pos]
            obtain ⟨r, hr⟩ := h4
            rw [← hr, List.take_left' (by rw [List.length_append, L_length]; rfl)]
          · rw [if_neg h4, if_neg]
            intro e
            exact h4 ⟨(L s).drop (d.size + 1), by rw [← e, List.take_append_drop]⟩
        · rw [if_neg h3, if_neg]
          rintro ⟨r, hr⟩
          have := congrArg List.length hr
          rw [List.length_append, List.length_append, L_length, L_length] at this
          simp at this
          omega
  unfold graftbedref01_Within.f
  rw [toList_L]
  by_cases h1 : L d = []
  · simp only [if_pos h1]
    exact hj true (by rw [decide_eq_true (Or.inl h1)])
  · simp only [if_neg h1]
    refine hj _ ?_
    by_cases h2 : L d = [46]
    · rw [decide_eq_true (Or.inr h2), h2]; rfl
    · rw [decide_eq_false (by rintro (h | h); exact h1 h; exact h2 h), beq_eq_false_iff_ne.2 h2]

theorem ref_inside (s d : ByteArray) (hd : d.size ≤ 1099511627776) (hs : s.size ≤ 1099511627776) : Ev (fun k => graftbedref02_inside.f k s d) (insideF s d) := by
  unfold graftbedref02_inside.f insideF
  refine Ev.bind (ref_within s d hd hs) ?_
  show Ev (fun k => if (withinF s d).2 = true then _ else _) _
  cases (withinF s d).2 with
  | true => simp only [if_true]; exact Ev.now _
  | false => simp only [Bool.false_eq_true, if_false]; exact Ev.now _

end Go.Proofs.Ytmocfgghccmdgaa.Pure

