/- Printed parts, put together. -/
import Derived.Test.YtmocfgghccmdgaaMpa
import Derived.Test.YtmocfgghccmdgaaOrderLib
import Derived.Test.YtmocfgghccmdgaaMpb
import Derived.Test.YtmocfgghccmdgaaMpe
import Derived.Test.YtmocfgghccmdgaaTrPlain
import Derived.Test.YtmocfgghccmdgaaMpc
import Derived.Test.YtmocfgghccmdgaaRowOksTreeMerges
import Derived.Test.YtmocfgghccmdgaaMpd
/- What the printed reference on paths comes to, in lists of bytes. -/
namespace Go.Proofs.Ytmocfgghccmdgaa.Pure
open Go.RowKit Go.Proofs.Ytmocfgghccmdgaa.PTr Go.Proofs.YtmocfgghccmdgaaW.PrintWords Go.Proofs.YtmocfgghccmdgaaW.PrintLast
open Go.Proofs.Ytmocfgghccmdgaa.BytesLib Go.Proofs.Ytmocfgghccmdgaa.SplitLib Go.Proofs.Ytmocfgghccmdgaa.OrderLib Go.Proofs.Ytmocfgghccmdgaa.Elems Go.Proofs.Ytmocfgghccmdgaa.Valid Go.Proofs.Ytmocfgghccmdgaa.PathBase
set_option linter.unusedVariables false


theorem tail_ofL (s : ByteArray) (a : Nat) : s.extract a s.size = ofL ((L s).drop a) := L_inj (by rw [L_tail, L_ofL])
theorem cut_ofL (s : ByteArray) (a b : Nat) : s.extract a b = ofL (((L s).drop a).take (b - a)) := L_inj (by rw [L_extract, L_ofL])

theorem not_mem_take {l : List UInt8} {c : UInt8} {m n : Nat} (h : ∀ j, m ≤ j → j < n → l[j]? ≠ some c) : c ∉ (l.drop m).take (n - m) := by
  intro hm
  obtain ⟨k, hk, hk2⟩ := List.mem_iff_getElem.1 hm
  rw [List.length_take, List.length_drop] at hk
  rw [List.getElem_take, List.getElem_drop] at hk2
  exact h (m + k) (by omega) (by omega) (by rw [List.getElem?_eq_some_iff]; exact ⟨by omega, hk2⟩)

theorem ref_elems_loop (s : ByteArray) (hs : s.size ≤ 1099511627776) (d : Nat) : ∀ (i m : Nat) (acc : List ByteArray), m ≤ i → i ≤ s.size → s.size - i = d → acc.length ≤ i →
    (∀ j, m ≤ j → j < i → (L s)[j]? ≠ some 47) →
    Ev (fun k => graftbedref01_Elems.l0 k s acc (m : Int) (i : Int)) (acc ++ (splitL 47 ((L s).drop m)).map ofL) := by
  induction d with
  | zero =>
    intro i m acc h1 h2 h3 h4 h5
    obtain rfl : i = s.size := by omega
    have hn : (47 : UInt8) ∉ (L s).drop m := by
      have := not_mem_take h5
      rwa [List.take_of_length_le (by rw [List.length_drop, L_length]; exact Nat.le_refl _)] at this
    rw [splitL_none hn]
    refine Ev.step (f := fun k => graftbedref01_Elems.l0 k s (acc ++ [s.extract m s.size]) ((s.size : Int) + 1) ((s.size : Int) + 1)) (fun k => ?_) ?_
    · simp only [graftbedref01_Elems.l0]
      rw [if_pos (by omega), if_pos trivial, if_pos (by omega), if_pos (by omega), if_pos (by omega), w64 (by omega) (by omega), Int.toNat_natCast, Int.toNat_natCast]
    · refine Ev.step (f := fun _ => some (acc ++ [s.extract m s.size])) (fun k => ?_) ?_
      · simp only [graftbedref01_Elems.l0]
        rw [if_neg (by omega)]
      · rw [tail_ofL]; exact Ev.now _
  | succ d ih =>
    intro i m acc h1 h2 h3 h4 h5
    have hlt : i < (L s).length := by rw [L_length]; omega
    have hb := bt_nat hlt
    by_cases hc : (L s)[i] = 47
    · have hc2 : bt s (i : Int) = 47 := by rw [hb, hc]; rfl
      have hn := not_mem_take h5
      have hsp : (L s).drop m = ((L s).drop m).take (i - m) ++ 47 :: (L s).drop (i + 1) := by
        conv => lhs; rw [← List.take_append_drop (i - m) ((L s).drop m), List.drop_drop, show m + (i - m) = i from by omega, List.drop_eq_getElem_cons hlt, hc]
      refine Ev.step (f := fun k => graftbedref01_Elems.l0 k s (acc ++ [s.extract m i]) ((i + 1 : Nat) : Int) ((i + 1 : Nat) : Int)) (fun k => ?_) ?_
      · simp only [graftbedref01_Elems.l0]
        rw [if_pos (by omega), if_neg (by omega), if_pos (by omega), if_pos (by omega), if_pos hc2, if_pos (by omega), if_pos (by omega), if_pos (by omega), w64 (by omega) (by omega), Int.toNat_natCast, Int.toNat_natCast]
        rfl
      · have := ih (i + 1) (i + 1) (acc ++ [s.extract m i]) (Nat.le_refl _) (by omega) (by omega) (by simp; omega) (fun j hj hj2 => by omega)
        rw [hsp, splitL_at _ hn, List.map_cons]
        rw [List.append_assoc] at this
        rw [cut_ofL] at this ⊢
        exact this
    · have hc2 : ¬ bt s (i : Int) = 47 := by
        rw [hb]
        intro e
        exact hc (UInt8.toNat_inj.1 (by simpa using Int.ofNat_inj.1 e))
      refine Ev.step (f := fun k => graftbedref01_Elems.l0 k s acc (m : Int) ((i + 1 : Nat) : Int)) (fun k => ?_) ?_
      · simp only [graftbedref01_Elems.l0]
        rw [if_pos (by omega), if_neg (by omega), if_pos (by omega), if_pos (by omega), if_neg hc2, w64 (by omega) (by omega)]
        rfl
      · exact ih (i + 1) m acc (by omega) (by omega) (by omega) (by omega) (fun j hj hj2 => by
          by_cases e : j = i
          · rw [e, List.getElem?_eq_getElem hlt]; simpa using hc
          · exact h5 j hj (by omega))

theorem ref_elems (s : ByteArray) (hs : s.size ≤ 1099511627776) : Ev (fun k => graftbedref01_Elems.f k s) (elems s) := by
  unfold graftbedref01_Elems.f
  simp only [Option.bind_some]
  by_cases h : s.toList = []
  · simp only [h, if_true]
    rw [elems_list, show L s = [] from by rw [← toList_L]; exact h]
    exact Ev.now _
  · simp only [if_neg h]
    have := ref_elems_loop s hs s.size 0 0 [] (Nat.le_refl _) (Nat.zero_le _) (by omega) (Nat.zero_le _) (fun j hj hj2 => by omega)
    rw [elems_list]
    unfold elemsL
    rw [if_neg (by rw [← toList_L]; exact h)]
    exact this

theorem ref_cmp_loop (x y : List ByteArray) (hx : x.length ≤ 1099511627777) (d : Nat) : ∀ (i : Nat), i ≤ x.length → x.length - i = d → i ≤ y.length →
    Ev (fun k => graftbedref01_Compare.l0 k x y (i : Int)) (cmpLL ((x.drop i).map L) ((y.drop i).map L)) := by
  induction d with
  | zero =>
    intro i h1 h2 h3
    obtain rfl : i = x.length := by omega
    rw [List.drop_length]
    refine Ev.step (f := fun k => graftbedref01_Compare.j1 k x y (x.length : Int) false) (fun k => ?_) ?_
    · simp only [graftbedref01_Compare.l0]; rw [if_neg (by omega)]
    refine Ev.step (f := fun _ => some (cmpLL [] ((y.drop x.length).map L))) (fun k => ?_) (Ev.now _)
    simp only [graftbedref01_Compare.j1, Bool.false_eq_true, if_false]
    by_cases h : (x.length : Int) < (y.length : Int)
    · rw [if_pos h, List.drop_eq_getElem_cons (by omega), List.map_cons]; rfl
    · rw [if_neg h, if_neg (by omega), List.drop_of_length_le (by omega)]; rfl
  | succ d ih =>
    intro i h1 h2 h3
    have hlt : i < x.length := by omega
    rw [List.drop_eq_getElem_cons hlt, List.map_cons]
    by_cases hy : i < y.length
    · rw [List.drop_eq_getElem_cons hy, List.map_cons, cmpLL]
      refine Ev.step (f := fun k => graftbedref01_Compare.j1 k x y (i : Int) true) (fun k => ?_) ?_
      · simp only [graftbedref01_Compare.l0]; rw [if_pos (by omega), decide_eq_true (by omega)]
      by_cases l1 : L x[i] < L y[i]
      · rw [if_pos l1]
        refine Ev.step (f := fun _ => some (-1)) (fun k => ?_) (Ev.now _)
        simp only [graftbedref01_Compare.j1, if_true]
        rw [if_pos (by omega), if_pos (by omega), if_pos (by omega), rdOf_get _ hlt, rdOf_get _ hy, toList_L, toList_L, if_pos ((less_iff _ _).2 l1)]
      · rw [if_neg l1]
        by_cases l2 : L y[i] < L x[i]
        · rw [if_pos l2]
          refine Ev.step (f := fun _ => some 1) (fun k => ?_) (Ev.now _)
          simp only [graftbedref01_Compare.j1, if_true]
          rw [if_pos (by omega), if_pos (by omega), if_pos (by omega), rdOf_get _ hlt, rdOf_get _ hy, toList_L, toList_L, if_neg (fun e => l1 ((less_iff _ _).1 e)), if_pos ((less_iff _ _).2 l2)]
        · rw [if_neg l2]
          refine Ev.step (f := fun k => graftbedref01_Compare.l0 k x y ((i + 1 : Nat) : Int)) (fun k => ?_) (ih (i + 1) (by omega) (by omega) (by omega))
          simp only [graftbedref01_Compare.j1, if_true]
          rw [if_pos (by omega), if_pos (by omega), if_pos (by omega), rdOf_get _ hlt, rdOf_get _ hy, toList_L, toList_L, if_neg (fun e => l1 ((less_iff _ _).1 e)), if_neg (fun e => l2 ((less_iff _ _).1 e)), w64 (by omega) (by omega)]
          rfl
    · rw [List.drop_of_length_le (l := y) (by omega)]
      refine Ev.step (f := fun k => graftbedref01_Compare.j1 k x y (i : Int) false) (fun k => ?_) ?_
      · simp only [graftbedref01_Compare.l0]; rw [if_pos (by omega), decide_eq_false (by omega)]
      refine Ev.step (f := fun _ => some 1) (fun k => ?_) (Ev.now _)
      simp only [graftbedref01_Compare.j1, Bool.false_eq_true, if_false]
      rw [if_neg (by omega), if_pos (by omega)]

theorem ref_cmp (a b : ByteArray) (ha : a.size ≤ 1099511627776) (hb : b.size ≤ 1099511627776) : Ev (fun k => graftbedref01_Compare.f k a b) (cmpP a b) := by
  have hl := elems_length a
  have h := ref_cmp_loop (elems a) (elems b) (by omega) (elems a).length 0 (Nat.zero_le _) (by omega) (Nat.zero_le _)
  rw [List.drop_zero, List.drop_zero, elems_map, elems_map] at h
  exact Ev.bind (g := fun k => graftbedref01_Elems.f k a) (f := fun k t => (graftbedref01_Elems.f k b).bind fun t2 => graftbedref01_Compare.l0 k t t2 0) (ref_elems a ha)
    (Ev.bind (g := fun k => graftbedref01_Elems.f k b) (f := fun k t2 => graftbedref01_Compare.l0 k (elems a) t2 0) (ref_elems b hb) h)


theorem byte_eq {x : UInt8} {c : Int} (h0 : 0 ≤ c) (h1 : c ≤ 255) : (x.toNat : Int) = c ↔ x = c.toNat.toUInt8 := by
  have e : (c.toNat.toUInt8).toNat = c.toNat := by
    rw [Nat.toUInt8_eq, UInt8.toNat_ofNat']; omega
  constructor
  · intro h
    apply UInt8.toNat_inj.1
    rw [e]; omega
  · intro h
    rw [h, e]; omega

theorem ref_fine_loop (c : Int) (h0 : 0 ≤ c) (h1 : c ≤ 255) (s : ByteArray) (hs : s.size ≤ 1000) (d : Nat) : ∀ i : Nat, i ≤ s.size → s.size - i = d →
    Ev (fun k => graftbedref01_fine.l0 k c s (i : Int)) (decide (c.toNat.toUInt8 ∉ (L s).drop i)) := by
  induction d with
  | zero =>
    intro i h2 h3
    refine Ev.step (f := fun _ => some true) (fun k => ?_) ?_
    · simp only [graftbedref01_fine.l0]; rw [if_neg (by omega)]
    · rw [List.drop_of_length_le (by rw [L_length]; omega)]
      simp only [List.not_mem_nil, not_false_eq_true, decide_true]
      exact Ev.now _
  | succ d ih =>
    intro i h2 h3
    have hlt : i < (L s).length := by rw [L_length]; omega
    have hb := bt_nat hlt
    rw [List.drop_eq_getElem_cons hlt]
    by_cases e : bt s (i : Int) = c
    · refine Ev.step (f := fun _ => some false) (fun k => ?_) ?_
      · simp only [graftbedref01_fine.l0]; rw [if_pos (by omega), if_pos (by omega), if_pos e]
      · rw [hb, byte_eq h0 h1] at e
        rw [decide_eq_false (by rw [e]; simp)]
        exact Ev.now _
    · refine Ev.step (f := fun k => graftbedref01_fine.l0 k c s ((i + 1 : Nat) : Int)) (fun k => ?_) ?_
      · simp only [graftbedref01_fine.l0]; rw [if_pos (by omega), if_pos (by omega), if_neg e, w64 (by omega) (by omega)]; rfl
      · rw [hb, byte_eq h0 h1] at e
        have := ih (i + 1) (by omega) (by omega)
        rw [show decide (c.toNat.toUInt8 ∉ (L s)[i] :: (L s).drop (i + 1)) = decide (c.toNat.toUInt8 ∉ (L s).drop (i + 1)) from by
          rw [decide_eq_decide, List.mem_cons, not_or]
          exact ⟨fun h => h.2, fun h => ⟨fun h2 => e h2.symm, h⟩⟩]
        exact this

theorem index_mem (l : List UInt8) (c : UInt8) : decide (Lib.indexByte l c < 0) = decide (c ∉ l) := by
  rw [decide_eq_decide]
  constructor
  · intro h; exact index_none c l (by omega)
  · intro h
    by_cases g : 0 ≤ Lib.indexByte l c
    · have := (index_split c l g).1
      exact absurd (by rw [this]; simp) h
    · omega

theorem ref_fine (c : Int) (h0 : 0 ≤ c) (h1 : c ≤ 255) : Ev (fun k => graftbedref01_fine.f k c) (fineI c) := by
  unfold graftbedref01_fine.f fineI
  by_cases g1 : c < 33
  · simp only [if_pos g1]
    rw [decide_eq_false (show ¬ c > 32 by omega)]
    refine Ev.step (f := fun _ => some false) (fun k => by simp only [graftbedref01_fine.j0, if_true]) (Ev.now _)
  · simp only [if_neg g1]
    rw [decide_eq_true (show c > 32 by omega), Bool.true_and]
    by_cases g2 : c > 126
    · simp only [decide_eq_true g2]
      rw [decide_eq_false (show ¬ c < 127 by omega)]
      refine Ev.step (f := fun _ => some false) (fun k => by simp only [graftbedref01_fine.j0, if_true]) (Ev.now _)
    · simp only [decide_eq_false g2]
      rw [decide_eq_true (show c < 127 by omega), Bool.true_and, index_mem]
      refine Ev.step (f := fun k => graftbedref01_fine.l0 k c (⟨#[34, 42, 58, 60, 62, 63, 92, 124, 96]⟩ : ByteArray) 0) (fun k => by simp only [graftbedref01_fine.j0, Bool.false_eq_true, if_false]) ?_
      have := ref_fine_loop c h0 h1 ⟨#[34, 42, 58, 60, 62, 63, 92, 124, 96]⟩ (by decide) _ 0 (Nat.zero_le _) rfl
      exact this

theorem ref_valid_in (l : List ByteArray) (hl : l.length ≤ 1099511627777) (i : Nat) (hi : i < l.length) (hsz : l[i].size ≤ 1099511627777) (r : Bool)
    (hnext : Ev (fun k => graftbedref01_Valid.l0 k l ((i + 1 : Nat) : Int)) r) (d : Nat) : ∀ j : Nat, j ≤ l[i].size → l[i].size - j = d →
    Ev (fun k => graftbedref01_Valid.l1 k l (i : Int) (j : Int)) (fineFrom l[i] j && r) := by
  induction d with
  | zero =>
    intro j h1 h2
    obtain rfl : j = l[i].size := by omega
    rw [fine_end, Bool.true_and]
    refine Ev.step (f := fun k => graftbedref01_Valid.l0 k l ((i + 1 : Nat) : Int)) (fun k => ?_) hnext
    simp only [graftbedref01_Valid.l1]
    rw [if_pos (by omega), if_pos (by omega), rdOf_get _ hi, if_neg (by omega), w64 (by omega) (by omega)]; rfl
  | succ d ih =>
    intro j h1 h2
    have hlt : j < l[i].size := by omega
    have hlt2 : j < (L l[i]).length := by rw [L_length]; exact hlt
    have hb := bt_nat hlt2
    have hbe : bt l[i] (j : Int) = (l[i][j].toNat : Int) := hb
    have hr := bt_range l[i] (j : Int)
    have hf := ref_fine (bt l[i] (j : Int)) hr.1 hr.2
    refine Ev.step (f := fun k => (graftbedref01_fine.f k (bt l[i] (j : Int))).bind fun t => (if t = true then (graftbedref01_Valid.l1 k l (i : Int) ((j + 1 : Nat) : Int)) else (some false))) (fun k => ?_) ?_
    · simp only [graftbedref01_Valid.l1]
      rw [if_pos (by omega), if_pos (by omega), rdOf_get _ hi, if_pos (by omega), if_pos (by omega), w64 (by omega) (by omega)]; rfl
    · refine Ev.bind hf ?_
      cases e : fineI (bt l[i] (j : Int)) with
      | true =>
        rw [fine_step l[i] j hlt (hbe ▸ e)]
        simp only [if_true]
        exact ih (j + 1) (by omega) (by omega)
      | false =>
        rw [fine_stop l[i] j hlt (hbe ▸ e)]
        simp only [Bool.false_eq_true, if_false, Bool.false_and]
        exact Ev.now _

theorem ref_valid_loop (l : List ByteArray) (hl : l.length ≤ 1099511627777) (hsz : ∀ x ∈ l, x.size ≤ 1099511627777) (d : Nat) : ∀ i : Nat, i ≤ l.length → l.length - i = d →
    Ev (fun k => graftbedref01_Valid.l0 k l (i : Int)) ((l.drop i).all okE) := by
  induction d with
  | zero =>
    intro i h1 h2
    rw [List.drop_of_length_le (by omega)]
    refine Ev.step (f := fun _ => some true) (fun k => ?_) (Ev.now _)
    simp only [graftbedref01_Valid.l0]; rw [if_neg (by omega)]
  | succ d ih =>
    intro i h1 h2
    have hi : i < l.length := by omega
    rw [List.drop_eq_getElem_cons hi, List.all_cons]
    have bad : okE l[i] = false → Ev (fun k => graftbedref01_Valid.j2 k l (i : Int) true) (okE l[i] && (l.drop (i + 1)).all okE) := by
      intro h
      rw [h, Bool.false_and]
      exact Ev.step (f := fun _ => some false) (fun k => by simp only [graftbedref01_Valid.j2, if_true]) (Ev.now _)
    by_cases e1 : (l[i].size : Int) < 1
    · have hE : okE l[i] = false := by
        unfold okE
        rw [toList_L, show L l[i] = [] from List.length_eq_zero_iff.1 (by rw [L_length]; omega)]; rfl
      refine Ev.step (f := fun k => graftbedref01_Valid.j2 k l (i : Int) true) (fun k => ?_) (bad hE)
      simp only [graftbedref01_Valid.l0]; rw [if_pos (by omega), if_pos (by omega), rdOf_get _ hi, if_pos e1]
    · by_cases e2 : (l[i].size : Int) > 30
      · have hE : okE l[i] = false := by unfold okE; rw [decide_eq_false (show ¬ (l[i].size : Int) ≤ 30 by omega)]; simp
        refine Ev.step (f := fun k => graftbedref01_Valid.j2 k l (i : Int) true) (fun k => ?_) (bad hE)
        simp only [graftbedref01_Valid.l0]; rw [if_pos (by omega), if_pos (by omega), rdOf_get _ hi, if_neg e1, if_pos e2]
      · by_cases e3 : l[i].toList = [46]
        · have hE : okE l[i] = false := by unfold okE; rw [e3]; simp
          refine Ev.step (f := fun k => graftbedref01_Valid.j2 k l (i : Int) true) (fun k => ?_) (bad hE)
          simp only [graftbedref01_Valid.l0]; rw [if_pos (by omega), if_pos (by omega), rdOf_get _ hi, if_neg e1, if_neg e2, if_pos e3]
        · by_cases e4 : l[i].toList = [46, 46]
          · have hE : okE l[i] = false := by unfold okE; rw [e4]; simp
            refine Ev.step (f := fun k => graftbedref01_Valid.j2 k l (i : Int) true) (fun k => ?_) (bad hE)
            simp only [graftbedref01_Valid.l0]; rw [if_pos (by omega), if_pos (by omega), rdOf_get _ hi, if_neg e1, if_neg e2, if_neg e3, e4]; rfl
          · have hne : l[i].toList.isEmpty = false := by
              rw [toList_L]
              cases h : L l[i] with
              | nil => have := L_length l[i]; rw [h] at this; simp at this; omega
              | cons _ _ => rfl
            have hE : okE l[i] = fineFrom l[i] 0 := by
              unfold okE
              rw [hne, decide_eq_true (show (l[i].size : Int) ≤ 30 by omega), beq_eq_false_iff_ne.2 e3, beq_eq_false_iff_ne.2 e4]; rfl
            rw [hE]
            refine Ev.step (f := fun k => graftbedref01_Valid.j2 k l (i : Int) false) (fun k => ?_) ?_
            · simp only [graftbedref01_Valid.l0]; rw [if_pos (by omega), if_pos (by omega), rdOf_get _ hi, if_neg e1, if_neg e2, if_neg e3, beq_eq_false_iff_ne.2 e4]
            · refine Ev.step (f := fun k => graftbedref01_Valid.l1 k l (i : Int) 0) (fun k => by simp only [graftbedref01_Valid.j2, Bool.false_eq_true, if_false]) ?_
              exact ref_valid_in l hl i hi (hsz _ (List.getElem_mem hi)) _ (ih (i + 1) (by omega) (by omega)) _ 0 (Nat.zero_le _) rfl

theorem ref_valid (s : ByteArray) (hs : s.size ≤ 1099511627776) : Ev (fun k => graftbedref01_Valid.f k s) (valid s) := by
  unfold graftbedref01_Valid.f
  by_cases g1 : (s.size : Int) < 1
  · simp only [if_pos g1]
    rw [valid_empty (by rw [toList_L]; exact List.length_eq_zero_iff.1 (by rw [L_length]; omega))]
    exact Ev.step (f := fun _ => some false) (fun k => by simp only [graftbedref01_Valid.j0, if_true]) (Ev.now _)
  · simp only [if_neg g1]
    by_cases g2 : (s.size : Int) > 60
    · simp only [decide_eq_true g2]
      rw [valid_long (by omega)]
      exact Ev.step (f := fun _ => some false) (fun k => by simp only [graftbedref01_Valid.j0, if_true]) (Ev.now _)
    · simp only [decide_eq_false g2]
      have hne : ¬ s.toList = [] := by
        intro h
        rw [toList_L] at h
        have := L_length s
        rw [h] at this; simp at this; omega
      rw [valid_in hne (by omega)]
      have hll := elems_length s
      have h := ref_valid_loop (elems s) (by omega) (fun x hx => by have := elems_size s x hx; omega) _ 0 (Nat.zero_le _) rfl
      rw [List.drop_zero] at h
      refine Ev.step (f := fun k => (graftbedref01_Elems.f k s).bind fun t => graftbedref01_Valid.l0 k t 0) (fun k => by simp only [graftbedref01_Valid.j0, Bool.false_eq_true, if_false]) ?_
      exact Ev.bind (ref_elems s hs) h

/-- What a path that may be has: it is not empty, and each element is neither empty nor a point. -/
theorem valid_tells {s : ByteArray} (h : valid s = true) : L s ≠ [] ∧ s.size ≤ 60 ∧ ∀ e ∈ elemsL (L s), e ≠ [] ∧ e ≠ [46] ∧ e ≠ [46, 46] := by
  have h1 : ¬ s.toList = [] := fun e => by rw [valid_empty e] at h; cases h
  have h2 : (s.size : Int) ≤ 60 := by
    by_cases g : (s.size : Int) ≤ 60
    · exact g
    · rw [valid_long g] at h; cases h
  rw [valid_in h1 h2, List.all_eq_true] at h
  refine ⟨by rw [← toList_L]; exact h1, by omega, ?_⟩
  intro e he
  have hm : ofL e ∈ elems s := by rw [elems_list]; exact List.mem_map.2 ⟨e, he, rfl⟩
  have := h _ hm
  unfold okE at this
  rw [toList_L, L_ofL] at this
  simp only [Bool.and_eq_true, Bool.not_eq_true', List.isEmpty_eq_false_iff, beq_eq_false_iff_ne] at this
  exact ⟨this.1.1.1.1, this.1.1.2, this.1.2⟩

theorem valid_not_here {s : ByteArray} (h : valid s = true) : L s ≠ [] ∧ L s ≠ [46] := by
  obtain ⟨h1, _, h3⟩ := valid_tells h
  refine ⟨h1, fun e => ?_⟩
  have := (h3 [46] (by rw [e]; decide +kernel)).2.1
  exact this rfl

/-- The reference's Within. -/
theorem ref_within (s d : ByteArray) (hd : d.size ≤ 1099511627776) (hs : s.size ≤ 1099511627776) : Ev (fun k => graftbedref01_Within.f k s d) (withinF s d) := by
  have hj : ∀ b : Bool, b = decide (L d = [] ∨ L d = [46]) → Ev (fun k => graftbedref01_Within.j0 k s d b) (withinF s d) := by
    intro b hb
    refine Ev.step (f := fun _ => some (withinF s d)) (fun k => ?_) (Ev.now _)
    simp only [graftbedref01_Within.j0]
    unfold withinF
    by_cases h1 : L d = [] ∨ L d = [46]
    · rw [hb, decide_eq_true h1, if_pos rfl, if_pos h1]
    · rw [hb, decide_eq_false h1, if_neg (by decide), if_neg h1, toList_L, toList_L]
      by_cases h2 : L s = L d
      · rw [if_pos h2, if_pos h2]
      · rw [if_neg h2, if_neg h2, w64 (by omega) (by omega)]
        by_cases h3 : (s.size : Int) ≥ (d.size : Int) + 1
        · rw [if_pos h3, if_pos (by omega), if_pos (by omega), if_pos (by omega)]
          have e1 : ((d.size : Int) + 1).toNat = d.size + 1 := by omega
          rw [e1, toList_L, toList_L, L_head, L_append]
          have e2 : L (⟨#[47]⟩ : ByteArray) = [47] := rfl
          rw [e2]
          by_cases h4 : L d ++ [47] <+: L s
          · rw [if_pos h4, if_pos]
            obtain ⟨r, hr⟩ := h4
            rw [← hr, List.take_left' (by rw [List.length_append, L_length]; rfl)]
          · rw [if_neg h4, if_neg]
            intro e
            exact h4 ⟨(L s).drop (d.size + 1), by rw [← e, List.take_append_drop]⟩
        · rw [if_neg h3, if_neg]
          rintro ⟨r, hr⟩
          have := congrArg List.length hr
          rw [List.length_append, List.length_append, L_length, L_length] at this
          simp at this
          omega
  unfold graftbedref01_Within.f
  rw [toList_L]
  by_cases h1 : L d = []
  · simp only [if_pos h1]
    exact hj true (by rw [decide_eq_true (Or.inl h1)])
  · simp only [if_neg h1]
    refine hj _ ?_
    by_cases h2 : L d = [46]
    · rw [decide_eq_true (Or.inr h2), h2]; rfl
    · rw [decide_eq_false (by rintro (h | h); exact h1 h; exact h2 h), beq_eq_false_iff_ne.2 h2]

theorem ref_inside (s d : ByteArray) (hd : d.size ≤ 1099511627776) (hs : s.size ≤ 1099511627776) : Ev (fun k => graftbedref02_inside.f k s d) (insideF s d) := by
  unfold graftbedref02_inside.f insideF
  refine Ev.bind (ref_within s d hd hs) ?_
  show Ev (fun k => if (withinF s d).2 = true then _ else _) _
  cases (withinF s d).2 with
  | true => simp only [if_true]; exact Ev.now _
  | false => simp only [Bool.false_eq_true, if_false]; exact Ev.now _

end Go.Proofs.Ytmocfgghccmdgaa.Pure


/- What the printed functions on trees come to. -/
namespace Go.Proofs.Ytmocfgghccmdgaa.Pure
open Go Go.RowKit Go.Proofs.Ytmocfgghccmdgaa.PTr Go.Proofs.YtmocfgghccmdgaaW.PrintWords Go.Proofs.YtmocfgghccmdgaaW.PrintLast
open Go.Proofs.Ytmocfgghccmdgaa.BytesLib Go.Proofs.Ytmocfgghccmdgaa.SplitLib Go.Proofs.Ytmocfgghccmdgaa.OrderLib Go.Proofs.Ytmocfgghccmdgaa.Elems Go.Proofs.Ytmocfgghccmdgaa.Valid Go.Proofs.Ytmocfgghccmdgaa.PathBase Go.Proofs.Ytmocfgghccmdgaa.TrLib Go.Proofs.Ytmocfgghccmdgaa.TrPut Go.Proofs.Ytmocfgghccmdgaa.TrFits Go.Proofs.Ytmocfgghccmdgaa.TrOps Go.Proofs.Ytmocfgghccmdgaa.TrMerge Go.Proofs.Ytmocfgghccmdgaa.TrPlain
set_option linter.unusedVariables false
set_option linter.unusedSimpArgs false

def D (x : Fl) : S24 := ⟨x.1, x.2⟩
def E (x : S24) : Fl := (x.f0, x.f1)
theorem DE (l : List (S24)) : (l.map E).map D = l := by
  rw [List.map_map]
  exact (List.map_congr_left (fun x _ => rfl)).trans (List.map_id l)
theorem rd_D {T : List Fl} {i : Nat} (h : i < T.length) : rd_T24 (T.map D) (i : Int) = D T[i] := by
  unfold rd_T24
  rw [Int.toNat_natCast, List.getD_eq_getElem?_getD, List.getElem?_eq_getElem (by rw [List.length_map]; exact h), List.getElem_map]
  rfl
theorem len_D (T : List Fl) : (T.map D).length = T.length := List.length_map _

/-! ### heavy -/
theorem mn_nat (a : Nat) : mn (a : Int) 1048576 = ((min a 1048576 : Nat) : Int) := by
  unfold mn
  split <;> omega
theorem heavy_loop (l : List Fl) (hl : l.length ≤ 80) : ∀ (d i n : Nat), i ≤ l.length → l.length - i = d → n ≤ 16384 + 2097152 →
    ∃ b, Ev (fun k => graftbedlaw02_heavy.l0 k (l.map D) (n : Int) (i : Int)) b ∧ (b = false → n ≤ 16384 ∧ ∀ x ∈ l.drop i, x.1.size ≤ 16384 ∧ x.2.size ≤ 16384)
  | 0, i, n, h1, h2, h3 => by
    have e : ¬ ((i : Int) < ((l.map D).length : Int)) := by rw [len_D]; omega
    refine ⟨decide ((n : Int) > 16384), Ev.step (f := fun _ => some (decide ((n : Int) > 16384))) (fun k => by simp only [graftbedlaw02_heavy.l0]; rw [if_neg e]) (Ev.now _), fun hb => ⟨by have := of_decide_eq_false hb; omega, fun x hx => ?_⟩⟩
    rw [List.drop_of_length_le (by omega)] at hx
    cases hx
  | d + 1, i, n, h1, h2, h3 => by
    have hi : i < l.length := by omega
    have e : (i : Int) < ((l.map D).length : Int) := by rw [len_D]; omega
    by_cases g : (n : Int) ≤ 16384
    · have hm1 := Nat.min_le_right l[i].1.size 1048576
      have hm2 := Nat.min_le_right l[i].2.size 1048576
      obtain ⟨b, hb, hb2⟩ := heavy_loop l hl d (i + 1) (n + (min l[i].1.size 1048576 + min l[i].2.size 1048576)) (by omega) (by omega) (by omega)
      refine ⟨b, Ev.step (fun k => ?_) hb, fun h0 => ?_⟩
      · simp only [graftbedlaw02_heavy.l0]
        rw [if_pos e, if_pos g, if_pos (by omega), rd_D hi]
        show graftbedlaw02_heavy.l0 k (l.map D) (wrap64 ((n : Int) + (mn (l[i].1.size : Int) 1048576 + mn (l[i].2.size : Int) 1048576))) (wrap64 ((i : Int) + 1)) = _
        rw [mn_nat, mn_nat, w64 (by omega) (by omega), w64 (by omega) (by omega)]
        have e1 : (n : Int) + (((min l[i].1.size 1048576 : Nat) : Int) + ((min l[i].2.size 1048576 : Nat) : Int)) = ((n + (min l[i].1.size 1048576 + min l[i].2.size 1048576) : Nat) : Int) := by omega
        rw [e1]; rfl
      · obtain ⟨g1, g2⟩ := hb2 h0
        refine ⟨by omega, fun x hx => ?_⟩
        rw [List.drop_eq_getElem_cons hi] at hx
        rcases List.mem_cons.1 hx with rfl | hx
        · omega
        · exact g2 x hx
    · refine ⟨true, Ev.step (f := fun _ => some true) (fun k => ?_) (Ev.now _), fun h => by cases h⟩
      simp only [graftbedlaw02_heavy.l0]
      rw [if_pos e, if_neg g, decide_eq_true (by omega)]
theorem heavy_ev (l : List Fl) : ∃ b, Ev (fun k => graftbedlaw02_heavy.f k (l.map D)) b ∧ (b = false → l.length ≤ 80 ∧ ∀ x ∈ l, x.1.size ≤ 16384 ∧ x.2.size ≤ 16384) := by
  unfold graftbedlaw02_heavy.f
  by_cases g : ((l.map D).length : Int) > 80
  · simp only [if_pos g]
    exact ⟨true, Ev.now _, fun h => by cases h⟩
  · simp only [if_neg g]
    rw [mn_nat, len_D]
    rw [len_D] at g
    obtain ⟨b, hb, hb2⟩ := heavy_loop l (by omega) l.length 0 (min l.length 1048576) (Nat.zero_le _) rfl (by omega)
    refine ⟨b, hb, fun h => ⟨by omega, ?_⟩⟩
    have := (hb2 h).2
    rw [List.drop_zero] at this
    exact this

/-! ### The program's functions, as printed -/
def Small (T : List Fl) : Prop := T.length ≤ 1000000 ∧ ∀ x ∈ T, x.1.size ≤ 1099511627776
theorem put_ok {T : List Fl} (h : Small T) : tree_Put.ok (T.map D) = true := by
  unfold tree_Put.ok
  rw [len_D, decide_eq_true h.1, Bool.true_and, List.all_eq_true]
  intro x hx
  obtain ⟨y, hy, rfl⟩ := List.mem_map.1 hx
  exact decide_eq_true (h.2 y hy)
theorem put_f {T : List Fl} (h : Small T) {x : Fl} (hx : x.1.size ≤ 1099511627776) : tree_Put.f (T.map D) x.1 x.2 = some ((putT T x).1.map D, (putT T x).2) := by
  unfold tree_Put.f
  rw [if_pos ⟨put_ok h, hx⟩]
  have e : (T.map D).map tree_Put.enc = T := by
    rw [List.map_map]; exact (List.map_congr_left (fun x _ => rfl)).trans (List.map_id T)
  rw [e]; rfl
theorem tree_small {T : List Fl} (h : Tree T) : Small T := ⟨by have := h.few; omega, fun x hx => by have := (valid_tells (h.ok x hx).1).2.1; omega⟩
theorem tree_nil : Tree [] := ⟨(fun _ h => nomatch h), List.Pairwise.nil, (fun _ h => nomatch h), Nat.zero_le _⟩

theorem wrong_zero {x : Fl} : wrongF x = 0 ↔ valid x.1 = true ∧ x.2.size ≤ 4000 := by
  unfold wrongF
  by_cases h : valid x.1 = true
  · rw [if_pos h]
    by_cases g : (x.2.size : Int) > 4000
    · rw [if_pos g]; simp; omega
    · rw [if_neg g]; simp [h]; omega
  · rw [if_neg h]; simp [h]

theorem inside_self {p : ByteArray} (h1 : L p ≠ []) (h2 : L p ≠ [46]) : insideF p p = false := by
  cases e : insideF p p with
  | false => rfl
  | true => have := inside_lt h1 h2 e; rw [cmp_self] at this; omega

/-- What put does with a tree, if it does it. -/
theorem put_zero {T : List Fl} (hT : Tree T) {x : Fl} (h : (putT T x).2 = 0) :
    putT T x = (putF T x, 0) ∧ Tree (putF T x) ∧ valid x.1 = true ∧ x.2.size ≤ 4000 ∧ (∀ y ∈ T, insideF y.1 x.1 = false ∧ insideF x.1 y.1 = false) := by
  unfold putT at h ⊢
  by_cases g1 : wrongF x = 0
  · rw [if_pos g1] at h ⊢
    obtain ⟨v1, v2⟩ := wrong_zero.1 g1
    by_cases g2 : fitsF T x.1 = true
    · rw [if_pos g2] at h ⊢
      have hf := (fits_iff hT v1).1 g2
      by_cases g3 : ((putF T x).length : Int) > 60
      · rw [if_pos g3] at h; exact absurd h (by decide)
      · rw [if_neg g3]
        have hm := put_mem hT.up x
        refine ⟨rfl, ⟨?_, put_up hT.up x, ?_, by omega⟩, v1, v2, hf⟩
        · intro y hy
          rcases (hm y).1 hy with rfl | ⟨h1, _⟩
          · exact ⟨v1, v2⟩
          · exact hT.ok y h1
        · intro y hy z hz
          rcases (hm y).1 hy with rfl | ⟨h1, _⟩
          · rcases (hm z).1 hz with rfl | ⟨h2, _⟩
            · exact inside_self (valid_not_here v1).1 (valid_not_here v1).2
            · exact (hf z h2).2
          · rcases (hm z).1 hz with rfl | ⟨h2, _⟩
            · exact (hf y h1).1
            · exact hT.out y h1 z h2
    · rw [if_neg g2] at h; exact absurd h (by decide)
  · rw [if_neg g1] at h; exact absurd h g1
/-- When it does it. -/
theorem put_can {T : List Fl} (hT : Tree T) {x : Fl} (v1 : valid x.1 = true) (v2 : x.2.size ≤ 4000) (hf : ∀ y ∈ T, insideF y.1 x.1 = false ∧ insideF x.1 y.1 = false) :
    putT T x = if ((putF T x).length : Int) > 60 then ([], 2) else (putF T x, 0) := by
  unfold putT
  rw [if_pos (wrong_zero.2 ⟨v1, v2⟩), if_pos ((fits_iff hT v1).2 hf)]

/-! ### shown -/
def fAB : Fl := (⟨#[97, 47, 98]⟩, ⟨#[120]⟩)
theorem valid_ab : valid ⟨#[97, 47, 98]⟩ = true := by
  rw [valid_in (by rw [toList_L]; decide) (by decide), elems_list]
  decide +kernel
theorem put_ab : putT [] fAB = ([fAB], 0) := by
  rw [put_can tree_nil valid_ab (by decide) (fun _ h => nomatch h)]
  rfl
theorem shown_f : graftbedlaw02_shown.f = some true := by
  unfold graftbedlaw02_shown.f
  have h := put_f (T := []) (x := fAB) (tree_small tree_nil) (by decide)
  rw [put_ab] at h
  have h2 : tree_Put.f ([] : List (S24)) (⟨#[97, 47, 98]⟩ : ByteArray) (⟨#[120]⟩ : ByteArray) = some ([D fAB], 0) := h
  rw [h2, Option.bind_some]
  have e0 : rd_T24 ([D fAB], (0 : Int)).1 0 = D fAB := rfl
  rw [e0, toList_L, toList_L]
  rfl

/-! ### The reference's Put -/
def confF (x : Fl) (y : Fl) : Bool := insideF y.1 x.1 || insideF x.1 y.1
def goP (x : Fl) : List Fl → Bool → List Fl
  | [], done => if done = true then [] else [x]
  | y :: r, done => (if done = false ∧ 0 ≤ cmpP y.1 x.1 then [x] else []) ++ ((if L y.1 = L x.1 then [] else [y]) ++ goP x r (done || decide (0 ≤ cmpP y.1 x.1)))
def endP (o : List Fl) : List Fl × Int := if (o.length : Int) > 60 then ([], 2) else (o, 0)
theorem ref_put_loop (T : List Fl) (x : Fl) (hT : T.length ≤ 1000000) (hTs : ∀ y ∈ T, y.1.size ≤ 1099511627776) (hx : x.1.size ≤ 1099511627776) : ∀ (d i : Nat) (acc : List Fl) (done : Bool), i ≤ T.length → T.length - i = d → acc.length ≤ 2 * i →
    Ev (fun k => graftbedref02_Put.l0 k (T.map D) (acc.map D) done (i : Int) x.1 x.2) (let r := if (T.drop i).any (confF x) = true then (([] : List Fl), (4 : Int)) else endP (acc ++ goP x (T.drop i) done); (r.1.map D, r.2)) := by
  intro d
  induction d with
  | zero =>
    intro i acc done h1 h2 h3
    obtain rfl : i = T.length := by omega
    rw [List.drop_length]
    refine Ev.step (f := fun _ => some ((endP (acc ++ goP x [] done)).1.map D, (endP (acc ++ goP x [] done)).2)) (fun k => ?_) (Ev.now _)
    simp only [graftbedref02_Put.l0]
    rw [if_neg (by rw [len_D]; omega)]
    unfold endP goP
    cases done with
    | true =>
      rw [if_pos rfl, if_pos rfl, List.append_nil, len_D]
      by_cases g : (acc.length : Int) > 60
      · rw [if_pos g, if_pos g]; rfl
      · rw [if_neg g, if_neg g]
    | false =>
      simp only [Bool.false_eq_true, if_false]
      rw [if_pos (by rw [len_D]; omega), Option.bind_some]
      have e : acc.map D ++ [(⟨x.1, x.2⟩ : S24)] = (acc ++ [x]).map D := by rw [List.map_append]; rfl
      rw [e, len_D]
      by_cases g : (((acc ++ [x]).length : Nat) : Int) > 60
      · rw [if_pos g, if_pos g]; rfl
      · rw [if_neg g, if_neg g]
  | succ d ih =>
    intro i acc done h1 h2 h3
    have hi : i < T.length := by omega
    have hlt : (i : Int) < ((T.map D).length : Int) := by rw [len_D]; omega
    have hy := hTs T[i] (List.getElem_mem hi)
    rw [List.drop_eq_getElem_cons hi, List.any_cons]
    -- behind the tests
    have next : ∀ (acc2 : List Fl) (done2 : Bool), acc2.length ≤ 2 * i + 1 → Ev (fun k => if L T[i].1 = L x.1 then (graftbedref02_Put.l0 k (T.map D) (acc2.map D) done2 ((i + 1 : Nat) : Int) x.1 x.2) else (graftbedref02_Put.l0 k (T.map D) ((acc2 ++ [T[i]]).map D) done2 ((i + 1 : Nat) : Int) x.1 x.2))
        (let r := if (T.drop (i + 1)).any (confF x) = true then (([] : List Fl), (4 : Int)) else endP (acc2 ++ ((if L T[i].1 = L x.1 then [] else [T[i]]) ++ goP x (T.drop (i + 1)) done2)); (r.1.map D, r.2)) := by
      intro acc2 done2 hl
      by_cases g : L T[i].1 = L x.1
      · simp only [if_pos g]
        exact ih (i + 1) acc2 done2 (by omega) (by omega) (by omega)
      · simp only [if_neg g]
        have := ih (i + 1) (acc2 ++ [T[i]]) done2 (by omega) (by omega) (by rw [List.length_append]; simp; omega)
        rw [List.append_assoc] at this
        exact this
    have j2 : ∀ b : Bool, b = decide (done = false ∧ 0 ≤ cmpP T[i].1 x.1) → Ev (fun k => graftbedref02_Put.j2 k (T.map D) (acc.map D) done (i : Int) b x.1 x.2)
        (let r := if (T.drop (i + 1)).any (confF x) = true then (([] : List Fl), (4 : Int)) else endP (acc ++ goP x (T[i] :: T.drop (i + 1)) done); (r.1.map D, r.2)) := by
      intro b hb
      rw [goP]
      by_cases g : done = false ∧ 0 ≤ cmpP T[i].1 x.1
      · rw [decide_eq_true g] at hb
        subst hb
        rw [if_pos g]
        have hn := next (acc ++ [x]) true (by rw [List.length_append]; simp; omega)
        rw [← List.append_assoc acc [x]]
        have ed : (done || decide (0 ≤ cmpP T[i].1 x.1)) = true := by rw [decide_eq_true g.2, Bool.or_true]
        rw [ed]
        refine Ev.step (fun k => ?_) hn
        simp only [graftbedref02_Put.j2, if_true]
        have e : acc.map D ++ [(⟨x.1, x.2⟩ : S24)] = (acc ++ [x]).map D := by rw [List.map_append]; rfl
        have e2 : (acc ++ [x]).map D ++ [(⟨(D T[i]).f0, (D T[i]).f1⟩ : S24)] = ((acc ++ [x]) ++ [T[i]]).map D := by rw [List.map_append (l₁ := acc ++ [x])]; rfl
        rw [if_pos (by rw [len_D]; omega), Option.bind_some, if_pos (by omega), if_pos hlt, rd_D hi, e, w64 (by omega) (by omega), e2]
        show (if T[i].1.toList = x.1.toList then _ else _) = _
        rw [toList_L, toList_L, if_pos (show ((acc ++ [x]).map D).length < 4398046511104 by rw [len_D, List.length_append]; simp; omega)]
        rfl
      · rw [decide_eq_false g] at hb
        subst hb
        rw [if_neg g, List.nil_append]
        have ed : (done || decide (0 ≤ cmpP T[i].1 x.1)) = done := by
          cases done with
          | true => rfl
          | false => rw [decide_eq_false (fun h => g ⟨rfl, h⟩)]; rfl
        rw [ed]
        refine Ev.step (fun k => ?_) (next acc done (by omega))
        simp only [graftbedref02_Put.j2, Bool.false_eq_true, if_false]
        have e2 : acc.map D ++ [(⟨(D T[i]).f0, (D T[i]).f1⟩ : S24)] = (acc ++ [T[i]]).map D := by rw [List.map_append]; rfl
        rw [if_pos (by omega), if_pos hlt, rd_D hi, w64 (by omega) (by omega), e2]
        show (if T[i].1.toList = x.1.toList then _ else _) = _
        rw [toList_L, toList_L, if_pos (show (acc.map D).length < 4398046511104 by rw [len_D]; omega)]
        rfl
    have j1 : ∀ b : Bool, b = confF x T[i] → Ev (fun k => graftbedref02_Put.j1 k (T.map D) (acc.map D) done (i : Int) b x.1 x.2)
        (let r := if (confF x T[i] || (T.drop (i + 1)).any (confF x)) = true then (([] : List Fl), (4 : Int)) else endP (acc ++ goP x (T[i] :: T.drop (i + 1)) done); (r.1.map D, r.2)) := by
      intro b hb
      cases hc : confF x T[i] with
      | true =>
        rw [hb, hc, Bool.true_or, if_pos rfl]
        exact Ev.step (f := fun _ => some ([], 4)) (fun k => by simp only [graftbedref02_Put.j1, if_true]) (Ev.now _)
      | false =>
        rw [hb, hc, Bool.false_or]
        cases hd : done with
        | true =>
          have := j2 false (by rw [hd]; rfl)
          rw [hd] at this
          exact Ev.step (fun k => by simp only [graftbedref02_Put.j1, Bool.false_eq_true, if_false, if_true]) this
        | false =>
          have h := j2 (decide (cmpP T[i].1 x.1 ≥ 0)) (by rw [hd]; simp)
          rw [hd] at h
          refine Ev.step (f := fun k => (graftbedref01_Compare.f k T[i].1 x.1).bind fun t => graftbedref02_Put.j2 k (T.map D) (acc.map D) false (i : Int) (decide (t ≥ 0)) x.1 x.2) (fun k => ?_) ?_
          · simp only [graftbedref02_Put.j1, Bool.false_eq_true, if_false]
            rw [if_pos (by omega), if_pos hlt, rd_D hi]
            rfl
          · exact Ev.bind (ref_cmp _ _ hy hx) h
    refine Ev.step (f := fun k => (graftbedref02_inside.f k T[i].1 x.1).bind fun t => (if t = true then (graftbedref02_Put.j1 k (T.map D) (acc.map D) done (i : Int) true x.1 x.2) else ((graftbedref02_inside.f k x.1 T[i].1).bind fun t2 => (graftbedref02_Put.j1 k (T.map D) (acc.map D) done (i : Int) t2 x.1 x.2)))) (fun k => ?_) ?_
    · simp only [graftbedref02_Put.l0]
      rw [if_pos hlt, if_pos (by omega), rd_D hi]
      rfl
    · refine Ev.bind (ref_inside _ _ hx hy) ?_
      cases hc : insideF T[i].1 x.1 with
      | true =>
        simp only [if_true]
        exact j1 true (by unfold confF; rw [hc]; rfl)
      | false =>
        simp only [Bool.false_eq_true, if_false]
        refine Ev.bind (ref_inside _ _ hy hx) ?_
        exact j1 _ (by unfold confF; rw [hc]; rfl)

theorem goP_done (x : Fl) : ∀ B : List Fl, (∀ y ∈ B, 0 < cmpP y.1 x.1) → goP x B true = B
  | [], _ => rfl
  | y :: B, h => by
    have hy := h y List.mem_cons_self
    rw [goP, if_neg (by rintro ⟨h, _⟩; cases h), if_neg (fun e => cmp_ne (.inr hy) (L_inj e)), Bool.true_or, goP_done x B (fun z hz => h z (List.mem_cons_of_mem _ hz))]
    rfl
theorem goP_form {x : Fl} : ∀ {A B : List Fl}, (∀ y ∈ A, cmpP y.1 x.1 < 0) → (∀ y ∈ B, 0 < cmpP y.1 x.1) → goP x (A ++ B) false = A ++ x :: B ∧ ∀ z : Fl, z.1 = x.1 → goP x (A ++ z :: B) false = A ++ x :: B
  | [], B, _, hB => by
    refine ⟨?_, fun z hz => ?_⟩
    · cases B with
      | nil => rfl
      | cons y B =>
        have hy := hB y List.mem_cons_self
        rw [List.nil_append, goP, if_pos ⟨rfl, Int.le_of_lt hy⟩, if_neg (fun e => cmp_ne (.inr hy) (L_inj e)), decide_eq_true (Int.le_of_lt hy), Bool.false_or, goP_done x B (fun z hz => hB z (List.mem_cons_of_mem _ hz))]
        rfl
    · rw [List.nil_append, goP, if_pos ⟨rfl, by rw [hz, cmp_self]; exact Int.le_refl _⟩, if_pos (by rw [hz]), decide_eq_true (by rw [hz, cmp_self]; exact Int.le_refl _), Bool.false_or, goP_done x B hB]
      rfl
  | a :: A, B, hA, hB => by
    have ha := hA a List.mem_cons_self
    obtain ⟨h1, h2⟩ := goP_form (A := A) (fun y hy => hA y (List.mem_cons_of_mem _ hy)) hB
    have e : ∀ R, goP x (a :: R) false = a :: goP x R false := by
      intro R
      rw [goP, if_neg (by rintro ⟨_, h⟩; omega), if_neg (fun e => cmp_ne (.inl ha) (L_inj e)), decide_eq_false (by omega)]
      rfl
    refine ⟨by rw [List.cons_append, e, h1]; rfl, fun z hz => by rw [List.cons_append, e, h2 z hz]; rfl⟩

theorem goP_put {T : List Fl} (up : T.Pairwise (fun x y => cmpP x.1 y.1 < 0)) (x : Fl) : goP x T false = putF T x := by
  rcases put_form up x with ⟨A, B, rfl, hA, hB, e⟩ | ⟨A, z, B, rfl, hA, hz, hB, e⟩
  · rw [e, (goP_form hA hB).1]
  · rw [e, (goP_form hA hB).2 z hz]

theorem ref_put {T : List Fl} (hT : Tree T) (x : Fl) (hx : x.1.size ≤ 1099511627776) : Ev (fun k => graftbedref02_Put.f k (T.map D) x.1 x.2) ((putT T x).1.map D, (putT T x).2) := by
  unfold graftbedref02_Put.f
  refine Ev.bind (ref_valid x.1 hx) ?_
  unfold putT wrongF
  cases hv : valid x.1 with
  | false =>
    simp only [Bool.false_eq_true, if_false]
    exact Ev.now _
  | true =>
    simp only [if_true]
    by_cases g : (x.2.size : Int) > 4000
    · simp only [if_pos g]
      exact Ev.now _
    · simp only [if_neg g, if_true]
      have h := ref_put_loop T x (tree_small hT).1 (tree_small hT).2 hx T.length 0 [] false (Nat.zero_le _) rfl (Nat.zero_le _)
      rw [List.drop_zero, goP_put hT.up, List.nil_append] at h
      by_cases f : fitsF T x.1 = true
      · have ha : ¬ T.any (confF x) = true := by
          intro ha
          obtain ⟨y, hy, hc⟩ := List.any_eq_true.1 ha
          obtain ⟨h1, h2⟩ := (fits_iff hT hv).1 f y hy
          unfold confF at hc
          rw [h1, h2] at hc
          cases hc
        rw [if_neg ha] at h
        rw [if_pos f]
        exact h
      · have ha : T.any (confF x) = true := by
          cases e : T.any (confF x) with
          | true => rfl
          | false =>
            exfalso
            apply f
            refine (fits_iff hT hv).2 (fun y hy => ?_)
            have := List.any_eq_false.1 e y hy
            unfold confF at this
            rw [Bool.or_eq_true, not_or, Bool.not_eq_true, Bool.not_eq_true] at this
            exact this
        rw [if_pos ha] at h
        rw [if_neg f]
        exact h

/-! ### grown, Same -/
def grow : List Fl → List Fl → List Fl
  | T, [] => T
  | T, x :: r => grow (if (putT T x).2 = 0 then (putT T x).1 else T) r
theorem grow_tree : ∀ (l T : List Fl), Tree T → Tree (grow T l)
  | [], T, h => h
  | x :: r, T, h => by
    rw [grow]
    refine grow_tree r _ ?_
    split
    · rename_i g
      rw [(put_zero h g).1]
      exact (put_zero h g).2.1
    · exact h
theorem grown_loop (l : List Fl) (hl : l.length ≤ 1000000) (hs : ∀ y ∈ l, y.1.size ≤ 1099511627776) : ∀ (d i : Nat) (T : List Fl), Tree T → i ≤ l.length → l.length - i = d →
    Ev (fun k => graftbedlaw02_grown.l0 k (l.map D) (T.map D) (i : Int)) ((grow T (l.drop i)).map D) := by
  intro d
  induction d with
  | zero =>
    intro i T hT h1 h2
    rw [List.drop_of_length_le (by omega), grow]
    refine Ev.step (f := fun _ => some (T.map D)) (fun k => ?_) (Ev.now _)
    simp only [graftbedlaw02_grown.l0]
    rw [if_neg (by rw [len_D]; omega)]
  | succ d ih =>
    intro i T hT h1 h2
    have hi : i < l.length := by omega
    rw [List.drop_eq_getElem_cons hi, grow]
    refine Ev.step (f := fun k => (graftbedref02_Put.f k (T.map D) l[i].1 l[i].2).bind fun t => (if t.2 = 0 then (graftbedlaw02_grown.l0 k (l.map D) t.1 ((i + 1 : Nat) : Int)) else (graftbedlaw02_grown.l0 k (l.map D) (T.map D) ((i + 1 : Nat) : Int)))) (fun k => ?_) ?_
    · simp only [graftbedlaw02_grown.l0]
      rw [if_pos (by rw [len_D]; omega), if_pos (by omega), rd_D hi, w64 (by omega) (by omega)]
      rfl
    · refine Ev.bind (ref_put hT l[i] (hs _ (List.getElem_mem hi))) ?_
      by_cases g : (putT T l[i]).2 = 0
      · simp only [if_pos g]
        refine ih (i + 1) _ ?_ (by omega) (by omega)
        rw [(put_zero hT g).1]
        exact (put_zero hT g).2.1
      · simp only [if_neg g]
        exact ih (i + 1) _ hT (by omega) (by omega)
theorem grown_ev (l : List Fl) (hl : l.length ≤ 1000000) (hs : ∀ y ∈ l, y.1.size ≤ 1099511627776) : Ev (fun k => graftbedlaw02_grown.f k (l.map D)) ((grow [] l).map D) := by
  have := grown_loop l hl hs l.length 0 [] tree_nil (Nat.zero_le _) rfl
  rw [List.drop_zero] at this
  exact this

theorem same_loop (T : List Fl) (hT : T.length ≤ 1000000) : ∀ (d i : Nat), i ≤ T.length → T.length - i = d → Ev (fun k => graftbedref02_Same.l0 k (T.map D) (T.map D) (i : Int)) true := by
  intro d
  induction d with
  | zero =>
    intro i h1 h2
    refine Ev.step (f := fun _ => some true) (fun k => ?_) (Ev.now _)
    simp only [graftbedref02_Same.l0]
    rw [if_neg (by rw [len_D]; omega)]
  | succ d ih =>
    intro i h1 h2
    have hi : i < T.length := by omega
    refine Ev.step (fun k => ?_) (ih (i + 1) (by omega) (by omega))
    simp only [graftbedref02_Same.l0]
    rw [if_pos (by rw [len_D]; omega), if_pos (by omega), if_pos (by rw [len_D]; omega), if_neg (by simp), w64 (by omega) (by omega)]
    rfl
theorem same_ev (T : List Fl) (hT : T.length ≤ 1000000) : Ev (fun k => graftbedref02_Same.f k (T.map D) (T.map D)) true := by
  unfold graftbedref02_Same.f
  simp only [if_true]
  exact same_loop T hT T.length 0 (Nat.zero_le _) rfl

end Go.Proofs.Ytmocfgghccmdgaa.Pure


/- What is found in a tree. -/
namespace Go.Proofs.Ytmocfgghccmdgaa.Pure
open Go Go.RowKit Go.Proofs.Ytmocfgghccmdgaa.PTr Go.Proofs.YtmocfgghccmdgaaW.PrintWords Go.Proofs.YtmocfgghccmdgaaW.PrintLast
open Go.Proofs.Ytmocfgghccmdgaa.BytesLib Go.Proofs.Ytmocfgghccmdgaa.SplitLib Go.Proofs.Ytmocfgghccmdgaa.OrderLib Go.Proofs.Ytmocfgghccmdgaa.Elems Go.Proofs.Ytmocfgghccmdgaa.Valid Go.Proofs.Ytmocfgghccmdgaa.PathBase Go.Proofs.Ytmocfgghccmdgaa.TrLib Go.Proofs.Ytmocfgghccmdgaa.TrPut Go.Proofs.Ytmocfgghccmdgaa.TrFits Go.Proofs.Ytmocfgghccmdgaa.TrOps Go.Proofs.Ytmocfgghccmdgaa.TrMerge Go.Proofs.Ytmocfgghccmdgaa.TrPlain
set_option linter.unusedVariables false
set_option linter.unusedSimpArgs false

theorem findI_form (p : Fl → Bool) : ∀ (l : List Fl) (i : Nat), (∃ j, ∃ h : j < l.length, p l[j] = true ∧ findI p l i = ((i + j : Nat) : Int)) ∨ ((∀ y ∈ l, p y = false) ∧ findI p l i = -1)
  | [], i => .inr ⟨(fun _ h => nomatch h), rfl⟩
  | y :: r, i => by
    rw [findI]
    cases e : p y with
    | true => exact .inl ⟨0, by simp, by simpa using e, by simp⟩
    | false =>
      rw [if_neg (by decide)]
      rcases findI_form p r (i + 1) with ⟨j, h, h1, h2⟩ | ⟨h1, h2⟩
      · exact .inl ⟨j + 1, by simp; omega, by simpa using h1, by rw [h2]; congr 1; omega⟩
      · refine .inr ⟨fun z hz => ?_, h2⟩
        rcases List.mem_cons.1 hz with rfl | hz
        · exact e
        · exact h1 z hz
theorem isP_iff (k : ByteArray) (x : Fl) : isP k x = true ↔ x.1 = k := by
  unfold isP
  rw [beq_iff_eq, toList_L, toList_L]
  exact ⟨fun h => L_inj h, fun h => by rw [h]⟩
/-- Of a key there is one thing at most. -/
theorem up_one {T : List Fl} (up : T.Pairwise (fun x y => cmpP x.1 y.1 < 0)) {x y : Fl} (hx : x ∈ T) (hy : y ∈ T) (e : x.1 = y.1) : x = y := by
  rcases at_split up y.1 with ⟨A, B, rfl, hA, hB, _⟩ | ⟨A, z, B, rfl, hA, hz, hB, _⟩
  · rcases List.mem_append.1 hy with h | h
    · exact absurd rfl (cmp_ne (.inl (hA y h)))
    · exact absurd rfl (cmp_ne (.inr (hB y h)))
  · have one : ∀ u : Fl, u ∈ A ++ z :: B → u.1 = y.1 → u = z := by
      intro u hu eu
      rcases List.mem_append.1 hu with h | h
      · exact absurd eu (cmp_ne (.inl (hA u h)))
      · rcases List.mem_cons.1 h with h | h
        · exact h
        · exact absurd eu (cmp_ne (.inr (hB u h)))
    rw [one x hx e, one y hy rfl]
theorem find_has {T : List Fl} (up : T.Pairwise (fun x y => cmpP x.1 y.1 < 0)) {x : Fl} (hx : x ∈ T) : findT T x.1 = (x.2, true) := by
  unfold findT
  rcases findI_form (isP x.1) T 0 with ⟨j, h, h1, h2⟩ | ⟨h1, h2⟩
  · rw [h2, if_neg (by omega)]
    have e : T[j] = x := up_one up (List.getElem_mem h) hx ((isP_iff _ _).1 h1)
    have e2 : ((0 + j : Nat) : Int).toNat = j := by omega
    rw [e2, List.getD_eq_getElem?_getD, List.getElem?_eq_getElem h, e]; rfl
  · have := h1 x hx
    rw [(isP_iff _ _).2 rfl] at this
    cases this
theorem find_no {T : List Fl} {k : ByteArray} (h : ∀ y ∈ T, y.1 ≠ k) : findT T k = (⟨#[]⟩, false) := by
  unfold findT
  rcases findI_form (isP k) T 0 with ⟨j, hj, h1, h2⟩ | ⟨h1, h2⟩
  · exact absurd ((isP_iff _ _).1 h1) (h _ (List.getElem_mem hj))
  · rw [h2, if_pos (by omega)]

end Go.Proofs.Ytmocfgghccmdgaa.Pure

/- Check, Find and Drop on trees. -/
namespace Go.Proofs.Ytmocfgghccmdgaa.Pure
open Go Go.RowKit Go.Proofs.Ytmocfgghccmdgaa.PTr Go.Proofs.YtmocfgghccmdgaaW.PrintWords Go.Proofs.YtmocfgghccmdgaaW.PrintLast
open Go.Proofs.Ytmocfgghccmdgaa.BytesLib Go.Proofs.Ytmocfgghccmdgaa.SplitLib Go.Proofs.Ytmocfgghccmdgaa.OrderLib Go.Proofs.Ytmocfgghccmdgaa.Elems Go.Proofs.Ytmocfgghccmdgaa.Valid Go.Proofs.Ytmocfgghccmdgaa.PathBase Go.Proofs.Ytmocfgghccmdgaa.TrLib Go.Proofs.Ytmocfgghccmdgaa.TrPut Go.Proofs.Ytmocfgghccmdgaa.TrFits Go.Proofs.Ytmocfgghccmdgaa.TrOps Go.Proofs.Ytmocfgghccmdgaa.TrMerge Go.Proofs.Ytmocfgghccmdgaa.TrPlain
set_option linter.unusedVariables false
set_option linter.unusedSimpArgs false

/-! ### Check -/
theorem up_at {T : List Fl} (up : T.Pairwise (fun x y => cmpP x.1 y.1 < 0)) {i j : Nat} (hj : j < T.length) (h : i < j) : cmpP (T[i]'(by omega)).1 T[j].1 < 0 :=
  (List.pairwise_iff_getElem.1 up) i j (by omega) hj h
theorem check_loop {T : List Fl} (hT : Tree T) : ∀ (d i : Nat), i ≤ T.length → T.length - i = d → Ev (fun k => tree_Check.l0 k (T.map D) (T.map D) (T.length : Int) (i : Int)) (0, (⟨#[]⟩ : ByteArray), 0) := by
  have hfew := hT.few
  intro d
  induction d with
  | zero =>
    intro i h1 h2
    refine Ev.step (f := fun _ => some (0, (⟨#[]⟩ : ByteArray), 0)) (fun k => ?_) (Ev.now _)
    simp only [tree_Check.l0]
    rw [if_neg (by omega), if_neg (by rw [len_D]; omega)]
  | succ d ih =>
    intro i h1 h2
    have hi : i < T.length := by omega
    have hm := List.getElem_mem hi
    obtain ⟨v1, v2⟩ := hT.ok _ hm
    have hsz := (valid_tells v1).2.1
    have hw : tree_wrong.f T[i].1 T[i].2 = some 0 := by
      unfold tree_wrong.f
      rw [if_pos (by omega)]
      exact congrArg some (wrong_zero.2 ⟨v1, v2⟩)
    have hj : Ev (fun k => tree_Check.j1 k (T.map D) 0 (T.map D) (T.length : Int) (i : Int) false T[i].1 T[i].2) (0, (⟨#[]⟩ : ByteArray), 0) := by
      refine Ev.step (fun k => ?_) (ih (i + 1) (by omega) (by omega))
      simp only [tree_Check.j1, Bool.false_eq_true, if_false, if_true]
      rw [w64 (by omega) (by omega)]; rfl
    refine Ev.step (fun k => ?_) hj
    simp only [tree_Check.l0]
    rw [if_pos (by omega), if_pos (by omega), if_pos (by rw [len_D]; omega), rd_D hi]
    show ((tree_wrong.f T[i].1 T[i].2).bind fun t279 => _) = _
    rw [hw, Option.bind_some, if_pos rfl]
    by_cases g : (i : Int) > 0
    · rw [if_pos g, w64 (by omega) (by omega)]
      have e1 : (i : Int) - 1 = ((i - 1 : Nat) : Int) := by omega
      rw [e1, if_pos (by omega), if_pos (by rw [len_D]; omega), rd_D (show i - 1 < T.length by omega)]
      have hm2 := List.getElem_mem (show i - 1 < T.length by omega)
      have hsz2 := (valid_tells (hT.ok _ hm2).1).2.1
      have hc : paths_Compare.f (D (T[i - 1]'(by omega))).f0 (D T[i]).f0 = some (cmpP (T[i - 1]'(by omega)).1 T[i].1) := by
        unfold paths_Compare.f
        rw [if_pos ⟨by show (T[i - 1]'(by omega)).1.size ≤ _; omega, by show T[i].1.size ≤ _; omega⟩]; rfl
      have hn : tree_inside.f (D T[i]).f0 (D (T[i - 1]'(by omega))).f0 = some false := by
        unfold tree_inside.f
        rw [if_pos (by show (T[i - 1]'(by omega)).1.size ≤ _; omega)]
        exact congrArg some (hT.out _ hm _ hm2)
      have hlt := up_at hT.up hi (show i - 1 < i by omega)
      rw [hc, Option.bind_some, if_neg (by omega), hn, Option.bind_some]
      rfl
    · rw [if_neg g]
      rfl
theorem check_ev {T : List Fl} (hT : Tree T) : Ev (fun k => tree_Check.f k (T.map D)) (0, (⟨#[]⟩ : ByteArray), 0) := by
  unfold tree_Check.f
  rw [len_D]
  exact check_loop hT _ 0 (Nat.zero_le _) rfl

/-! ### the reference's Find -/
def findR (p : ByteArray) : List Fl → ByteArray × Bool
  | [] => (⟨#[]⟩, false)
  | y :: r => if L y.1 = L p then (y.2, true) else findR p r
theorem ref_find_loop (T : List Fl) (p : ByteArray) (hT : T.length ≤ 1000000) : ∀ (d i : Nat), i ≤ T.length → T.length - i = d → Ev (fun k => graftbedref02_Find.l0 k (T.map D) p (i : Int)) (findR p (T.drop i)) := by
  intro d
  induction d with
  | zero =>
    intro i h1 h2
    rw [List.drop_of_length_le (by omega), findR]
    refine Ev.step (f := fun _ => some ((⟨#[]⟩ : ByteArray), false)) (fun k => ?_) (Ev.now _)
    simp only [graftbedref02_Find.l0]
    rw [if_neg (by rw [len_D]; omega)]
  | succ d ih =>
    intro i h1 h2
    have hi : i < T.length := by omega
    rw [List.drop_eq_getElem_cons hi, findR]
    by_cases g : L T[i].1 = L p
    · rw [if_pos g]
      refine Ev.step (f := fun _ => some (T[i].2, true)) (fun k => ?_) (Ev.now _)
      simp only [graftbedref02_Find.l0]
      rw [if_pos (by rw [len_D]; omega), if_pos (by omega), rd_D hi, toList_L, toList_L]
      exact if_pos g
    · rw [if_neg g]
      refine Ev.step (fun k => ?_) (ih (i + 1) (by omega) (by omega))
      simp only [graftbedref02_Find.l0]
      rw [if_pos (by rw [len_D]; omega), if_pos (by omega), rd_D hi, toList_L, toList_L, w64 (by omega) (by omega)]
      exact if_neg g
theorem findR_form (p : ByteArray) : ∀ T : List Fl, (∃ y ∈ T, y.1 = p ∧ findR p T = (y.2, true)) ∨ ((∀ y ∈ T, y.1 ≠ p) ∧ findR p T = (⟨#[]⟩, false))
  | [] => .inr ⟨(fun _ h => nomatch h), rfl⟩
  | y :: r => by
    rw [findR]
    by_cases g : L y.1 = L p
    · rw [if_pos g]
      exact .inl ⟨y, List.mem_cons_self, L_inj g, rfl⟩
    · rw [if_neg g]
      rcases findR_form p r with ⟨z, hz, e, f⟩ | ⟨h, f⟩
      · exact .inl ⟨z, List.mem_cons_of_mem _ hz, e, f⟩
      · refine .inr ⟨fun z hz => ?_, f⟩
        rcases List.mem_cons.1 hz with rfl | hz
        · exact fun e => g (by rw [e])
        · exact h z hz
theorem findR_T {T : List Fl} (up : T.Pairwise (fun x y => cmpP x.1 y.1 < 0)) (p : ByteArray) : findR p T = findT T p := by
  rcases findR_form p T with ⟨y, hy, e, f⟩ | ⟨h, f⟩
  · rw [f]
    have := find_has up hy
    rw [e] at this
    exact this.symm
  · rw [f, find_no h]
theorem ref_find {T : List Fl} (hT : Tree T) (p : ByteArray) : Ev (fun k => graftbedref02_Find.f k (T.map D) p) (findT T p) := by
  have := ref_find_loop T p (tree_small hT).1 T.length 0 (Nat.zero_le _) rfl
  rw [List.drop_zero, findR_T hT.up] at this
  exact this

/-! ### Drop -/
end Go.Proofs.Ytmocfgghccmdgaa.Pure


/- TreeMerges: any two trees are merged, or not. -/
namespace Go.Proofs.Ytmocfgghccmdgaa.Pure
open Go Go.RowKit Go.Proofs.Ytmocfgghccmdgaa.PTr Go.Proofs.YtmocfgghccmdgaaW.PrintWords Go.Proofs.YtmocfgghccmdgaaW.PrintLast
open Go.Proofs.Ytmocfgghccmdgaa.BytesLib Go.Proofs.Ytmocfgghccmdgaa.SplitLib Go.Proofs.Ytmocfgghccmdgaa.OrderLib Go.Proofs.Ytmocfgghccmdgaa.Elems Go.Proofs.Ytmocfgghccmdgaa.Valid Go.Proofs.Ytmocfgghccmdgaa.PathBase Go.Proofs.Ytmocfgghccmdgaa.TrLib Go.Proofs.Ytmocfgghccmdgaa.TrPut Go.Proofs.Ytmocfgghccmdgaa.TrFits Go.Proofs.Ytmocfgghccmdgaa.TrOps Go.Proofs.Ytmocfgghccmdgaa.TrMerge Go.Proofs.Ytmocfgghccmdgaa.TrPlain
open Go.Proofs.Ytmocfgghccmdgaa.RowOksTreeMerges
set_option linter.unusedVariables false
set_option linter.unusedSimpArgs false

/-! ### Merge, in plain words -/
structure W (T : List Fl) : Prop where
  ok : ∀ x ∈ T, valid x.1 = true ∧ x.2.size ≤ 4000
  up : T.Pairwise (fun x y => cmpP x.1 y.1 < 0)
  out : ∀ x ∈ T, ∀ y ∈ T, insideF x.1 y.1 = false
theorem W_of {T : List Fl} (h : Tree T) : W T := ⟨h.ok, h.up, h.out⟩
def Clash (y x : Fl) : Prop := (y.1 = x.1 ∧ y.2 ≠ x.2) ∨ insideF y.1 x.1 = true ∨ insideF x.1 y.1 = true
theorem clash_turn {x y : Fl} (h : Clash y x) : Clash x y := by
  rcases h with ⟨a, b⟩ | h | h
  · exact .inl ⟨a.symm, fun e => b e.symm⟩
  · exact .inr (.inr h)
  · exact .inr (.inl h)

theorem bad_iff {s : List Fl} (hs : W s) {x : Fl} (hx : valid x.1 = true) : badF s x = true ↔ ∃ y ∈ s, Clash y x := by
  have hf := fits_iffW (fun y hy => (hs.ok y hy).1) hs.up hx
  unfold badF
  have key : (¬ fitsF s x.1 = true) → ∃ y ∈ s, Clash y x := by
    intro h
    refine Classical.byContradiction fun hn => h (hf.2 fun y hy => ?_)
    constructor
    · cases e : insideF y.1 x.1 with
      | false => rfl
      | true => exact absurd ⟨y, hy, .inr (.inl e)⟩ hn
    · cases e : insideF x.1 y.1 with
      | false => rfl
      | true => exact absurd ⟨y, hy, .inr (.inr e)⟩ hn
  have key2 : ∀ y ∈ s, (insideF y.1 x.1 = true ∨ insideF x.1 y.1 = true) → fitsF s x.1 = false := by
    intro y hy h
    cases e : fitsF s x.1 with
    | false => rfl
    | true =>
      obtain ⟨a, b⟩ := hf.1 e y hy
      rw [a, b] at h
      rcases h with h | h <;> cases h
  have hgd : ∀ (A : List Fl) (z : Fl) (B : List Fl), (A ++ z :: B).getD A.length (⟨#[]⟩, ⟨#[]⟩) = z := by
    intro A z B
    rw [List.getD_eq_getElem?_getD, List.getElem?_append_right (Nat.le_refl _)]; simp
  rcases at_split hs.up x.1 with ⟨A, B, e, hA, hB, ea⟩ | ⟨A, z, B, e, hA, hz, hB, ea⟩
  · rw [ea, if_neg (fun h => Bool.noConfusion h.1)]
    constructor
    · intro h
      exact key (by rw [Bool.not_eq_true'] at h; rw [h]; decide)
    · rintro ⟨y, hy, h⟩
      rcases h with ⟨h, _⟩ | h
      · rw [e] at hy
        rcases List.mem_append.1 hy with hy | hy
        · exact absurd h (cmp_ne (.inl (hA y hy)))
        · exact absurd h (cmp_ne (.inr (hB y hy)))
      · rw [key2 y hy h]; rfl
  · have hzm : z ∈ s := by rw [e]; simp
    have hone : ∀ y ∈ s, y.1 = x.1 → y = z := fun y hy h => up_one hs.up hy hzm (by rw [h, hz])
    rw [ea, show s.getD (A.length, true).1 (⟨#[]⟩, ⟨#[]⟩) = z from by rw [e]; exact hgd A z B]
    by_cases g : z.2.toList = x.2.toList
    · rw [if_neg (fun h => h.2 g)]
      rw [toList_L, toList_L] at g
      have g2 := L_inj g
      constructor
      · intro h
        exact key (by rw [Bool.not_eq_true'] at h; rw [h]; decide)
      · rintro ⟨y, hy, h⟩
        rcases h with ⟨h, h2⟩ | h
        · rw [hone y hy h] at h2
          exact absurd g2 h2
        · rw [key2 y hy h]; rfl
    · rw [if_pos ⟨rfl, g⟩]
      exact ⟨fun _ => ⟨z, hzm, .inl ⟨hz, fun e => g (by rw [e])⟩⟩, fun _ => rfl⟩

theorem put_W {s : List Fl} (hs : W s) {x : Fl} (v : valid x.1 = true ∧ x.2.size ≤ 4000) (hb : ¬ badF s x = true) :
    W (putF s x) ∧ (∀ y, y ∈ putF s x ↔ y ∈ s ∨ y = x) := by
  have hn : ∀ y ∈ s, ¬ Clash y x := fun y hy h => hb ((bad_iff hs v.1).2 ⟨y, hy, h⟩)
  have hin : ∀ y ∈ s, insideF y.1 x.1 = false ∧ insideF x.1 y.1 = false := by
    intro y hy
    constructor
    · cases e : insideF y.1 x.1 with
      | false => rfl
      | true => exact absurd (.inr (.inl e)) (hn y hy)
    · cases e : insideF x.1 y.1 with
      | false => rfl
      | true => exact absurd (.inr (.inr e)) (hn y hy)
  have hm : ∀ y, y ∈ putF s x ↔ y ∈ s ∨ y = x := by
    intro y
    rw [put_mem hs.up]
    constructor
    · rintro (h | ⟨h, _⟩)
      · exact .inr h
      · exact .inl h
    · rintro (h | h)
      · by_cases e : y.1 = x.1
        · refine .inl (Prod.ext e (Classical.byContradiction fun h2 => hn y h (.inl ⟨e, h2⟩)))
        · exact .inr ⟨h, e⟩
      · exact .inl h
  refine ⟨⟨fun y hy => ?_, put_up hs.up x, fun y hy z hz => ?_⟩, hm⟩
  · rcases (hm y).1 hy with h | rfl
    · exact hs.ok y h
    · exact v
  · rcases (hm y).1 hy with h | rfl
    · rcases (hm z).1 hz with h2 | rfl
      · exact hs.out y h z h2
      · exact (hin y h).1
    · rcases (hm z).1 hz with h2 | rfl
      · exact (hin z h2).2
      · exact inside_self (valid_not_here v.1).1 (valid_not_here v.1).2

/-- What Merge makes of two lists. -/
theorem mergeL_form : ∀ (b s : List Fl), W s → (∀ x ∈ b, valid x.1 = true ∧ x.2.size ≤ 4000) → (∀ x ∈ b, ∀ y ∈ b, ¬ Clash y x) →
    ((∃ x ∈ b, ∃ y ∈ s, Clash y x) ∧ (mergeL s b).1 = none) ∨ ((∀ x ∈ b, ∀ y ∈ s, ¬ Clash y x) ∧ ∃ t, mergeL s b = (some t, ⟨#[]⟩) ∧ W t ∧ (∀ y, y ∈ t ↔ y ∈ s ∨ y ∈ b) ∧ s.length ≤ t.length)
  | [], s, hs, _, _ => .inr ⟨(fun _ h => nomatch h), s, rfl, hs, fun y => ⟨fun h => .inl h, fun h => h.elim id (fun h => nomatch h)⟩, Nat.le_refl _⟩
  | x :: b, s, hs, hok, hcl => by
    have hx := hok x List.mem_cons_self
    rw [mergeL]
    by_cases g : badF s x = true
    · rw [if_pos g]
      obtain ⟨y, hy, h⟩ := (bad_iff hs hx.1).1 g
      exact .inl ⟨⟨x, List.mem_cons_self, y, hy, h⟩, rfl⟩
    · rw [if_neg g]
      obtain ⟨hW, hm⟩ := put_W hs hx g
      have hnx : ∀ y ∈ s, ¬ Clash y x := fun y hy h => g ((bad_iff hs hx.1).2 ⟨y, hy, h⟩)
      have hlen : s.length ≤ (putF s x).length := by
        rcases put_form hs.up x with ⟨A, B, rfl, _, _, e⟩ | ⟨A, z, B, rfl, _, _, _, e⟩
        · rw [e]; simp
        · rw [e]; simp
      rcases mergeL_form b (putF s x) hW (fun z hz => hok z (List.mem_cons_of_mem _ hz)) (fun z hz y hy => hcl z (List.mem_cons_of_mem _ hz) y (List.mem_cons_of_mem _ hy)) with ⟨⟨z, hz, y, hy, h⟩, e⟩ | ⟨h, t, e, ht, hmt, hl⟩
      · refine .inl ⟨?_, e⟩
        rcases (hm y).1 hy with hy | rfl
        · exact ⟨z, List.mem_cons_of_mem _ hz, y, hy, h⟩
        · exact absurd h (hcl z (List.mem_cons_of_mem _ hz) y List.mem_cons_self)
      · refine .inr ⟨fun z hz y hy => ?_, t, e, ht, fun y => ?_, by omega⟩
        · rcases List.mem_cons.1 hz with rfl | hz
          · exact hnx y hy
          · exact h z hz y ((hm y).2 (.inl hy))
        · rw [hmt, hm, List.mem_cons]
          constructor
          · rintro ((h | h) | h)
            · exact .inl h
            · exact .inr (.inl h)
            · exact .inr (.inr h)
          · rintro (h | h | h)
            · exact .inl (.inl h)
            · exact .inl (.inr h)
            · exact .inr h
theorem tree_clash {T : List Fl} (hT : Tree T) : ∀ x ∈ T, ∀ y ∈ T, ¬ Clash y x := by
  rintro x hx y hy (⟨h1, h2⟩ | h | h)
  · exact h2 (by rw [up_one hT.up hy hx h1])
  · rw [hT.out y hy x hx] at h; cases h
  · rw [hT.out x hx y hy] at h; cases h

/-! ### The reference's Merge -/
def goM (x : Fl) : List Fl → Bool → List Fl
  | [], done => if done = true then [] else [x]
  | y :: r, done => (if done = false ∧ 0 < cmpP y.1 x.1 then [x] else []) ++ (y :: goM x r (done || decide (0 < cmpP y.1 x.1)))
theorem goM_done (x : Fl) : ∀ B : List Fl, goM x B true = B
  | [] => rfl
  | y :: B => by
    rw [goM, if_neg (by rintro ⟨h, _⟩; cases h), Bool.true_or, goM_done x B]
    rfl
theorem goM_form {x : Fl} : ∀ {A B : List Fl}, (∀ y ∈ A, cmpP y.1 x.1 < 0) → (∀ y ∈ B, 0 < cmpP y.1 x.1) → goM x (A ++ B) false = A ++ x :: B
  | [], B, _, hB => by
    cases B with
    | nil => rfl
    | cons y B =>
      have hy := hB y List.mem_cons_self
      rw [List.nil_append, goM, if_pos ⟨rfl, hy⟩, decide_eq_true hy, Bool.false_or, goM_done]
      rfl
  | a :: A, B, hA, hB => by
    have ha := hA a List.mem_cons_self
    rw [List.cons_append, goM, if_neg (by rintro ⟨_, h⟩; omega), decide_eq_false (by omega), Bool.false_or, goM_form (fun y hy => hA y (List.mem_cons_of_mem _ hy)) hB]
    rfl
abbrev Res := List (S24) × Int × ByteArray × Int
theorem ref_merge_in (b s : List Fl) (hb : b.length ≤ 1000000) (hs : s.length ≤ 1000000) (hss : ∀ y ∈ s, y.1.size ≤ 1099511627776) (i : Nat) (hi : i < b.length) (hx : b[i].1.size ≤ 1099511627776) (many : Bool) (R : Res) : ∀ (d j : Nat) (acc : List Fl) (done : Bool), j ≤ s.length → s.length - j = d → acc.length ≤ 2 * j →
    ((s.drop j).any (confF b[i]) = true → R = ([], 4, b[i].1, 0)) →
    (¬ (s.drop j).any (confF b[i]) = true → Ev (fun k => graftbedref02_Merge.l0 k (b.map D) ((acc ++ goM b[i] (s.drop j) done).map D) (many || decide (((acc ++ goM b[i] (s.drop j) done).length : Int) > 60)) ((i + 1 : Nat) : Int)) R) →
    Ev (fun k => graftbedref02_Merge.l1 k (b.map D) (s.map D) many (i : Int) (acc.map D) done (j : Int)) R := by
  have hlb : (i : Int) < ((b.map D).length : Int) := by rw [len_D]; omega
  intro d
  induction d with
  | zero =>
    intro j acc done h1 h2 h3 hA hN
    rw [List.drop_of_length_le (show s.length ≤ j by omega)] at hA hN
    have hn := hN (by simp)
    refine Ev.step (fun k => ?_) hn
    simp only [graftbedref02_Merge.l1]
    rw [if_neg (by rw [len_D]; omega), w64 (by omega) (by omega)]
    cases done with
    | true =>
      rw [if_pos rfl, len_D]
      show _ = graftbedref02_Merge.l0 k (b.map D) ((acc ++ []).map D) (many || decide (((acc ++ ([] : List Fl)).length : Int) > 60)) ((i + 1 : Nat) : Int)
      rw [List.append_nil]
      cases many with
      | true => rw [if_pos rfl, Bool.true_or]; rfl
      | false => rw [if_neg (by decide), Bool.false_or]; rfl
    | false =>
      rw [if_neg (by decide), if_pos (by omega), if_pos hlb, if_pos (by rw [len_D]; omega), Option.bind_some, rd_D hi]
      have e : acc.map D ++ [(⟨(D b[i]).f0, (D b[i]).f1⟩ : S24)] = (acc ++ [b[i]]).map D := by rw [List.map_append]; rfl
      rw [e, len_D]
      show _ = graftbedref02_Merge.l0 k (b.map D) ((acc ++ [b[i]]).map D) (many || decide (((acc ++ [b[i]]).length : Int) > 60)) ((i + 1 : Nat) : Int)
      cases many with
      | true => rw [if_pos rfl, Bool.true_or]; rfl
      | false => rw [if_neg (by decide), Bool.false_or]; rfl
  | succ d ih =>
    intro j acc done h1 h2 h3 hA hN
    have hj : j < s.length := by omega
    have hlt : (j : Int) < ((s.map D).length : Int) := by rw [len_D]; omega
    have hy := hss s[j] (List.getElem_mem hj)
    rw [List.drop_eq_getElem_cons hj, List.any_cons] at hA hN
    have j3 : ∀ c : Bool, c = confF b[i] s[j] → Ev (fun k => graftbedref02_Merge.j3 k (b.map D) (s.map D) many (i : Int) (acc.map D) done (j : Int) c) R := by
      intro c hc
      cases he : confF b[i] s[j] with
      | true =>
        rw [he] at hc
        rw [hA (by rw [he]; rfl), hc]
        refine Ev.step (f := fun _ => some ([], 4, b[i].1, 0)) (fun k => ?_) (Ev.now _)
        simp only [graftbedref02_Merge.j3, if_true]
        rw [if_pos (by omega), if_pos hlb, rd_D hi]
        rfl
      | false =>
        rw [he] at hc
        rw [he, Bool.false_or] at hA hN
        rw [hc]
        have e1 : ∀ acc2 : List Fl, acc2.map D ++ [(⟨(D s[j]).f0, (D s[j]).f1⟩ : S24)] = (acc2 ++ [s[j]]).map D := by intro acc2; rw [List.map_append]; rfl
        have e2 : acc.map D ++ [(⟨(D b[i]).f0, (D b[i]).f1⟩ : S24)] = (acc ++ [b[i]]).map D := by rw [List.map_append]; rfl
        by_cases g : done = false ∧ 0 < cmpP s[j].1 b[i].1
        · have ge : goM b[i] (s[j] :: s.drop (j + 1)) done = b[i] :: s[j] :: goM b[i] (s.drop (j + 1)) true := by
            rw [goM, if_pos g, decide_eq_true g.2, Bool.or_true]; rfl
          rw [ge] at hN
          have hne := ih (j + 1) ((acc ++ [b[i]]) ++ [s[j]]) true (by omega) (by omega) (by rw [List.length_append, List.length_append]; simp; omega) hA (fun h => by
            have := hN h
            have e : acc ++ b[i] :: s[j] :: goM b[i] (s.drop (j + 1)) true = ((acc ++ [b[i]]) ++ [s[j]]) ++ goM b[i] (s.drop (j + 1)) true := by simp
            rw [e] at this
            exact this)
          rw [g.1]
          refine Ev.step (f := fun k => (graftbedref01_Compare.f k s[j].1 b[i].1).bind fun t => if t > 0 then graftbedref02_Merge.l1 k (b.map D) (s.map D) many (i : Int) (((acc ++ [b[i]]) ++ [s[j]]).map D) true ((j + 1 : Nat) : Int) else graftbedref02_Merge.l1 k (b.map D) (s.map D) many (i : Int) ((acc ++ [s[j]]).map D) false ((j + 1 : Nat) : Int)) (fun k => ?_) ?_
          · simp only [graftbedref02_Merge.j3, Bool.false_eq_true, if_false]
            rw [if_pos (by omega), if_pos hlt, if_pos (by omega), if_pos hlb, rd_D hi, rd_D hj, e2, Option.bind_some, e1, e1, w64 (by omega) (by omega), if_pos (show (acc.map D).length < 4398046511104 by rw [len_D]; omega), if_pos (show ((acc ++ [b[i]]).map D).length < 4398046511104 by rw [len_D, List.length_append]; simp; omega), if_pos (show (acc.map D).length < 4398046511104 by rw [len_D]; omega)]
            rfl
          · refine Ev.bind (ref_cmp _ _ hy hx) ?_
            simp only [if_pos (show cmpP s[j].1 b[i].1 > 0 from g.2)]
            exact hne
        · have hdn : (done || decide (0 < cmpP s[j].1 b[i].1)) = done := by
            cases done with
            | true => rfl
            | false => rw [decide_eq_false (fun h => g ⟨rfl, h⟩)]; rfl
          have ge : goM b[i] (s[j] :: s.drop (j + 1)) done = s[j] :: goM b[i] (s.drop (j + 1)) done := by
            rw [goM, if_neg g, hdn]; rfl
          rw [ge] at hN
          have hne := ih (j + 1) (acc ++ [s[j]]) done (by omega) (by omega) (by rw [List.length_append]; simp; omega) hA (fun h => by
            have := hN h
            have e : acc ++ s[j] :: goM b[i] (s.drop (j + 1)) done = (acc ++ [s[j]]) ++ goM b[i] (s.drop (j + 1)) done := by simp
            rw [e] at this
            exact this)
          cases hd : done with
          | true =>
            rw [hd] at hne
            refine Ev.step (fun k => ?_) hne
            simp only [graftbedref02_Merge.j3, Bool.false_eq_true, if_false, if_true]
            rw [if_pos (by omega), if_pos hlt, if_pos (by rw [len_D]; omega), rd_D hj, e1, w64 (by omega) (by omega)]
            rfl
          | false =>
            rw [hd] at hne g
            refine Ev.step (f := fun k => (graftbedref01_Compare.f k s[j].1 b[i].1).bind fun t => if t > 0 then graftbedref02_Merge.l1 k (b.map D) (s.map D) many (i : Int) (((acc ++ [b[i]]) ++ [s[j]]).map D) true ((j + 1 : Nat) : Int) else graftbedref02_Merge.l1 k (b.map D) (s.map D) many (i : Int) ((acc ++ [s[j]]).map D) false ((j + 1 : Nat) : Int)) (fun k => ?_) ?_
            · simp only [graftbedref02_Merge.j3, Bool.false_eq_true, if_false]
              rw [if_pos (by omega), if_pos hlt, if_pos (by omega), if_pos hlb, rd_D hi, rd_D hj, e2, Option.bind_some, e1, e1, w64 (by omega) (by omega), if_pos (show (acc.map D).length < 4398046511104 by rw [len_D]; omega), if_pos (show ((acc ++ [b[i]]).map D).length < 4398046511104 by rw [len_D, List.length_append]; simp; omega), if_pos (show (acc.map D).length < 4398046511104 by rw [len_D]; omega)]
              rfl
            · refine Ev.bind (ref_cmp _ _ hy hx) ?_
              simp only [if_neg (show ¬ cmpP s[j].1 b[i].1 > 0 from fun h => g ⟨rfl, h⟩)]
              exact hne
    refine Ev.step (f := fun k => (graftbedref02_inside.f k s[j].1 b[i].1).bind fun t => (if t = true then (graftbedref02_Merge.j3 k (b.map D) (s.map D) many (i : Int) (acc.map D) done (j : Int) true) else ((graftbedref02_inside.f k b[i].1 s[j].1).bind fun t2 => (graftbedref02_Merge.j3 k (b.map D) (s.map D) many (i : Int) (acc.map D) done (j : Int) t2)))) (fun k => ?_) ?_
    · simp only [graftbedref02_Merge.l1]
      rw [if_pos hlt, if_pos (by omega), if_pos (by omega), if_pos hlb, rd_D hi, rd_D hj]
      rfl
    · refine Ev.bind (ref_inside _ _ hx hy) ?_
      cases hc : insideF s[j].1 b[i].1 with
      | true =>
        simp only [if_true]
        exact j3 true (by unfold confF; rw [hc]; rfl)
      | false =>
        simp only [Bool.false_eq_true, if_false]
        refine Ev.bind (ref_inside _ _ hy hx) ?_
        exact j3 _ (by unfold confF; rw [hc]; rfl)

def endM : Option (List Fl) × ByteArray → Res
  | (none, p) => ([], 4, p, 0)
  | (some s, _) => if (s.length : Int) > 60 then ([], 2, ⟨#[]⟩, 0) else (s.map D, 0, ⟨#[]⟩, 0)
theorem ref_merge_loop (b : List Fl) (hb : b.length ≤ 60) (hok : ∀ x ∈ b, valid x.1 = true ∧ x.2.size ≤ 4000) : ∀ (d i : Nat) (s : List Fl), W s → i ≤ b.length → b.length - i = d → s.length ≤ 60 + i →
    Ev (fun k => graftbedref02_Merge.l0 k (b.map D) (s.map D) (decide ((s.length : Int) > 60)) (i : Int)) (endM (mergeL s (b.drop i))) := by
  intro d
  induction d with
  | zero =>
    intro i s hs h1 h2 h3
    rw [List.drop_of_length_le (show b.length ≤ i by omega), mergeL, endM]
    by_cases g : (s.length : Int) > 60
    · rw [if_pos g, decide_eq_true g]
      refine Ev.step (f := fun _ => some ([], 2, ⟨#[]⟩, 0)) (fun k => ?_) (Ev.now _)
      simp only [graftbedref02_Merge.l0, if_true]
      rw [if_neg (by rw [len_D]; omega)]
    · rw [if_neg g, decide_eq_false g]
      refine Ev.step (f := fun _ => some (s.map D, 0, ⟨#[]⟩, 0)) (fun k => ?_) (Ev.now _)
      simp only [graftbedref02_Merge.l0, Bool.false_eq_true, if_false]
      rw [if_neg (by rw [len_D]; omega)]
  | succ d ih =>
    intro i s hs h1 h2 h3
    have hi : i < b.length := by omega
    have hlb : (i : Int) < ((b.map D).length : Int) := by rw [len_D]; omega
    have v := hok _ (List.getElem_mem hi)
    have hxs : b[i].1.size ≤ 1099511627776 := by have := (valid_tells v.1).2.1; omega
    have hss : ∀ y ∈ s, y.1.size ≤ 1099511627776 := fun y hy => by have := (valid_tells (hs.ok y hy).1).2.1; omega
    rw [List.drop_eq_getElem_cons hi, mergeL]
    have hfind := ref_find_loop s b[i].1 (by omega) s.length 0 (Nat.zero_le _) rfl
    rw [List.drop_zero, findR_T hs.up] at hfind
    refine Ev.step (f := fun k => (graftbedref02_Find.l0 k (s.map D) b[i].1 0).bind fun t => (if t.2 = true then (graftbedref02_Merge.j1 k (b.map D) (s.map D) (decide ((s.length : Int) > 60)) (i : Int) t.2 (t.1.toList != b[i].2.toList)) else (graftbedref02_Merge.j1 k (b.map D) (s.map D) (decide ((s.length : Int) > 60)) (i : Int) t.2 false))) (fun k => ?_) ?_
    · simp only [graftbedref02_Merge.l0]
      rw [if_pos hlb, if_pos (by omega), rd_D hi]
      rfl
    refine Ev.bind hfind ?_
    -- what comes behind a file that may stand
    have next : ¬ badF s b[i] = true → Ev (fun k => graftbedref02_Merge.l0 k (b.map D) ((putF s b[i]).map D) (decide (((putF s b[i]).length : Int) > 60)) ((i + 1 : Nat) : Int)) (endM (mergeL (putF s b[i]) (b.drop (i + 1)))) := by
      intro g
      exact ih (i + 1) _ (put_W hs v g).1 (by omega) (by omega) (by have := putF_len s b[i]; omega)
    by_cases hk : ∃ y ∈ s, y.1 = b[i].1
    · obtain ⟨y, hy, e⟩ := hk
      have hf := find_has hs.up hy
      rw [e] at hf
      rw [hf]
      simp only [if_true]
      by_cases g : y.2 = b[i].2
      · have hyx : y = b[i] := Prod.ext e g
        have hnb : ¬ badF s b[i] = true := by
          intro h
          obtain ⟨z, hz, hc⟩ := (bad_iff hs v.1).1 h
          rw [← hyx] at hc
          rcases hc with ⟨h1, h2⟩ | h | h
          · exact h2 (by rw [up_one hs.up hz hy h1])
          · rw [hs.out z hz y hy] at h; cases h
          · rw [hs.out y hy z hz] at h; cases h
        rw [if_neg hnb]
        have hps : putF s b[i] = s := by
          refine up_ext (put_up hs.up _) hs.up (fun z => ?_)
          rw [(put_W hs v hnb).2]
          exact ⟨fun h => h.elim id (fun h => by rw [h, ← hyx]; exact hy), fun h => .inl h⟩
        have hn := next hnb
        rw [hps] at hn ⊢
        refine Ev.step (fun k => ?_) hn
        rw [g, bne_self_eq_false]
        simp only [graftbedref02_Merge.j1, Bool.false_eq_true, if_false, if_true]
        rw [w64 (by omega) (by omega)]; rfl
      · have hb2 : badF s b[i] = true := (bad_iff hs v.1).2 ⟨y, hy, .inl ⟨e, g⟩⟩
        rw [if_pos hb2, endM, show (y.2.toList != b[i].2.toList) = true from by rw [bne_iff_ne, toList_L, toList_L]; exact fun h => g (L_inj h)]
        refine Ev.step (f := fun _ => some ([], 4, b[i].1, 0)) (fun k => ?_) (Ev.now _)
        simp only [graftbedref02_Merge.j1, if_true]
        rw [if_pos (by omega), if_pos hlb, rd_D hi]
        rfl
    · have hno : ∀ y ∈ s, y.1 ≠ b[i].1 := fun y hy e => hk ⟨y, hy, e⟩
      rw [find_no hno]
      simp only [Bool.false_eq_true, if_false]
      refine Ev.step (f := fun k => graftbedref02_Merge.l1 k (b.map D) (s.map D) (decide ((s.length : Int) > 60)) (i : Int) ([] : List (S24)) false 0) (fun k => by simp only [graftbedref02_Merge.j1, Bool.false_eq_true, if_false]) ?_
      have hconf : s.any (confF b[i]) = true ↔ badF s b[i] = true := by
        rw [bad_iff hs v.1, List.any_eq_true]
        constructor
        · rintro ⟨y, hy, h⟩
          unfold confF at h
          rw [Bool.or_eq_true] at h
          exact ⟨y, hy, .inr h⟩
        · rintro ⟨y, hy, h⟩
          refine ⟨y, hy, ?_⟩
          unfold confF
          rw [Bool.or_eq_true]
          rcases h with ⟨h, _⟩ | h
          · exact absurd h (hno y hy)
          · exact h
      have hgo : goM b[i] s false = putF s b[i] := by
        rcases put_form hs.up b[i] with ⟨A, B, rfl, hA, hB, e⟩ | ⟨A, z, B, rfl, hA, hz, hB, e⟩
        · rw [e, goM_form hA hB]
        · exact absurd hz (hno z (by simp))
      have hin := ref_merge_in b s (by omega) (by omega) hss i hi hxs (decide ((s.length : Int) > 60)) (endM (if badF s b[i] = true then (none, b[i].1) else mergeL (putF s b[i]) (b.drop (i + 1)))) s.length 0 [] false (Nat.zero_le _) rfl (Nat.zero_le _)
      rw [List.drop_zero] at hin
      refine hin (fun h => ?_) (fun h => ?_)
      · rw [if_pos (hconf.1 h), endM]
      · have hnb : ¬ badF s b[i] = true := fun h2 => h (hconf.2 h2)
        rw [if_neg hnb, hgo, List.nil_append]
        have hn := next hnb
        have e : (decide ((s.length : Int) > 60) || decide (((putF s b[i]).length : Int) > 60)) = decide (((putF s b[i]).length : Int) > 60) := by
          have hl : s.length ≤ (putF s b[i]).length := by
            rcases put_form hs.up b[i] with ⟨A, B, rfl, _, _, e⟩ | ⟨A, z, B, rfl, _, _, _, e⟩
            · rw [e]; simp
            · rw [e]; simp
          by_cases g : (s.length : Int) > 60
          · rw [decide_eq_true g, Bool.true_or, decide_eq_true (by omega)]
          · rw [decide_eq_false g, Bool.false_or]
        rw [e]
        exact hn
theorem ref_merge {a b : List Fl} (ha : Tree a) (hb : Tree b) : Ev (fun k => graftbedref02_Merge.f k (a.map D) (b.map D)) (endM (mergeL a b)) := by
  have hfa := ha.few
  have h := ref_merge_loop b hb.few hb.ok b.length 0 a (W_of ha) (Nat.zero_le _) rfl (by omega)
  rw [List.drop_zero, decide_eq_false (by omega)] at h
  unfold graftbedref02_Merge.f
  simp only [Option.bind_some]
  simp only [if_pos (show ([] : List (S24)).length + (a.map D).length < 4398046511104 by rw [len_D]; simp; omega)]
  exact h

/-! ### The program's Merge -/
theorem merge_ok {T : List Fl} (h : Small T) : tree_Merge.ok (T.map D) = true := by
  unfold tree_Merge.ok
  rw [len_D, decide_eq_true h.1, Bool.true_and, List.all_eq_true]
  intro x hx
  obtain ⟨y, hy, rfl⟩ := List.mem_map.1 hx
  exact decide_eq_true (h.2 y hy)
theorem merge_f {a b : List Fl} (ha : Tree a) (hb : Tree b) : tree_Merge.f (a.map D) (b.map D) = some (endM (mergeL a b)) := by
  unfold tree_Merge.f
  rw [if_pos ⟨merge_ok (tree_small ha), merge_ok (tree_small hb)⟩]
  have e : ∀ T : List Fl, (T.map D).map tree_Merge.enc = T := by
    intro T
    rw [List.map_map]; exact (List.map_congr_left (fun x _ => rfl)).trans (List.map_id T)
  rw [e, e]
  unfold mergeT
  have hfa := ha.few
  cases h : mergeL a b with
  | mk o p => cases o with
    | none => rfl
    | some s =>
      have hmx : max (a.length : Int) 60 = 60 := by omega
      simp only [hmx, endM]
      by_cases g : (s.length : Int) > 60
      · rw [if_pos g, if_pos g]; rfl
      · rw [if_neg g, if_neg g]; rfl

/-! ### The law -/
theorem merges_loop {a b t : List Fl} (ha : Tree a) (hb : Tree b) (ht : Tree t) (hm : ∀ y, y ∈ t ↔ y ∈ a ∨ y ∈ b) (hla : a.length ≤ t.length) (hlb : b.length ≤ t.length) : ∀ (d i : Nat), i ≤ t.length → t.length - i = d →
    Ev (fun k => graftbedlaw02_TreeMerges.l0 k (a.map D) (b.map D) (t.map D) (t.map D) (i : Int) 0 (⟨#[]⟩ : ByteArray) 0) true := by
  have hft := ht.few
  intro d
  induction d with
  | zero =>
    intro i h1 h2
    have e0 : ((0 : Int) == 0 && ((⟨#[]⟩ : ByteArray).toList == ([] : List UInt8) && ((0 : Int) == 0))) = true := by rw [toList_L]; rfl
    refine Ev.step (f := fun k => (graftbedref02_Same.f k (t.map D) (t.map D)).bind fun t371 => (if t371 = true then ((tree_Check.f k (t.map D)).bind fun bt372 => (if (bt372.1 == 0 && (bt372.2.1.toList == ([] : List UInt8) && (bt372.2.2 == 0))) = true then (if ((t.map D).length : Int) ≥ ((a.map D).length : Int) then (some (decide (((t.map D).length : Int) ≥ ((b.map D).length : Int)))) else (some false)) else (some false))) else (some false))) (fun k => ?_) ?_
    · simp only [graftbedlaw02_TreeMerges.l0]
      rw [if_neg (by rw [len_D]; omega), if_pos e0]
    · refine Ev.bind (same_ev t (tree_small ht).1) ?_
      simp only [if_true]
      refine Ev.bind (check_ev ht) ?_
      simp only [if_pos e0]
      rw [len_D, len_D, len_D, if_pos (by omega), decide_eq_true (by omega)]
      exact Ev.now _
  | succ d ih =>
    intro i h1 h2
    have hi : i < t.length := by omega
    have him := List.getElem_mem hi
    refine Ev.step (f := fun k => (graftbedref02_Find.f k (a.map D) t[i].1).bind fun bt376 => ((graftbedref02_Find.f k (b.map D) t[i].1).bind fun bt379 => (if bt376.2 = true then (if bt376.1.toList = t[i].2.toList then (if bt379.2 = true then (if bt379.1.toList = t[i].2.toList then (graftbedlaw02_TreeMerges.l0 k (a.map D) (b.map D) (t.map D) (t.map D) ((i + 1 : Nat) : Int) 0 (⟨#[]⟩ : ByteArray) 0) else (some false)) else (graftbedlaw02_TreeMerges.l0 k (a.map D) (b.map D) (t.map D) (t.map D) ((i + 1 : Nat) : Int) 0 (⟨#[]⟩ : ByteArray) 0)) else (some false)) else (if bt379.2 = true then (if bt379.1.toList = t[i].2.toList then (graftbedlaw02_TreeMerges.l0 k (a.map D) (b.map D) (t.map D) (t.map D) ((i + 1 : Nat) : Int) 0 (⟨#[]⟩ : ByteArray) 0) else (some false)) else (some false))))) (fun k => ?_) ?_
    · simp only [graftbedlaw02_TreeMerges.l0]
      rw [if_pos (by rw [len_D]; omega), if_pos (by omega), rd_D hi, w64 (by omega) (by omega)]
      rfl
    · have hnx := ih (i + 1) (by omega) (by omega)
      have inA : ∀ T : List Fl, Tree T → (∀ y ∈ T, y ∈ t) → (findT T t[i].1 = (t[i].2, true) ∧ t[i] ∈ T) ∨ ((∀ y ∈ T, y.1 ≠ t[i].1) ∧ findT T t[i].1 = (⟨#[]⟩, false)) := by
        intro T hT hs
        by_cases h : ∃ y ∈ T, y.1 = t[i].1
        · obtain ⟨y, hy, e⟩ := h
          have hyt := up_one ht.up (hs y hy) him e
          rw [← hyt]
          exact .inl ⟨find_has hT.up hy, hy⟩
        · have hn : ∀ y ∈ T, y.1 ≠ t[i].1 := fun y hy e => h ⟨y, hy, e⟩
          exact .inr ⟨hn, find_no hn⟩
      refine Ev.bind (ref_find ha _) ?_
      refine Ev.bind (ref_find hb _) ?_
      rcases inA a ha (fun y hy => (hm y).2 (.inl hy)) with ⟨f1, m1⟩ | ⟨n1, f1⟩
      · rw [f1]
        simp only [if_true]
        rcases inA b hb (fun y hy => (hm y).2 (.inr hy)) with ⟨f2, m2⟩ | ⟨n2, f2⟩
        · rw [f2]
          simp only [if_true]
          exact hnx
        · rw [f2]
          simp only [Bool.false_eq_true, if_false]
          exact hnx
      · rw [f1]
        simp only [Bool.false_eq_true, if_false]
        rcases inA b hb (fun y hy => (hm y).2 (.inr hy)) with ⟨f2, m2⟩ | ⟨n2, f2⟩
        · rw [f2]
          simp only [if_true]
          exact hnx
        · rcases (hm t[i]).1 him with h | h
          · exact absurd rfl (n1 _ h)
          · exact absurd rfl (n2 _ h)

theorem merges_in (l m : List Fl) (hl : l.length ≤ 80) (hs : ∀ x ∈ l, x.1.size ≤ 16384 ∧ x.2.size ≤ 16384) (hl2 : m.length ≤ 80) (hs2 : ∀ x ∈ m, x.1.size ≤ 16384 ∧ x.2.size ≤ 16384) :
    Ev (fun k => graftbedlaw02_TreeMerges.j0 k (l.map D) (m.map D) false) true := by
  have ha := grow_tree l [] tree_nil
  have hb := grow_tree m [] tree_nil
  obtain ⟨a, ea⟩ : ∃ T, grow [] l = T := ⟨_, rfl⟩
  obtain ⟨b, eb⟩ : ∃ T, grow [] m = T := ⟨_, rfl⟩
  have hga := grown_ev l (by omega) (fun y hy => by have := (hs y hy).1; omega)
  have hgb := grown_ev m (by omega) (fun y hy => by have := (hs2 y hy).1; omega)
  rw [ea] at hga ha
  rw [eb] at hgb hb
  have e1 := merge_f ha hb
  have e2 := ref_merge ha hb
  have e3 := merge_f hb ha
  refine Ev.step (f := fun k => (graftbedlaw02_grown.f k (l.map D)).bind fun t343 => ((graftbedlaw02_grown.f k (m.map D)).bind fun t346 => ((tree_Merge.f t343 t346).bind fun bt349 => ((graftbedref02_Merge.f k t343 t346).bind fun bt356 => (if (!(bt349.2.1 == bt356.2.1) || (!(bt349.2.2.1.toList == bt356.2.2.1.toList) || (!(bt349.2.2.2 == bt356.2.2.2)))) = true then (graftbedlaw02_TreeMerges.j1 k t343 t346 bt349.1 true bt349.2.1 bt349.2.2.1 bt349.2.2.2) else ((graftbedref02_Same.f k bt349.1 bt356.1).bind fun t363 => (graftbedlaw02_TreeMerges.j1 k t343 t346 bt349.1 (!t363) bt349.2.1 bt349.2.2.1 bt349.2.2.2))))))) (fun k => by simp only [graftbedlaw02_TreeMerges.j0, Bool.false_eq_true, if_false]) ?_
  refine Ev.bind hga ?_
  refine Ev.bind hgb ?_
  rw [e1]
  simp only [Option.bind_some]
  refine Ev.bind e2 ?_
  simp only [BEq.rfl, Bool.not_true, Bool.or_false, Bool.false_eq_true, if_false]
  have ca := tree_clash ha
  have cb := tree_clash hb
  rcases mergeL_form b a (W_of ha) hb.ok cb with ⟨_, hn⟩ | ⟨hno, t, ht, hW, hm, hlen⟩
  · obtain ⟨p, hp⟩ : ∃ p, mergeL a b = (none, p) := ⟨(mergeL a b).2, Prod.ext hn rfl⟩
    rw [hp, endM]
    have hsame := same_ev [] (Nat.zero_le _)
    refine Ev.bind hsame ?_
    refine Ev.step (f := fun _ => some true) (fun k => ?_) (Ev.now _)
    simp only [graftbedlaw02_TreeMerges.j1, Bool.not_true, Bool.false_eq_true, if_false]
    rw [if_pos (by rfl)]
    rfl
  · rw [ht, endM]
    by_cases g : (t.length : Int) > 60
    · rw [if_pos g]
      have hsame := same_ev [] (Nat.zero_le _)
      refine Ev.bind hsame ?_
      refine Ev.step (f := fun _ => some true) (fun k => ?_) (Ev.now _)
      simp only [graftbedlaw02_TreeMerges.j1, Bool.not_true, Bool.false_eq_true, if_false]
      rfl
    · rw [if_neg g]
      have hT : Tree t := ⟨hW.ok, hW.up, hW.out, by omega⟩
      refine Ev.bind (same_ev t (by omega)) ?_
      -- the other way round
      have hba : mergeL b a = (some t, ⟨#[]⟩) ∧ b.length ≤ t.length := by
        rcases mergeL_form a b (W_of hb) ha.ok ca with ⟨⟨x, hx, y, hy, h⟩, _⟩ | ⟨_, t2, ht2, hW2, hm2, hlen2⟩
        · exact absurd (clash_turn h) (hno y hy x hx)
        · have e : t2 = t := up_ext hW2.up hW.up (fun y => by rw [hm2, hm]; exact Or.comm)
          rw [e] at ht2 hlen2
          exact ⟨ht2, hlen2⟩
      rw [hba.1, endM, if_neg g] at e3
      refine Ev.step (fun k => ?_) (merges_loop ha hb hT hm hlen hba.2 t.length 0 (Nat.zero_le _) rfl)
      simp only [graftbedlaw02_TreeMerges.j1, Bool.not_true, Bool.false_eq_true, if_false]
      rw [e3, toList_L]
      rfl

theorem TreeMerges (l0 : List S24) (l1 : List S24) (w0 : l0.length * 32 ≤ 140737488351232 ∧ ∀ y ∈ l0, ok24 y) (w1 : l1.length * 32 ≤ 140737488351232 ∧ ∀ y ∈ l1, ok24 y) : ∃ k, graftbedlaw02_TreeMerges.f k l0 l1 = some true := by
  suffices h : Ev (fun k => graftbedlaw02_TreeMerges.f k l0 l1) true by
    obtain ⟨K, hK⟩ := h
    exact ⟨K, hK K (Nat.le_refl _)⟩
  have big : Ev (fun k => graftbedlaw02_TreeMerges.j0 k l0 l1 true) true :=
    Ev.step (f := fun _ => some true) (fun k => by simp only [graftbedlaw02_TreeMerges.j0, if_true]; rw [shown_f]; rfl) (Ev.now _)
  obtain ⟨b1, hb1, hc1⟩ := heavy_ev (l0.map E)
  rw [DE] at hb1
  unfold graftbedlaw02_TreeMerges.f
  refine Ev.bind hb1 ?_
  cases b1 with
  | true => simp only [if_true]; exact big
  | false =>
    simp only [Bool.false_eq_true, if_false]
    obtain ⟨b2, hb2, hc2⟩ := heavy_ev (l1.map E)
    rw [DE] at hb2
    refine Ev.bind hb2 ?_
    cases b2 with
    | true => simp only [if_true]; exact big
    | false =>
      simp only [Bool.false_eq_true, if_false]
      rw [shown_f]
      simp only [Option.bind_some, Bool.not_true]
      obtain ⟨p1, p2⟩ := hc1 rfl
      obtain ⟨q1, q2⟩ := hc2 rfl
      have := merges_in (l0.map E) (l1.map E) p1 p2 q1 q2
      rw [DE, DE] at this
      exact this

end Go.Proofs.Ytmocfgghccmdgaa.Pure
