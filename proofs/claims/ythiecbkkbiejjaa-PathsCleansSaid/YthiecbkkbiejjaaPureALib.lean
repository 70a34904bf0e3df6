/- What the printed functions on paths come to, in lists of bytes. -/
import Derived.Test.YthiecbkkbiejjaaPAllx1
import Derived.Test.YthiecbkkbiejjaaPAllx2
import Derived.Test.YthiecbkkbiejjaaOrderLib
namespace Go.Proofs.Ythiecbkkbiejjaa.Pure
open Go.RowKit Go.Proofs.Ythiecbkkbiejjaa.PAll Go.Proofs.YthiecbkkbiejjaaW.PrintWords Go.Proofs.YthiecbkkbiejjaaW.PrintLast
open Go.Proofs.Ythiecbkkbiejjaa.BytesLib Go.Proofs.Ythiecbkkbiejjaa.SplitLib Go.Proofs.Ythiecbkkbiejjaa.OrderLib Go.Proofs.Ythiecbkkbiejjaa.Elems Go.Proofs.Ythiecbkkbiejjaa.Valid
set_option linter.unusedVariables false

theorem tail_ofL (s : ByteArray) (a : Nat) : s.extract a s.size = ofL ((L s).drop a) := L_inj (by rw [L_tail, L_ofL])
theorem cut_ofL (s : ByteArray) (a b : Nat) : s.extract a b = ofL (((L s).drop a).take (b - a)) := L_inj (by rw [L_extract, L_ofL])

theorem not_mem_take {l : List UInt8} {c : UInt8} {m n : Nat} (h : ∀ j, m ≤ j → j < n → l[j]? ≠ some c) : c ∉ (l.drop m).take (n - m) := by
  intro hm
  obtain ⟨k, hk, hk2⟩ := List.mem_iff_getElem.1 hm
  rw [List.length_take, List.length_drop] at hk
  rw [List.getElem_take, List.getElem_drop] at hk2
  exact h (m + k) (by omega) (by omega) (by rw [List.getElem?_eq_some_iff]; exact ⟨by omega, hk2⟩)

theorem ref_elems_loop (s : ByteArray) (hs : s.size ≤ 1099511627776) (d : Nat) : ∀ (i m : Nat) (acc : List ByteArray), m ≤ i → i ≤ s.size → s.size - i = d → acc.length ≤ i →
    (∀ j, m ≤ j → j < i → (L s)[j]? ≠ some 47) →
    Ev (fun k => graftbedref01_Elems.l0 k s acc (m : Int) (i : Int)) (acc ++ (splitL 47 ((L s).drop m)).map ofL) := by
  induction d with
  | zero =>
    intro i m acc h1 h2 h3 h4 h5
    obtain rfl : i = s.size := by omega
    have hn : (47 : UInt8) ∉ (L s).drop m := by
      have := not_mem_take h5
      rwa [List.take_of_length_le (by rw [List.length_drop, L_length]; exact Nat.le_refl _)] at this
    rw [splitL_none hn]
    refine Ev.step (f := fun k => graftbedref01_Elems.l0 k s (acc ++ [s.extract m s.size]) ((s.size : Int) + 1) ((s.size : Int) + 1)) (fun k => ?_) ?_
    · simp only [graftbedref01_Elems.l0]
      rw [if_pos (by omega), if_pos trivial, if_pos (by omega), if_pos (by omega), if_pos (by omega), w64 (by omega) (by omega), Int.toNat_natCast, Int.toNat_natCast]
    · refine Ev.step (f := fun _ => some (acc ++ [s.extract m s.size])) (fun k => ?_) ?_
      · simp only [graftbedref01_Elems.l0]
        rw [if_neg (by omega)]
      · rw [tail_ofL]; exact Ev.now _
  | succ d ih =>
    intro i m acc h1 h2 h3 h4 h5
    have hlt : i < (L s).length := by rw [L_length]; omega
    have hb := bt_nat hlt
    by_cases hc : (L s)[i] = 47
    · have hc2 : bt s (i : Int) = 47 := by rw [hb, hc]; rfl
      have hn := not_mem_take h5
      have hsp : (L s).drop m = ((L s).drop m).take (i - m) ++ 47 :: (L s).drop (i + 1) := by
        conv => lhs; rw [← List.take_append_drop (i - m) ((L s).drop m), List.drop_drop, show m + (i - m) = i from by omega, List.drop_eq_getElem_cons hlt, hc]
      refine Ev.step (f := fun k => graftbedref01_Elems.l0 k s (acc ++ [s.extract m i]) ((i + 1 : Nat) : Int) ((i + 1 : Nat) : Int)) (fun k => ?_) ?_
      · simp only [graftbedref01_Elems.l0]
        rw [if_pos (by omega), if_neg (by omega), if_pos (by omega), if_pos (by omega), if_pos hc2, if_pos (by omega), if_pos (by omega), if_pos (by omega), w64 (by omega) (by omega), Int.toNat_natCast, Int.toNat_natCast]
        rfl
      · have := ih (i + 1) (i + 1) (acc ++ [s.extract m i]) (Nat.le_refl _) (by omega) (by omega) (by simp; omega) (fun j hj hj2 => by omega)
        rw [hsp, splitL_at _ hn, List.map_cons]
        rw [List.append_assoc] at this
        rw [cut_ofL] at this ⊢
        exact this
    · have hc2 : ¬ bt s (i : Int) = 47 := by
        rw [hb]
        intro e
        exact hc (UInt8.toNat_inj.1 (by simpa using Int.ofNat_inj.1 e))
      refine Ev.step (f := fun k => graftbedref01_Elems.l0 k s acc (m : Int) ((i + 1 : Nat) : Int)) (fun k => ?_) ?_
      · simp only [graftbedref01_Elems.l0]
        rw [if_pos (by omega), if_neg (by omega), if_pos (by omega), if_pos (by omega), if_neg hc2, w64 (by omega) (by omega)]
        rfl
      · exact ih (i + 1) m acc (by omega) (by omega) (by omega) (by omega) (fun j hj hj2 => by
          by_cases e : j = i
          · rw [e, List.getElem?_eq_getElem hlt]; simpa using hc
          · exact h5 j hj (by omega))

theorem ref_elems (s : ByteArray) (hs : s.size ≤ 1099511627776) : Ev (fun k => graftbedref01_Elems.f k s) (elems s) := by
  unfold graftbedref01_Elems.f
  simp only [Option.bind_some]
  by_cases h : s.toList = []
  · simp only [h, if_true]
    rw [elems_list, show L s = [] from by rw [← toList_L]; exact h]
    exact Ev.now _
  · simp only [if_neg h]
    have := ref_elems_loop s hs s.size 0 0 [] (Nat.le_refl _) (Nat.zero_le _) (by omega) (Nat.zero_le _) (fun j hj hj2 => by omega)
    rw [elems_list]
    unfold elemsL
    rw [if_neg (by rw [← toList_L]; exact h)]
    exact this

theorem elems_f (s : ByteArray) (hs : s.size ≤ 1099511627776) : paths_Elems.f s = some (elems s) := by
  unfold paths_Elems.f
  rw [if_pos (by omega)]

theorem cmp_texts (a b : ByteArray) : cmp_Compare_string.f a b = some (cmpB (L a) (L b)) := by
  unfold cmp_Compare_string.f cmp_isNaN_string.f cmpB
  simp only [Option.bind_some, bne_self_eq_false, Bool.false_eq_true, if_false]
  rw [toList_L, toList_L]
  by_cases h1 : L a < L b
  · rw [if_pos ((less_iff _ _).2 h1), if_pos h1]
  · rw [if_neg (fun e => h1 ((less_iff _ _).1 e)), if_neg h1]
    by_cases h2 : L b < L a
    · rw [if_pos ((less_iff _ _).2 h2), if_pos h2]
    · rw [if_neg (fun e => h2 ((less_iff _ _).1 e)), if_neg h2]

theorem slices_cmp_loop (x y : List ByteArray) (hx : x.length ≤ 1099511627777) (d : Nat) : ∀ (i : Nat), i ≤ x.length → x.length - i = d → i ≤ y.length →
    (i < x.length ∨ i = x.length) →
    Ev (fun k => slices_Compare_string_string.l0 k x y x (x.length : Int) (i : Int)) (cmpLL ((x.drop i).map L) ((y.drop i).map L)) := by
  induction d with
  | zero =>
    intro i h1 h2 h3 _
    obtain rfl : i = x.length := by omega
    rw [List.drop_length]
    refine Ev.step (f := fun _ => some (cmpLL [] ((y.drop x.length).map L))) (fun k => ?_) (Ev.now _)
    simp only [slices_Compare_string_string.l0]
    rw [if_neg (by omega)]
    by_cases h : (x.length : Int) < (y.length : Int)
    · rw [if_pos h, List.drop_eq_getElem_cons (by omega), List.map_cons]; rfl
    · rw [if_neg h, List.drop_of_length_le (by omega)]; rfl
  | succ d ih =>
    intro i h1 h2 h3 _
    have hlt : i < x.length := by omega
    rw [List.drop_eq_getElem_cons hlt, List.map_cons]
    by_cases hy : i < y.length
    · rw [List.drop_eq_getElem_cons hy, List.map_cons, cmpLL_cons]
      by_cases hc : cmpB (L x[i]) (L y[i]) = 0
      · rw [if_pos hc]
        refine Ev.step (f := fun k => slices_Compare_string_string.l0 k x y x (x.length : Int) ((i + 1 : Nat) : Int)) (fun k => ?_) (ih (i + 1) (by omega) (by omega) (by omega) (by omega))
        simp only [slices_Compare_string_string.l0]
        rw [if_pos (by omega), if_pos (by omega), if_pos (by omega), if_neg (by omega), if_pos (by omega), cmp_texts, rdOf_get _ hlt, rdOf_get _ hy, hc]
        simp only [Option.bind_some, if_true]
        rw [w64 (by omega) (by omega)]
        rfl
      · rw [if_neg hc]
        refine Ev.step (f := fun _ => some (cmpB (L x[i]) (L y[i]))) (fun k => ?_) (Ev.now _)
        simp only [slices_Compare_string_string.l0]
        rw [if_pos (by omega), if_pos (by omega), if_pos (by omega), if_neg (by omega), if_pos (by omega), cmp_texts, rdOf_get _ hlt, rdOf_get _ hy]
        simp only [Option.bind_some]
        rw [if_neg hc]
    · rw [List.drop_of_length_le (l := y) (by omega)]
      refine Ev.step (f := fun _ => some 1) (fun k => ?_) (Ev.now _)
      simp only [slices_Compare_string_string.l0]
      rw [if_pos (by omega), if_pos (by omega), if_pos (by omega), if_pos (by omega)]

/-- The order of two paths. -/
def cmpP (a b : ByteArray) : Int := cmpLL (elemsL (L a)) (elemsL (L b))

theorem elems_map (s : ByteArray) : (elems s).map L = elemsL (L s) := by rw [elems_list, L_map]

theorem paths_cmp (a b : ByteArray) (ha : a.size ≤ 1099511627776) (hb : b.size ≤ 1099511627776) : Ev (fun k => paths_Compare.f k a b) (cmpP a b) := by
  unfold paths_Compare.f
  simp only [elems_f a ha, elems_f b hb, Option.bind_some]
  have hl := elems_length a
  have h := slices_cmp_loop (elems a) (elems b) (by omega) (elems a).length 0 (Nat.zero_le _) (by omega) (Nat.zero_le _) (by omega)
  rw [List.drop_zero, List.drop_zero, elems_map, elems_map] at h
  exact Ev.bind (g := fun k => slices_Compare_string_string.f k (elems a) (elems b)) (f := fun _ t => some t) h (Ev.now _)

theorem ref_cmp_loop (x y : List ByteArray) (hx : x.length ≤ 1099511627777) (d : Nat) : ∀ (i : Nat), i ≤ x.length → x.length - i = d → i ≤ y.length →
    Ev (fun k => graftbedref01_Compare.l0 k x y (i : Int)) (cmpLL ((x.drop i).map L) ((y.drop i).map L)) := by
  induction d with
  | zero =>
    intro i h1 h2 h3
    obtain rfl : i = x.length := by omega
    rw [List.drop_length]
    refine Ev.step (f := fun k => graftbedref01_Compare.j1 k x y (x.length : Int) false) (fun k => ?_) ?_
    · simp only [graftbedref01_Compare.l0]; rw [if_neg (by omega)]
    refine Ev.step (f := fun _ => some (cmpLL [] ((y.drop x.length).map L))) (fun k => ?_) (Ev.now _)
    simp only [graftbedref01_Compare.j1, Bool.false_eq_true, if_false]
    by_cases h : (x.length : Int) < (y.length : Int)
    · rw [if_pos h, List.drop_eq_getElem_cons (by omega), List.map_cons]; rfl
    · rw [if_neg h, if_neg (by omega), List.drop_of_length_le (by omega)]; rfl
  | succ d ih =>
    intro i h1 h2 h3
    have hlt : i < x.length := by omega
    rw [List.drop_eq_getElem_cons hlt, List.map_cons]
    by_cases hy : i < y.length
    · rw [List.drop_eq_getElem_cons hy, List.map_cons, cmpLL]
      refine Ev.step (f := fun k => graftbedref01_Compare.j1 k x y (i : Int) true) (fun k => ?_) ?_
      · simp only [graftbedref01_Compare.l0]; rw [if_pos (by omega), decide_eq_true (by omega)]
      by_cases l1 : L x[i] < L y[i]
      · rw [if_pos l1]
        refine Ev.step (f := fun _ => some (-1)) (fun k => ?_) (Ev.now _)
        simp only [graftbedref01_Compare.j1, if_true]
        rw [if_pos (by omega), if_pos (by omega), if_pos (by omega), rdOf_get _ hlt, rdOf_get _ hy, toList_L, toList_L, if_pos ((less_iff _ _).2 l1)]
      · rw [if_neg l1]
        by_cases l2 : L y[i] < L x[i]
        · rw [if_pos l2]
          refine Ev.step (f := fun _ => some 1) (fun k => ?_) (Ev.now _)
          simp only [graftbedref01_Compare.j1, if_true]
          rw [if_pos (by omega), if_pos (by omega), if_pos (by omega), rdOf_get _ hlt, rdOf_get _ hy, toList_L, toList_L, if_neg (fun e => l1 ((less_iff _ _).1 e)), if_pos ((less_iff _ _).2 l2)]
        · rw [if_neg l2]
          refine Ev.step (f := fun k => graftbedref01_Compare.l0 k x y ((i + 1 : Nat) : Int)) (fun k => ?_) (ih (i + 1) (by omega) (by omega) (by omega))
          simp only [graftbedref01_Compare.j1, if_true]
          rw [if_pos (by omega), if_pos (by omega), if_pos (by omega), rdOf_get _ hlt, rdOf_get _ hy, toList_L, toList_L, if_neg (fun e => l1 ((less_iff _ _).1 e)), if_neg (fun e => l2 ((less_iff _ _).1 e)), w64 (by omega) (by omega)]
          rfl
    · rw [List.drop_of_length_le (l := y) (by omega)]
      refine Ev.step (f := fun k => graftbedref01_Compare.j1 k x y (i : Int) false) (fun k => ?_) ?_
      · simp only [graftbedref01_Compare.l0]; rw [if_pos (by omega), decide_eq_false (by omega)]
      refine Ev.step (f := fun _ => some 1) (fun k => ?_) (Ev.now _)
      simp only [graftbedref01_Compare.j1, Bool.false_eq_true, if_false]
      rw [if_neg (by omega), if_pos (by omega)]

theorem ref_cmp (a b : ByteArray) (ha : a.size ≤ 1099511627776) (hb : b.size ≤ 1099511627776) : Ev (fun k => graftbedref01_Compare.f k a b) (cmpP a b) := by
  have hl := elems_length a
  have h := ref_cmp_loop (elems a) (elems b) (by omega) (elems a).length 0 (Nat.zero_le _) (by omega) (Nat.zero_le _)
  rw [List.drop_zero, List.drop_zero, elems_map, elems_map] at h
  exact Ev.bind (g := fun k => graftbedref01_Elems.f k a) (f := fun k t => (graftbedref01_Elems.f k b).bind fun t2 => graftbedref01_Compare.l0 k t t2 0) (ref_elems a ha)
    (Ev.bind (g := fun k => graftbedref01_Elems.f k b) (f := fun k t2 => graftbedref01_Compare.l0 k (elems a) t2 0) (ref_elems b hb) h)

theorem cmpP_ab : cmpP ⟨#[97]⟩ ⟨#[97, 47, 98]⟩ = -1 := by decide +kernel

end Go.Proofs.Ythiecbkkbiejjaa.Pure
