-- by hprint.py (wip/): the kit's print over contracts proved by hand; a text of this session
import Derived.Test.YtjcopbgbmokfmaaPAllx0
import Derived.Test.YtjcopbgbmokfmaaPAllx4
namespace Go.Proofs.Ytjcopbgbmokfmaa.PAll
open Go.RowKit Go.Proofs.YtjcopbgbmokfmaaW.PrintWords Go.Proofs.YtjcopbgbmokfmaaW.PrintLast Go.Proofs.YtjcopbgbmokfmaaW.PrintMore
attribute [local go_sem] max2_int min2_int max_two min_two max_three min_three max_four min_four   -- for this text's walks alone
set_option linter.unusedVariables false
set_option linter.unusedSimpArgs false

/-! ### graftbedref15_Check: function 12 -/
def graftbedref15_Check.l0 : Nat → ByteArray → Option (Int)
  | 0, _ => none
  | k + 1, x0 => if x0.toList = ([] : List UInt8) then (some 0) else ((graftbedref15_piece.f k x0).bind fun t113 => (if t113 = 0 then (some 150) else (if 0 ≤ t113 then (if t113 ≤ (x0.size : Int) then (graftbedref15_Check.l0 k (x0.extract (t113 : Int).toNat x0.size)) else (none)) else (none))))
def graftbedref15_Check.f (k : Nat) (a0 : ByteArray) : Option (Int) := graftbedref15_Check.l0 k a0
theorem graftbedref15_Check.mono_l : ∀ k, (∀ y0, LeO (graftbedref15_Check.l0 k y0) (graftbedref15_Check.l0 (k + 1) y0))
  | 0 => fun _ r h => by simp [graftbedref15_Check.l0] at h
  | k + 1 => by
    have ih0 := graftbedref15_Check.mono_l k
    · intro y0
      unfold graftbedref15_Check.l0
      repeat' first
      | (with_reducible exact ih0 _)
      | (with_reducible exact graftbedref15_piece.mono _ _)
      | (with_reducible exact LeO.refl _)
      | (with_reducible exact LeO.none _)
      | (with_reducible refine LeO.ite ?_ ?_)
      | (with_reducible refine LeO.bind ?_ (fun _ => ?_))
      | exact ih0 _
      | exact graftbedref15_piece.mono _ _
      | exact LeO.none _
      | refine LeO.ite ?_ ?_
      | refine LeO.bind ?_ (fun _ => ?_)
theorem graftbedref15_Check.mono : ∀ a0 k, LeO (graftbedref15_Check.f k a0) (graftbedref15_Check.f (k + 1) a0) := by
  intro a0 k
  have ih0 := graftbedref15_Check.mono_l k
  unfold graftbedref15_Check.f
  repeat' first
      | (with_reducible exact ih0 _)
      | (with_reducible exact graftbedref15_piece.mono _ _)
      | (with_reducible exact LeO.refl _)
      | (with_reducible exact LeO.none _)
      | (with_reducible refine LeO.ite ?_ ?_)
      | (with_reducible refine LeO.bind ?_ (fun _ => ?_))
      | exact ih0 _
      | exact graftbedref15_piece.mono _ _
      | exact LeO.none _
      | refine LeO.ite ?_ ?_
      | refine LeO.bind ?_ (fun _ => ?_)
set_option maxHeartbeats 8000000 in
set_option maxRecDepth 100000 in
theorem graftbedref15_Check.calls (k : Nat) (a0 : ByteArray) (r : Int) (w : World) (h : graftbedref15_Check.f k a0 = some r) :
    Calls Try.prog 12 #[.string a0] w fun e w' => e = .returned (.int .i64 r) ∧ Drawn0 w w' := by
  have H : (graftbedref15_Check.l0 k a0) = some r := h
  clear h
  have H' := Aside0.mk H
  clear H
  go_enter Try.func12, Try.ntmps12
  go_wp2
  go_loopg [0] k (fun kq v0 w' => ∃ (x0_1 : ByteArray), v0 = .string x0_1 ∧ Aside0 (graftbedref15_Check.l0 kq x0_1 = some r) ∧ Aside0 (kq ≤ k) ∧ Drawn0 w w')
  case atStart => exact ⟨(a0), (by first | rfl | (simp; done) | (simp [*]; done)), H', ⟨Nat.le_refl _⟩, by repeat (first | exact Drawn0.refl _ | apply Drawn0.step)⟩
  case round =>
    clear H'
    try clear c1
    obtain ⟨x0_1, rfl, HA, HK1, ⟨m1, rfl⟩⟩ := hrel
    cases gk with
    | zero => exact absurd HA.out (by simp [graftbedref15_Check.l0])
    | succ k1 =>
      have H := HA.out
      clear HA
      simp only [graftbedref15_Check.l0] at H
      by_cases c2 : x0_1.toList = ([] : List UInt8)
      · rw [if_pos c2] at H
        have c2b0 : (x0_1.toList == ([] : List UInt8)) = true := beq_iff_eq.mpr c2
        have c2b1 : (x0_1.toList != ([] : List UInt8)) = false := bne_eq_false_iff_eq.mpr c2
        have c2b5 : x0_1.toList.isEmpty = true := by
          have e_ := c2b1
          revert e_
          cases x0_1.toList <;> simp
        clear c2
        obtain rfl := Option.some.inj H
        go_wp2
        go_ret
        exact ⟨by first | rfl | (simp; done) | (simp [*]; done) | (have ne_ : ∀ l : List UInt8, (l != []) = !l.isEmpty := (fun l => by cases l <;> rfl); simp [ne_]; done), by repeat (first | exact Drawn0.refl _ | apply Drawn0.step)⟩
      · rw [if_neg c2] at H
        have c2b0 : (x0_1.toList == ([] : List UInt8)) = false := beq_eq_false_iff_ne.mpr c2
        have c2b1 : (x0_1.toList != ([] : List UInt8)) = true := bne_iff_ne.mpr c2
        have c2b5 : x0_1.toList.isEmpty = false := by
          have e_ := c2b1
          revert e_
          cases x0_1.toList <;> simp
        replace H := Option.bind_eq_some_iff.mp H
        obtain ⟨t113, A30, H⟩ := H
        replace H : (if t113 = 0 then (some 150) else (if 0 ≤ t113 then (if t113 ≤ (x0_1.size : Int) then (graftbedref15_Check.l0 k1 (x0_1.extract (t113 : Int).toNat x0_1.size)) else (none)) else (none))) = some r := H
        have A3 := Aside0.mk A30
        clear A30
        by_cases c4 : t113 = 0
        · rw [if_pos c4] at H
          have c4b0 : (t113 == 0) = true := beq_iff_eq.mpr c4
          have c4b1 : (t113 != 0) = false := bne_eq_false_iff_eq.mpr c4
          clear c4
          obtain rfl := Option.some.inj H
          go_wp2_with (first | ((with_reducible refine gate_callee (f := 18) rfl ?_); refine goesL_ (some 7) rfl rfl Try.func18 (by kernel_rfl) rfl #[.string x0_1] rfl (by (try simp only [List.map_toArray, List.map_cons, List.map_nil]); first | done | rfl | (simp only [List.length_drop, List.length_take]; rfl) | (simp only [ByteArray.size_extract, Nat.min_self]; done)) ?_; (with_reducible refine (graftbedref15_piece.calls k1 x0_1 t113 _ A3.out).mono ?_); rintro e w' ⟨rfl, ⟨nd, rfl⟩⟩; refine ⟨_, rfl, ?_⟩))
          go_ret
          exact ⟨by first | rfl | (simp; done) | (simp [*]; done) | (have ne_ : ∀ l : List UInt8, (l != []) = !l.isEmpty := (fun l => by cases l <;> rfl); simp [ne_]; done), by repeat (first | exact Drawn0.refl _ | apply Drawn0.step)⟩
        · rw [if_neg c4] at H
          have c4b0 : (t113 == 0) = false := beq_eq_false_iff_ne.mpr c4
          have c4b1 : (t113 != 0) = true := bne_iff_ne.mpr c4
          by_cases c5 : 0 ≤ t113
          · rw [if_pos c5] at H
            have c5b0 := eq_true c5
            have c5b1 : decide (0 ≤ t113) = true := decide_eq_true c5
            clear c5
            by_cases c6 : t113 ≤ (x0_1.size : Int)
            · rw [if_pos c6] at H
              have c6b0 := eq_true c6
              have c6b1 : decide (t113 ≤ (x0_1.size : Int)) = true := decide_eq_true c6
              clear c6
              have H' := Aside0.mk H
              clear H
              go_wp2_with (first | ((with_reducible refine gate_callee (f := 18) rfl ?_); refine goesL_ (some 7) rfl rfl Try.func18 (by kernel_rfl) rfl #[.string x0_1] rfl (by (try simp only [List.map_toArray, List.map_cons, List.map_nil]); first | done | rfl | (simp only [List.length_drop, List.length_take]; rfl) | (simp only [ByteArray.size_extract, Nat.min_self]; done)) ?_; (with_reducible refine (graftbedref15_piece.calls k1 x0_1 t113 _ A3.out).mono ?_); rintro e w' ⟨rfl, ⟨nd, rfl⟩⟩; refine ⟨_, rfl, ?_⟩))
              go_roundg k1
              case measure => have := HK1.out; omega
              case rel => exact ⟨(x0_1.extract (t113 : Int).toNat x0_1.size), (by first | rfl | (simp; done) | (simp [*]; done)), H', ⟨by have := HK1.out; omega⟩, by repeat (first | exact Drawn0.refl _ | apply Drawn0.step)⟩
            · rw [if_neg c6] at H
              exact absurd H (by simp)
          · rw [if_neg c5] at H
            exact absurd H (by simp)

end Go.Proofs.Ytjcopbgbmokfmaa.PAll
