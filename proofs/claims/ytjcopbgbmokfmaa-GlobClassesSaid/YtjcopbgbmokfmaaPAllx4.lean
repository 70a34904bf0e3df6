-- by hprint.py (wip/): the kit's print over contracts proved by hand; a text of this session
import Derived.Test.YtjcopbgbmokfmaaPAllx0
import Derived.Test.YtjcopbgbmokfmaaPAllx3
namespace Go.Proofs.Ytjcopbgbmokfmaa.PAll
open Go.RowKit Go.Proofs.YtjcopbgbmokfmaaW.PrintWords Go.Proofs.YtjcopbgbmokfmaaW.PrintLast Go.Proofs.YtjcopbgbmokfmaaW.PrintMore
attribute [local go_sem] max2_int min2_int max_two min_two max_three min_three max_four min_four   -- for this text's walks alone
set_option linter.unusedVariables false
set_option linter.unusedSimpArgs false

/-! ### graftbedref15_piece: function 18 -/
mutual
def graftbedref15_piece.j0 : Nat → ByteArray → Int → Bool → Option (Int)
  | 0, _, _, _ => none
  | k + 1, x0, x3, x27 => if x27 = true then (graftbedref15_piece.j1 k x0 2) else (graftbedref15_piece.j1 k x0 x3)
def graftbedref15_piece.j1 : Nat → ByteArray → Int → Option (Int)
  | 0, _, _ => none
  | k + 1, x0, x3 => graftbedref15_piece.l0 k x0 x3 0
def graftbedref15_piece.l0 : Nat → ByteArray → Int → Int → Option (Int)
  | 0, _, _, _ => none
  | k + 1, x0, x3, x4 => if x3 < (x0.size : Int) then (if 0 ≤ x3 then (graftbedref15_piece.j3 k x0 x3 x4 ((bt x0 x3) != 93)) else (none)) else (graftbedref15_piece.j3 k x0 x3 x4 false)
def graftbedref15_piece.j3 : Nat → ByteArray → Int → Int → Bool → Option (Int)
  | 0, _, _, _, _ => none
  | k + 1, x0, x3, x4, x37 => if x37 = true then (if 0 ≤ x3 then (if x3 ≤ (x0.size : Int) then ((graftbedref15_one.f k (x0.extract (x3 : Int).toNat x0.size)).bind fun bt107 => (if bt107.2 = 0 then (some 0) else ((graftbedref15_one.f k (x0.extract (x3 : Int).toNat x0.size)).bind fun bt109 => (if (wrap64 (x3 + bt107.2)) < (x0.size : Int) then (if 0 ≤ (wrap64 (x3 + bt107.2)) then (graftbedref15_piece.j4 k x0 (wrap64 (x3 + bt107.2)) (wrap64 (x4 + 1)) bt109.1 ((bt x0 (wrap64 (x3 + bt107.2))) == 45)) else (none)) else (graftbedref15_piece.j4 k x0 (wrap64 (x3 + bt107.2)) (wrap64 (x4 + 1)) bt109.1 false))))) else (none)) else (none)) else (if x4 = 0 then (some 0) else (if x3 ≥ (x0.size : Int) then (some 0) else (some (wrap64 (x3 + 1)))))
def graftbedref15_piece.j4 : Nat → ByteArray → Int → Int → Int → Bool → Option (Int)
  | 0, _, _, _, _, _ => none
  | k + 1, x0, x3, x4, x7, x68 => if x68 = true then (if 0 ≤ (wrap64 (x3 + 1)) then (if (wrap64 (x3 + 1)) ≤ (x0.size : Int) then ((graftbedref15_one.f k (x0.extract ((wrap64 (x3 + 1)) : Int).toNat x0.size)).bind fun bt111 => (if bt111.2 = 0 then (some 0) else (if bt111.1 < x7 then (some 0) else (graftbedref15_piece.l0 k x0 (wrap64 ((wrap64 (x3 + 1)) + bt111.2)) x4)))) else (none)) else (none)) else (graftbedref15_piece.l0 k x0 x3 x4)
end
def graftbedref15_piece.f (k : Nat) (a0 : ByteArray) : Option (Int) := if 0 < (a0.size : Int) then (if (bt a0 0) = 92 then (if (a0.size : Int) > 1 then (some 2) else (some 0)) else (if (bt a0 0) = 91 then (if (a0.size : Int) > 1 then (if 1 < (a0.size : Int) then (graftbedref15_piece.j0 k a0 1 ((bt a0 1) == 94)) else (none)) else (graftbedref15_piece.j0 k a0 1 false)) else (some 1))) else (none)
theorem graftbedref15_piece.mono_l : ∀ k, (∀ y0 y1 y2, LeO (graftbedref15_piece.j0 k y0 y1 y2) (graftbedref15_piece.j0 (k + 1) y0 y1 y2)) ∧ (∀ y0 y1, LeO (graftbedref15_piece.j1 k y0 y1) (graftbedref15_piece.j1 (k + 1) y0 y1)) ∧ (∀ y0 y1 y2, LeO (graftbedref15_piece.l0 k y0 y1 y2) (graftbedref15_piece.l0 (k + 1) y0 y1 y2)) ∧ (∀ y0 y1 y2 y3, LeO (graftbedref15_piece.j3 k y0 y1 y2 y3) (graftbedref15_piece.j3 (k + 1) y0 y1 y2 y3)) ∧ (∀ y0 y1 y2 y3 y4, LeO (graftbedref15_piece.j4 k y0 y1 y2 y3 y4) (graftbedref15_piece.j4 (k + 1) y0 y1 y2 y3 y4))
  | 0 => ⟨fun _ _ _ r h => by simp [graftbedref15_piece.j0] at h, fun _ _ r h => by simp [graftbedref15_piece.j1] at h, fun _ _ _ r h => by simp [graftbedref15_piece.l0] at h, fun _ _ _ _ r h => by simp [graftbedref15_piece.j3] at h, fun _ _ _ _ _ r h => by simp [graftbedref15_piece.j4] at h⟩
  | k + 1 => by
    obtain ⟨ih0, ih1, ih2, ih3, ih4⟩ := graftbedref15_piece.mono_l k
    refine ⟨?_, ?_, ?_, ?_, ?_⟩
    · intro y0 y1 y2
      unfold graftbedref15_piece.j0
      repeat' first
      | (with_reducible exact ih0 _ _ _)
      | (with_reducible exact ih1 _ _)
      | (with_reducible exact ih2 _ _ _)
      | (with_reducible exact ih3 _ _ _ _)
      | (with_reducible exact ih4 _ _ _ _ _)
      | (with_reducible exact graftbedref15_one.mono _ _)
      | (with_reducible exact LeO.refl _)
      | (with_reducible exact LeO.none _)
      | (with_reducible refine LeO.ite ?_ ?_)
      | (with_reducible refine LeO.bind ?_ (fun _ => ?_))
      | exact ih0 _ _ _
      | exact ih1 _ _
      | exact ih2 _ _ _
      | exact ih3 _ _ _ _
      | exact ih4 _ _ _ _ _
      | exact graftbedref15_one.mono _ _
      | exact LeO.none _
      | refine LeO.ite ?_ ?_
      | refine LeO.bind ?_ (fun _ => ?_)
    · intro y0 y1
      unfold graftbedref15_piece.j1
      repeat' first
      | (with_reducible exact ih0 _ _ _)
      | (with_reducible exact ih1 _ _)
      | (with_reducible exact ih2 _ _ _)
      | (with_reducible exact ih3 _ _ _ _)
      | (with_reducible exact ih4 _ _ _ _ _)
      | (with_reducible exact graftbedref15_one.mono _ _)
      | (with_reducible exact LeO.refl _)
      | (with_reducible exact LeO.none _)
      | (with_reducible refine LeO.ite ?_ ?_)
      | (with_reducible refine LeO.bind ?_ (fun _ => ?_))
      | exact ih0 _ _ _
      | exact ih1 _ _
      | exact ih2 _ _ _
      | exact ih3 _ _ _ _
      | exact ih4 _ _ _ _ _
      | exact graftbedref15_one.mono _ _
      | exact LeO.none _
      | refine LeO.ite ?_ ?_
      | refine LeO.bind ?_ (fun _ => ?_)
    · intro y0 y1 y2
      unfold graftbedref15_piece.l0
      repeat' first
      | (with_reducible exact ih0 _ _ _)
      | (with_reducible exact ih1 _ _)
      | (with_reducible exact ih2 _ _ _)
      | (with_reducible exact ih3 _ _ _ _)
      | (with_reducible exact ih4 _ _ _ _ _)
      | (with_reducible exact graftbedref15_one.mono _ _)
      | (with_reducible exact LeO.refl _)
      | (with_reducible exact LeO.none _)
      | (with_reducible refine LeO.ite ?_ ?_)
      | (with_reducible refine LeO.bind ?_ (fun _ => ?_))
      | exact ih0 _ _ _
      | exact ih1 _ _
      | exact ih2 _ _ _
      | exact ih3 _ _ _ _
      | exact ih4 _ _ _ _ _
      | exact graftbedref15_one.mono _ _
      | exact LeO.none _
      | refine LeO.ite ?_ ?_
      | refine LeO.bind ?_ (fun _ => ?_)
    · intro y0 y1 y2 y3
      unfold graftbedref15_piece.j3
      repeat' first
      | (with_reducible exact ih0 _ _ _)
      | (with_reducible exact ih1 _ _)
      | (with_reducible exact ih2 _ _ _)
      | (with_reducible exact ih3 _ _ _ _)
      | (with_reducible exact ih4 _ _ _ _ _)
      | (with_reducible exact graftbedref15_one.mono _ _)
      | (with_reducible exact LeO.refl _)
      | (with_reducible exact LeO.none _)
      | (with_reducible refine LeO.ite ?_ ?_)
      | (with_reducible refine LeO.bind ?_ (fun _ => ?_))
      | exact ih0 _ _ _
      | exact ih1 _ _
      | exact ih2 _ _ _
      | exact ih3 _ _ _ _
      | exact ih4 _ _ _ _ _
      | exact graftbedref15_one.mono _ _
      | exact LeO.none _
      | refine LeO.ite ?_ ?_
      | refine LeO.bind ?_ (fun _ => ?_)
    · intro y0 y1 y2 y3 y4
      unfold graftbedref15_piece.j4
      repeat' first
      | (with_reducible exact ih0 _ _ _)
      | (with_reducible exact ih1 _ _)
      | (with_reducible exact ih2 _ _ _)
      | (with_reducible exact ih3 _ _ _ _)
      | (with_reducible exact ih4 _ _ _ _ _)
      | (with_reducible exact graftbedref15_one.mono _ _)
      | (with_reducible exact LeO.refl _)
      | (with_reducible exact LeO.none _)
      | (with_reducible refine LeO.ite ?_ ?_)
      | (with_reducible refine LeO.bind ?_ (fun _ => ?_))
      | exact ih0 _ _ _
      | exact ih1 _ _
      | exact ih2 _ _ _
      | exact ih3 _ _ _ _
      | exact ih4 _ _ _ _ _
      | exact graftbedref15_one.mono _ _
      | exact LeO.none _
      | refine LeO.ite ?_ ?_
      | refine LeO.bind ?_ (fun _ => ?_)
theorem graftbedref15_piece.mono : ∀ a0 k, LeO (graftbedref15_piece.f k a0) (graftbedref15_piece.f (k + 1) a0) := by
  intro a0 k
  obtain ⟨ih0, ih1, ih2, ih3, ih4⟩ := graftbedref15_piece.mono_l k
  unfold graftbedref15_piece.f
  repeat' first
      | (with_reducible exact ih0 _ _ _)
      | (with_reducible exact ih1 _ _)
      | (with_reducible exact ih2 _ _ _)
      | (with_reducible exact ih3 _ _ _ _)
      | (with_reducible exact ih4 _ _ _ _ _)
      | (with_reducible exact graftbedref15_one.mono _ _)
      | (with_reducible exact LeO.refl _)
      | (with_reducible exact LeO.none _)
      | (with_reducible refine LeO.ite ?_ ?_)
      | (with_reducible refine LeO.bind ?_ (fun _ => ?_))
      | exact ih0 _ _ _
      | exact ih1 _ _
      | exact ih2 _ _ _
      | exact ih3 _ _ _ _
      | exact ih4 _ _ _ _ _
      | exact graftbedref15_one.mono _ _
      | exact LeO.none _
      | refine LeO.ite ?_ ?_
      | refine LeO.bind ?_ (fun _ => ?_)
set_option maxHeartbeats 8000000 in
set_option maxRecDepth 100000 in
theorem graftbedref15_piece.calls (k : Nat) (a0 : ByteArray) (r : Int) (w : World) (h : graftbedref15_piece.f k a0 = some r) :
    Calls Try.prog 18 #[.string a0] w fun e w' => e = .returned (.int .i64 r) ∧ Drawn0 w w' := by
  have H : (if 0 < (a0.size : Int) then (if (bt a0 0) = 92 then (if (a0.size : Int) > 1 then (some 2) else (some 0)) else (if (bt a0 0) = 91 then (if (a0.size : Int) > 1 then (if 1 < (a0.size : Int) then (graftbedref15_piece.j0 k a0 1 ((bt a0 1) == 94)) else (none)) else (graftbedref15_piece.j0 k a0 1 false)) else (some 1))) else (none)) = some r := h
  clear h
  by_cases c2 : 0 < (a0.size : Int)
  · rw [if_pos c2] at H
    have c2b0 : decide (0 < (a0.size : Int)) = true := decide_eq_true c2
    have c2b1 : decide (0 < a0.size) = true := decide_eq_true (by omega)
    clear c2
    by_cases c4 : (bt a0 0) = 92
    · rw [if_pos c4] at H
      have c4b0 : ((bt a0 0) == 92) = true := beq_iff_eq.mpr c4
      have c4b1 : ((bt a0 0) != 92) = false := bne_eq_false_iff_eq.mpr c4
      clear c4
      by_cases c5 : (a0.size : Int) > 1
      · rw [if_pos c5] at H
        have c5b0 : decide (1 < (a0.size : Int)) = true := decide_eq_true c5
        have c5b1 : decide (1 < a0.size) = true := decide_eq_true (by omega)
        clear c5
        obtain rfl := Option.some.inj H
        have p3 : 0 ≤ (0 : Int) := (by omega)
        have q3 : 0 < a0.size := (by have : (0 : Int) < (a0.size : Int) := of_decide_eq_true (by first | (with_reducible assumption) | assumption); omega)
        have hx3 : ∀ h : 0 < a0.size, ((a0[0]'h).toNat : Int) = bt a0 0 := bt_at a0 0
        clear p3
        have qi3 : (0 < (a0.size : Int)) = True := eq_true (of_decide_eq_true (by first | (with_reducible assumption) | assumption))
        replace q3 := eq_true q3
        go_enter Try.func18, Try.ntmps18
        go_wp2
        go_ret
        exact ⟨by first | rfl | (simp; done) | (simp [*]; done) | (have ne_ : ∀ l : List UInt8, (l != []) = !l.isEmpty := (fun l => by cases l <;> rfl); simp [ne_]; done), by repeat (first | exact Drawn0.refl _ | apply Drawn0.step)⟩
      · rw [if_neg c5] at H
        have c5b0 : decide (1 < (a0.size : Int)) = false := decide_eq_false c5
        have c5b1 : decide (1 < a0.size) = false := decide_eq_false (by omega)
        clear c5
        obtain rfl := Option.some.inj H
        have p3 : 0 ≤ (0 : Int) := (by omega)
        have q3 : 0 < a0.size := (by have : (0 : Int) < (a0.size : Int) := of_decide_eq_true (by first | (with_reducible assumption) | assumption); omega)
        have hx3 : ∀ h : 0 < a0.size, ((a0[0]'h).toNat : Int) = bt a0 0 := bt_at a0 0
        clear p3
        have qi3 : (0 < (a0.size : Int)) = True := eq_true (of_decide_eq_true (by first | (with_reducible assumption) | assumption))
        replace q3 := eq_true q3
        go_enter Try.func18, Try.ntmps18
        go_wp2
        go_ret
        exact ⟨by first | rfl | (simp; done) | (simp [*]; done) | (have ne_ : ∀ l : List UInt8, (l != []) = !l.isEmpty := (fun l => by cases l <;> rfl); simp [ne_]; done), by repeat (first | exact Drawn0.refl _ | apply Drawn0.step)⟩
    · rw [if_neg c4] at H
      have c4b0 : ((bt a0 0) == 92) = false := beq_eq_false_iff_ne.mpr c4
      have c4b1 : ((bt a0 0) != 92) = true := bne_iff_ne.mpr c4
      by_cases c6 : (bt a0 0) = 91
      · rw [if_pos c6] at H
        have c6b0 : ((bt a0 0) == 91) = true := beq_iff_eq.mpr c6
        have c6b1 : ((bt a0 0) != 91) = false := bne_eq_false_iff_eq.mpr c6
        clear c6
        have HC7 := Aside0.mk H
        clear H
        have p3 : 0 ≤ (0 : Int) := (by omega)
        have q3 : 0 < a0.size := (by have : (0 : Int) < (a0.size : Int) := of_decide_eq_true (by first | (with_reducible assumption) | assumption); omega)
        have hx3 : ∀ h : 0 < a0.size, ((a0[0]'h).toNat : Int) = bt a0 0 := bt_at a0 0
        clear p3
        have qi3 : (0 < (a0.size : Int)) = True := eq_true (of_decide_eq_true (by first | (with_reducible assumption) | assumption))
        replace q3 := eq_true q3
        go_enter Try.func18, Try.ntmps18
        go_upto_region 8 with (fail)
        go_cut [27] (fun v27 wc => ∃ (kq : Nat) (x27_6 : Bool), v27 = .bool x27_6 ∧ Aside0 (graftbedref15_piece.j0 kq a0 1 x27_6 = some r) ∧ Aside0 (kq ≤ k) ∧ Drawn0 w wc)
        case first =>
          have H := HC7.out
          clear HC7
          by_cases c8 : (a0.size : Int) > 1
          · rw [if_pos c8] at H
            have c8b0 : decide (1 < (a0.size : Int)) = true := decide_eq_true c8
            have c8b1 : decide (1 < a0.size) = true := decide_eq_true (by omega)
            clear c8
            (first | rw [c8b0] | (simp only [i64_w, i32_w]; rw [c8b0]) | skip)
            by_cases c9 : 1 < (a0.size : Int)
            · rw [if_pos c9] at H
              have c9b0 : decide (1 < (a0.size : Int)) = true := decide_eq_true c9
              have c9b1 : decide (1 < a0.size) = true := decide_eq_true (by omega)
              clear c9
              have H' := Aside0.mk H
              clear H
              have p10 : 0 ≤ (1 : Int) := (by omega)
              have q10 : 1 < a0.size := (by have : (1 : Int) < (a0.size : Int) := of_decide_eq_true (by first | (with_reducible assumption) | assumption); omega)
              have hx10 : ∀ h : 1 < a0.size, ((a0[1]'h).toNat : Int) = bt a0 1 := bt_at a0 1
              clear p10
              have qi10 : (1 < (a0.size : Int)) = True := eq_true (of_decide_eq_true (by first | (with_reducible assumption) | assumption))
              replace q10 := eq_true q10
              go_wp2
              go_meet
              case rel => exact ⟨_, (((bt a0 1) == 94)), (by first | rfl | (simp; done) | (simp [*]; done)), H', ⟨by first | omega | exact Nat.le_refl _⟩, by repeat (first | exact Drawn0.refl _ | apply Drawn0.step)⟩
            · rw [if_neg c9] at H
              exact absurd H (by simp)
          · rw [if_neg c8] at H
            have c8b0 : decide (1 < (a0.size : Int)) = false := decide_eq_false c8
            have c8b1 : decide (1 < a0.size) = false := decide_eq_false (by omega)
            clear c8
            (first | rw [c8b0] | (simp only [i64_w, i32_w]; rw [c8b0]) | skip)
            have H' := Aside0.mk H
            clear H
            go_wp2
            go_meet
            case rel => exact ⟨_, (false), (by first | rfl | (simp; done) | (simp [*]; done)), H', ⟨by first | omega | exact Nat.le_refl _⟩, by repeat (first | exact Drawn0.refl _ | apply Drawn0.step)⟩
        case rest =>
          clear HC7
          try clear c1
          try clear p1
          try clear q1
          try clear hx1
          try clear qi1
          try clear c2
          try clear c2b0
          try clear c2b1
          try clear p2
          try clear p3
          try clear q3
          try clear hx3
          try clear qi3
          try clear c4
          try clear c4b0
          try clear c4b1
          try clear c5
          try clear c5b0
          try clear c5b1
          try clear c6
          try clear c6b0
          try clear c6b1
          try clear c8
          try clear c8b0
          try clear c8b1
          try clear c9
          try clear c9b0
          try clear c9b1
          try clear p10
          try clear q10
          try clear hx10
          try clear qi10
          try clear p10
          try clear p3
          try clear q10
          try clear q3
          obtain ⟨kq, x27_6, rfl, HA, HJ6, ⟨mc6, rfl⟩⟩ := hcut
          cases kq with
          | zero => exact absurd HA.out (by simp [graftbedref15_piece.j0])
          | succ kj6 =>
            have H := HA.out
            clear HA
            simp only [graftbedref15_piece.j0] at H
            have HC11 := Aside0.mk H
            clear H
            go_upto_if 27 with (fail)
            go_cut [3] (fun v3 wc => ∃ (kq : Nat) (x3_10 : Int), v3 = .int .i64 x3_10 ∧ Aside0 (graftbedref15_piece.j1 kq a0 x3_10 = some r) ∧ Aside0 (kq ≤ kj6) ∧ Drawn0 w wc)
            case first =>
              have H := HC11.out
              clear HC11
              by_cases c12 : x27_6 = true
              · subst c12
                have H1 : (graftbedref15_piece.j1 kj6 a0 2) = some r := by rw [if_pos rfl] at H; exact H
                clear H
                have H := H1
                clear H1
                have H' := Aside0.mk H
                clear H
                go_wp2
                go_meet
                case rel => exact ⟨_, (2), (by first | rfl | (simp; done) | (simp [*]; done)), H', ⟨by have := HJ6.out; first | omega | exact Nat.le_refl _⟩, by repeat (first | exact Drawn0.refl _ | apply Drawn0.step)⟩
              · replace c12 := Bool.eq_false_iff.mpr c12
                subst c12
                have H1 : (graftbedref15_piece.j1 kj6 a0 1) = some r := by rw [if_neg (show ¬ (false = true) by decide)] at H; exact H
                clear H
                have H := H1
                clear H1
                have H' := Aside0.mk H
                clear H
                go_wp2
                go_meet
                case rel => exact ⟨_, (1), (by first | rfl | (simp; done) | (simp [*]; done)), H', ⟨by have := HJ6.out; first | omega | exact Nat.le_refl _⟩, by repeat (first | exact Drawn0.refl _ | apply Drawn0.step)⟩
            case rest =>
              clear HC11
              try clear c1
              try clear p1
              try clear q1
              try clear hx1
              try clear qi1
              try clear c2
              try clear c2b0
              try clear c2b1
              try clear p2
              try clear p3
              try clear q3
              try clear hx3
              try clear qi3
              try clear c4
              try clear c4b0
              try clear c4b1
              try clear c5
              try clear c5b0
              try clear c5b1
              try clear c6
              try clear c6b0
              try clear c6b1
              try clear c8
              try clear c8b0
              try clear c8b1
              try clear c9
              try clear c9b0
              try clear c9b1
              try clear p10
              try clear q10
              try clear hx10
              try clear qi10
              try clear c12
              try clear p1
              try clear p10
              try clear p2
              try clear p3
              try clear q1
              try clear q10
              try clear q3
              obtain ⟨kq, x3_10, rfl, HA, HJ10, ⟨mc10, rfl⟩⟩ := hcut
              cases kq with
              | zero => exact absurd HA.out (by simp [graftbedref15_piece.j1])
              | succ kj10 =>
                have H := HA.out
                clear HA
                simp only [graftbedref15_piece.j1] at H
                have H' := Aside0.mk H
                clear H
                go_wp2
                go_loopg [3, 4] kj10 (fun kq v3 v4 w' => ∃ (x3_3 : Int) (x4_3 : Int), v3 = .int .i64 x3_3 ∧ v4 = .int .i64 x4_3 ∧ Aside0 (graftbedref15_piece.l0 kq a0 x3_3 x4_3 = some r) ∧ Aside0 (kq ≤ kj10) ∧ Drawn0 w w')
                case atStart => exact ⟨(x3_10), (0), (by first | rfl | (simp; done) | (simp [*]; done)), (by first | rfl | (simp; done) | (simp [*]; done)), H', ⟨Nat.le_refl _⟩, by repeat (first | exact Drawn0.refl _ | apply Drawn0.step)⟩
                case round =>
                  clear H'
                  try clear c1
                  try clear p1
                  try clear q1
                  try clear hx1
                  try clear qi1
                  try clear c2
                  try clear c2b0
                  try clear c2b1
                  try clear p2
                  try clear p3
                  try clear q3
                  try clear hx3
                  try clear qi3
                  try clear c4
                  try clear c4b0
                  try clear c4b1
                  try clear c5
                  try clear c5b0
                  try clear c5b1
                  try clear c6
                  try clear c6b0
                  try clear c6b1
                  try clear c8
                  try clear c8b0
                  try clear c8b1
                  try clear c9
                  try clear c9b0
                  try clear c9b1
                  try clear c10
                  try clear p10
                  try clear q10
                  try clear hx10
                  try clear qi10
                  try clear c12
                  try clear p1
                  try clear p10
                  try clear p2
                  try clear p3
                  try clear q1
                  try clear q10
                  try clear q3
                  obtain ⟨x3_3, x4_3, rfl, rfl, HA, HK3, ⟨m3, rfl⟩⟩ := hrel
                  cases gk with
                  | zero => exact absurd HA.out (by simp [graftbedref15_piece.l0])
                  | succ k3 =>
                    have H := HA.out
                    clear HA
                    simp only [graftbedref15_piece.l0] at H
                    have HC13 := Aside0.mk H
                    clear H
                    go_upto_region 11 with (fail)
                    go_cut [37] (fun v37 wc => ∃ (kq : Nat) (x37_12 : Bool), v37 = .bool x37_12 ∧ Aside0 (graftbedref15_piece.j3 kq a0 x3_3 x4_3 x37_12 = some r) ∧ Aside0 (kq ≤ k3) ∧ Drawn0 w wc)
                    case first =>
                      have H := HC13.out
                      clear HC13
                      by_cases c14 : x3_3 < (a0.size : Int)
                      · rw [if_pos c14] at H
                        have c14b0 : decide (x3_3 < (a0.size : Int)) = true := decide_eq_true c14
                        clear c14
                        (first | rw [c14b0] | (simp only [i64_w, i32_w]; rw [c14b0]) | skip)
                        by_cases c15 : 0 ≤ x3_3
                        · rw [if_pos c15] at H
                          have c15b0 : decide (0 ≤ x3_3) = true := decide_eq_true c15
                          clear c15
                          have H' := Aside0.mk H
                          clear H
                          have p16 : 0 ≤ (x3_3 : Int) := of_decide_eq_true (by first | (with_reducible assumption) | assumption)
                          have q16 : x3_3 < (a0.size : Int) := of_decide_eq_true (by first | (with_reducible assumption) | assumption)
                          have hx16 := bt_at a0 x3_3
                          replace p16 := eq_true p16
                          replace q16 := eq_true q16
                          go_wp2
                          go_meet
                          case rel => exact ⟨_, (((bt a0 x3_3) != 93)), (by first | rfl | (simp; done) | (simp [*]; done)), H', ⟨by have := HJ6.out; have := HJ10.out; have := HK3.out; first | omega | exact Nat.le_refl _⟩, by repeat (first | exact Drawn0.refl _ | apply Drawn0.step)⟩
                        · rw [if_neg c15] at H
                          exact absurd H (by simp)
                      · rw [if_neg c14] at H
                        have c14b0 : decide (x3_3 < (a0.size : Int)) = false := decide_eq_false c14
                        clear c14
                        (first | rw [c14b0] | (simp only [i64_w, i32_w]; rw [c14b0]) | skip)
                        have H' := Aside0.mk H
                        clear H
                        go_wp2
                        go_meet
                        case rel => exact ⟨_, (false), (by first | rfl | (simp; done) | (simp [*]; done)), H', ⟨by have := HJ6.out; have := HJ10.out; have := HK3.out; first | omega | exact Nat.le_refl _⟩, by repeat (first | exact Drawn0.refl _ | apply Drawn0.step)⟩
                    case rest =>
                      clear HC13
                      try clear c1
                      try clear p1
                      try clear q1
                      try clear hx1
                      try clear qi1
                      try clear c2
                      try clear c2b0
                      try clear c2b1
                      try clear p2
                      try clear p3
                      try clear q3
                      try clear hx3
                      try clear qi3
                      try clear c4
                      try clear c4b0
                      try clear c4b1
                      try clear c5
                      try clear c5b0
                      try clear c5b1
                      try clear c6
                      try clear c6b0
                      try clear c6b1
                      try clear c8
                      try clear c8b0
                      try clear c8b1
                      try clear c9
                      try clear c9b0
                      try clear c9b1
                      try clear c10
                      try clear p10
                      try clear q10
                      try clear hx10
                      try clear qi10
                      try clear c12
                      try clear c14
                      try clear c14b0
                      try clear c15
                      try clear c15b0
                      try clear p16
                      try clear q16
                      try clear hx16
                      try clear p1
                      try clear p10
                      try clear p16
                      try clear p2
                      try clear p3
                      try clear q1
                      try clear q10
                      try clear q16
                      try clear q3
                      obtain ⟨kq, x37_12, rfl, HA, HJ12, ⟨mc12, rfl⟩⟩ := hcut
                      cases kq with
                      | zero => exact absurd HA.out (by simp [graftbedref15_piece.j3])
                      | succ kj12 =>
                        have H := HA.out
                        clear HA
                        simp only [graftbedref15_piece.j3] at H
                        by_cases c17 : x37_12 = true
                        · subst c17
                          have H1 : (if 0 ≤ x3_3 then (if x3_3 ≤ (a0.size : Int) then ((graftbedref15_one.f kj12 (a0.extract (x3_3 : Int).toNat a0.size)).bind fun bt107 => (if bt107.2 = 0 then (some 0) else ((graftbedref15_one.f kj12 (a0.extract (x3_3 : Int).toNat a0.size)).bind fun bt109 => (if (wrap64 (x3_3 + bt107.2)) < (a0.size : Int) then (if 0 ≤ (wrap64 (x3_3 + bt107.2)) then (graftbedref15_piece.j4 kj12 a0 (wrap64 (x3_3 + bt107.2)) (wrap64 (x4_3 + 1)) bt109.1 ((bt a0 (wrap64 (x3_3 + bt107.2))) == 45)) else (none)) else (graftbedref15_piece.j4 kj12 a0 (wrap64 (x3_3 + bt107.2)) (wrap64 (x4_3 + 1)) bt109.1 false))))) else (none)) else (none)) = some r := by rw [if_pos rfl] at H; exact H
                          clear H
                          have H := H1
                          clear H1
                          by_cases c18 : 0 ≤ x3_3
                          · rw [if_pos c18] at H
                            have c18b0 := eq_true c18
                            have c18b1 : decide (0 ≤ x3_3) = true := decide_eq_true c18
                            clear c18
                            by_cases c19 : x3_3 ≤ (a0.size : Int)
                            · rw [if_pos c19] at H
                              have c19b0 := eq_true c19
                              have c19b1 : decide (x3_3 ≤ (a0.size : Int)) = true := decide_eq_true c19
                              clear c19
                              replace H := Option.bind_eq_some_iff.mp H
                              obtain ⟨⟨t107, t108⟩, A200, H⟩ := H
                              replace H : (if t108 = 0 then (some 0) else ((graftbedref15_one.f kj12 (a0.extract (x3_3 : Int).toNat a0.size)).bind fun bt109 => (if (wrap64 (x3_3 + t108)) < (a0.size : Int) then (if 0 ≤ (wrap64 (x3_3 + t108)) then (graftbedref15_piece.j4 kj12 a0 (wrap64 (x3_3 + t108)) (wrap64 (x4_3 + 1)) bt109.1 ((bt a0 (wrap64 (x3_3 + t108))) == 45)) else (none)) else (graftbedref15_piece.j4 kj12 a0 (wrap64 (x3_3 + t108)) (wrap64 (x4_3 + 1)) bt109.1 false)))) = some r := H
                              have A20 := Aside0.mk A200
                              clear A200
                              by_cases c21 : t108 = 0
                              · rw [if_pos c21] at H
                                have c21b0 : (t108 == 0) = true := beq_iff_eq.mpr c21
                                have c21b1 : (t108 != 0) = false := bne_eq_false_iff_eq.mpr c21
                                clear c21
                                obtain rfl := Option.some.inj H
                                go_wp2_with (first | ((with_reducible refine gate_callee (f := 27) rfl ?_); refine goesL_ (some 42) rfl rfl Try.func27 (by kernel_rfl) rfl #[.string (a0.extract (x3_3 : Int).toNat a0.size)] rfl (by (try simp only [List.map_toArray, List.map_cons, List.map_nil]); first | done | rfl | (simp only [List.length_drop, List.length_take]; rfl) | (simp only [ByteArray.size_extract, Nat.min_self]; done)) ?_; (with_reducible refine (graftbedref15_one.calls kj12 (a0.extract (x3_3 : Int).toNat a0.size) t107 t108 _ A20.out).mono ?_); rintro e w' ⟨rfl, ⟨nd, rfl⟩⟩; refine ⟨_, rfl, ?_⟩))
                                go_ret
                                exact ⟨by first | rfl | (simp; done) | (simp [*]; done) | (have ne_ : ∀ l : List UInt8, (l != []) = !l.isEmpty := (fun l => by cases l <;> rfl); simp [ne_]; done), by repeat (first | exact Drawn0.refl _ | apply Drawn0.step)⟩
                              · rw [if_neg c21] at H
                                have c21b0 : (t108 == 0) = false := beq_eq_false_iff_ne.mpr c21
                                have c21b1 : (t108 != 0) = true := bne_iff_ne.mpr c21
                                have c22b0 := eq_true (of_decide_eq_true (by first | (with_reducible assumption) | assumption) : 0 ≤ x3_3)
                                have c23b0 := eq_true (of_decide_eq_true (by first | (with_reducible assumption) | assumption) : x3_3 ≤ (a0.size : Int))
                                replace H := Option.bind_eq_some_iff.mp H
                                obtain ⟨⟨t109, t110⟩, A240, H⟩ := H
                                replace H : (if (wrap64 (x3_3 + t108)) < (a0.size : Int) then (if 0 ≤ (wrap64 (x3_3 + t108)) then (graftbedref15_piece.j4 kj12 a0 (wrap64 (x3_3 + t108)) (wrap64 (x4_3 + 1)) t109 ((bt a0 (wrap64 (x3_3 + t108))) == 45)) else (none)) else (graftbedref15_piece.j4 kj12 a0 (wrap64 (x3_3 + t108)) (wrap64 (x4_3 + 1)) t109 false)) = some r := H
                                have A24 := Aside0.mk A240
                                clear A240
                                have HC25 := Aside0.mk H
                                clear H
                                go_upto_region 18 with (first | ((with_reducible refine gate_callee (f := 27) rfl ?_); refine goesL_ (some 42) rfl rfl Try.func27 (by kernel_rfl) rfl #[.string (a0.extract (x3_3 : Int).toNat a0.size)] rfl (by (try simp only [List.map_toArray, List.map_cons, List.map_nil]); first | done | rfl | (simp only [List.length_drop, List.length_take]; rfl) | (simp only [ByteArray.size_extract, Nat.min_self]; done)) ?_; (with_reducible refine (graftbedref15_one.calls kj12 (a0.extract (x3_3 : Int).toNat a0.size) t107 t108 _ A20.out).mono ?_); rintro e w' ⟨rfl, ⟨nd, rfl⟩⟩; refine ⟨_, rfl, ?_⟩) | ((with_reducible refine gate_callee (f := 27) rfl ?_); refine goesL_ (some 51) rfl rfl Try.func27 (by kernel_rfl) rfl #[.string (a0.extract (x3_3 : Int).toNat a0.size)] rfl (by (try simp only [List.map_toArray, List.map_cons, List.map_nil]); first | done | rfl | (simp only [List.length_drop, List.length_take]; rfl) | (simp only [ByteArray.size_extract, Nat.min_self]; done)) ?_; (with_reducible refine (graftbedref15_one.calls kj12 (a0.extract (x3_3 : Int).toNat a0.size) t109 t110 _ A24.out).mono ?_); rintro e w' ⟨rfl, ⟨nd, rfl⟩⟩; refine ⟨_, rfl, ?_⟩))
                                (try simp only [Act.put, List.setIfInBounds_toArray, List.set_cons_zero, List.set_cons_succ])
                                go_cut [68] (fun v68 wc => ∃ (kq : Nat) (x68_24 : Bool), v68 = .bool x68_24 ∧ Aside0 (graftbedref15_piece.j4 kq a0 (wrap64 (x3_3 + t108)) (wrap64 (x4_3 + 1)) t109 x68_24 = some r) ∧ Aside0 (kq ≤ kj12) ∧ Drawn0 w wc)
                                case first =>
                                  have H := HC25.out
                                  clear HC25
                                  by_cases c26 : (wrap64 (x3_3 + t108)) < (a0.size : Int)
                                  · rw [if_pos c26] at H
                                    have c26b0 : decide ((wrap64 (x3_3 + t108)) < (a0.size : Int)) = true := decide_eq_true c26
                                    clear c26
                                    (first | rw [c26b0] | (simp only [i64_w, i32_w]; rw [c26b0]) | skip)
                                    obtain ⟨ji27, hji27⟩ : ∃ j_ : Int, (wrap64 (x3_3 + t108)) = j_ := ⟨_, rfl⟩
                                    replace H : (if 0 ≤ (ji27) then (graftbedref15_piece.j4 kj12 a0 ji27 (wrap64 (x4_3 + 1)) t109 ((bt a0 (ji27)) == 45)) else (none)) = some r := by first | (rw [hji27] at H; exact H) | (simp only [hji27] at H ⊢; exact H)
                                    (try rw [hji27] at c26b0)
                                    have hji27w : (IntKind.i64.wrap (x3_3 + t108)) = ji27 := (i64_w _).trans hji27
                                    by_cases c28 : 0 ≤ (ji27)
                                    · rw [if_pos c28] at H
                                      have c28b0 : decide (0 ≤ (ji27)) = true := decide_eq_true c28
                                      clear c28
                                      have H' := Aside0.mk H
                                      clear H
                                      have p29 : 0 ≤ ((ji27) : Int) := of_decide_eq_true (by first | (with_reducible assumption) | assumption)
                                      have q29 : (ji27) < (a0.size : Int) := of_decide_eq_true (by first | (with_reducible assumption) | assumption)
                                      have hx29 := bt_at a0 (ji27)
                                      replace p29 := eq_true p29
                                      replace q29 := eq_true q29
                                      go_wp2
                                      go_meet
                                      case rel => exact ⟨_, (((bt a0 (ji27)) == 45)), (by first | rfl | (simp; done) | (simp only [← hji27] <;> (first | rfl | simp)) | (simp [*]; done)), (by first | exact H' | (rw [hji27]; exact H')), ⟨by have := HJ6.out; have := HJ10.out; have := HK3.out; have := HJ12.out; first | omega | exact Nat.le_refl _⟩, by repeat (first | exact Drawn0.refl _ | apply Drawn0.step)⟩
                                    · rw [if_neg c28] at H
                                      exact absurd H (by simp)
                                  · rw [if_neg c26] at H
                                    have c26b0 : decide ((wrap64 (x3_3 + t108)) < (a0.size : Int)) = false := decide_eq_false c26
                                    clear c26
                                    (first | rw [c26b0] | (simp only [i64_w, i32_w]; rw [c26b0]) | skip)
                                    have H' := Aside0.mk H
                                    clear H
                                    go_wp2
                                    go_meet
                                    case rel => exact ⟨_, (false), (by first | rfl | (simp; done) | (simp [*]; done)), H', ⟨by have := HJ6.out; have := HJ10.out; have := HK3.out; have := HJ12.out; first | omega | exact Nat.le_refl _⟩, by repeat (first | exact Drawn0.refl _ | apply Drawn0.step)⟩
                                case rest =>
                                  clear HC25
                                  try clear c1
                                  try clear p1
                                  try clear q1
                                  try clear hx1
                                  try clear qi1
                                  try clear c2
                                  try clear c2b0
                                  try clear c2b1
                                  try clear p2
                                  try clear q2
                                  try clear hx2
                                  try clear p3
                                  try clear q3
                                  try clear hx3
                                  try clear qi3
                                  try clear c4
                                  try clear c4b0
                                  try clear c4b1
                                  try clear c5
                                  try clear c5b0
                                  try clear c5b1
                                  try clear c6
                                  try clear c6b0
                                  try clear c6b1
                                  try clear p6
                                  try clear c8
                                  try clear c8b0
                                  try clear c8b1
                                  try clear c9
                                  try clear c9b0
                                  try clear c9b1
                                  try clear c10
                                  try clear p10
                                  try clear q10
                                  try clear hx10
                                  try clear qi10
                                  try clear c12
                                  try clear c14
                                  try clear c14b0
                                  try clear c15
                                  try clear c15b0
                                  try clear p16
                                  try clear q16
                                  try clear hx16
                                  try clear c17
                                  try clear c18
                                  try clear c18b0
                                  try clear c18b1
                                  try clear c19
                                  try clear c19b0
                                  try clear c19b1
                                  try clear c21
                                  try clear c21b0
                                  try clear c21b1
                                  try clear c22
                                  try clear c22b0
                                  try clear c23
                                  try clear c23b0
                                  try clear c26
                                  try clear c26b0
                                  try clear c27
                                  try clear c28
                                  try clear c28b0
                                  try clear p29
                                  try clear q29
                                  try clear hx29
                                  try clear p1
                                  try clear p10
                                  try clear p16
                                  try clear p2
                                  try clear p29
                                  try clear p3
                                  try clear q1
                                  try clear q10
                                  try clear q16
                                  try clear q29
                                  try clear q3
                                  obtain ⟨kq, x68_24, rfl, HA, HJ24, ⟨mc24, rfl⟩⟩ := hcut
                                  cases kq with
                                  | zero => exact absurd HA.out (by simp [graftbedref15_piece.j4])
                                  | succ kj24 =>
                                    have H := HA.out
                                    clear HA
                                    simp only [graftbedref15_piece.j4] at H
                                    by_cases c30 : x68_24 = true
                                    · subst c30
                                      have H1 : (if 0 ≤ (wrap64 ((wrap64 (x3_3 + t108)) + 1)) then (if (wrap64 ((wrap64 (x3_3 + t108)) + 1)) ≤ (a0.size : Int) then ((graftbedref15_one.f kj24 (a0.extract ((wrap64 ((wrap64 (x3_3 + t108)) + 1)) : Int).toNat a0.size)).bind fun bt111 => (if bt111.2 = 0 then (some 0) else (if bt111.1 < t109 then (some 0) else (graftbedref15_piece.l0 kj24 a0 (wrap64 ((wrap64 ((wrap64 (x3_3 + t108)) + 1)) + bt111.2)) (wrap64 (x4_3 + 1)))))) else (none)) else (none)) = some r := by rw [if_pos rfl] at H; exact H
                                      clear H
                                      have H := H1
                                      clear H1
                                      obtain ⟨ji31, hji31⟩ : ∃ j_ : Int, (wrap64 ((wrap64 (x3_3 + t108)) + 1)) = j_ := ⟨_, rfl⟩
                                      replace H : (if 0 ≤ (ji31) then (if (ji31) ≤ (a0.size : Int) then ((graftbedref15_one.f kj24 (a0.extract ((ji31) : Int).toNat a0.size)).bind fun bt111 => (if bt111.2 = 0 then (some 0) else (if bt111.1 < t109 then (some 0) else (graftbedref15_piece.l0 kj24 a0 (wrap64 ((ji31) + bt111.2)) (wrap64 (x4_3 + 1)))))) else (none)) else (none)) = some r := by first | (rw [hji31] at H; exact H) | (simp only [hji31] at H ⊢; exact H)
                                      have hji31w : (IntKind.i64.wrap ((wrap64 (x3_3 + t108)) + 1)) = ji31 := (i64_w _).trans hji31
                                      by_cases c32 : 0 ≤ (ji31)
                                      · rw [if_pos c32] at H
                                        have c32b0 := eq_true c32
                                        have c32b1 : decide (0 ≤ (ji31)) = true := decide_eq_true c32
                                        clear c32
                                        by_cases c33 : (ji31) ≤ (a0.size : Int)
                                        · rw [if_pos c33] at H
                                          have c33b0 := eq_true c33
                                          have c33b1 : decide ((ji31) ≤ (a0.size : Int)) = true := decide_eq_true c33
                                          clear c33
                                          replace H := Option.bind_eq_some_iff.mp H
                                          obtain ⟨⟨t111, t112⟩, A340, H⟩ := H
                                          replace H : (if t112 = 0 then (some 0) else (if t111 < t109 then (some 0) else (graftbedref15_piece.l0 kj24 a0 (wrap64 ((ji31) + t112)) (wrap64 (x4_3 + 1))))) = some r := H
                                          have A34 := Aside0.mk A340
                                          clear A340
                                          by_cases c35 : t112 = 0
                                          · rw [if_pos c35] at H
                                            have c35b0 : (t112 == 0) = true := beq_iff_eq.mpr c35
                                            have c35b1 : (t112 != 0) = false := bne_eq_false_iff_eq.mpr c35
                                            clear c35
                                            obtain rfl := Option.some.inj H
                                            go_wp2_with (first | ((with_reducible refine gate_callee (f := 27) rfl ?_); refine goesL_ (some 74) rfl rfl Try.func27 (by kernel_rfl) rfl #[.string (a0.extract ((ji31) : Int).toNat a0.size)] rfl (by (try simp only [List.map_toArray, List.map_cons, List.map_nil]); first | done | (simp only [hji31]; rfl) | rfl | (simp only [List.length_drop, List.length_take]; rfl)) ?_; (with_reducible refine (graftbedref15_one.calls kj24 (a0.extract ((ji31) : Int).toNat a0.size) t111 t112 _ A34.out).mono ?_); rintro e w' ⟨rfl, ⟨nd, rfl⟩⟩; refine ⟨_, rfl, ?_⟩))
                                            go_ret
                                            exact ⟨by first | rfl | (simp; done) | (simp only [← hji31] <;> (first | rfl | simp)) | (simp [*]; done), by repeat (first | exact Drawn0.refl _ | apply Drawn0.step)⟩
                                          · rw [if_neg c35] at H
                                            have c35b0 : (t112 == 0) = false := beq_eq_false_iff_ne.mpr c35
                                            have c35b1 : (t112 != 0) = true := bne_iff_ne.mpr c35
                                            by_cases c36 : t111 < t109
                                            · rw [if_pos c36] at H
                                              have c36b0 : decide (t111 < t109) = true := decide_eq_true c36
                                              clear c36
                                              obtain rfl := Option.some.inj H
                                              go_wp2_with (first | ((with_reducible refine gate_callee (f := 27) rfl ?_); refine goesL_ (some 74) rfl rfl Try.func27 (by kernel_rfl) rfl #[.string (a0.extract ((ji31) : Int).toNat a0.size)] rfl (by (try simp only [List.map_toArray, List.map_cons, List.map_nil]); first | done | (simp only [hji31]; rfl) | rfl | (simp only [List.length_drop, List.length_take]; rfl)) ?_; (with_reducible refine (graftbedref15_one.calls kj24 (a0.extract ((ji31) : Int).toNat a0.size) t111 t112 _ A34.out).mono ?_); rintro e w' ⟨rfl, ⟨nd, rfl⟩⟩; refine ⟨_, rfl, ?_⟩))
                                              go_ret
                                              exact ⟨by first | rfl | (simp; done) | (simp only [← hji31] <;> (first | rfl | simp)) | (simp [*]; done), by repeat (first | exact Drawn0.refl _ | apply Drawn0.step)⟩
                                            · rw [if_neg c36] at H
                                              have c36b0 : decide (t111 < t109) = false := decide_eq_false c36
                                              clear c36
                                              have H' := Aside0.mk H
                                              clear H
                                              go_wp2_with (first | ((with_reducible refine gate_callee (f := 27) rfl ?_); refine goesL_ (some 74) rfl rfl Try.func27 (by kernel_rfl) rfl #[.string (a0.extract ((ji31) : Int).toNat a0.size)] rfl (by (try simp only [List.map_toArray, List.map_cons, List.map_nil]); first | done | (simp only [hji31]; rfl) | rfl | (simp only [List.length_drop, List.length_take]; rfl)) ?_; (with_reducible refine (graftbedref15_one.calls kj24 (a0.extract ((ji31) : Int).toNat a0.size) t111 t112 _ A34.out).mono ?_); rintro e w' ⟨rfl, ⟨nd, rfl⟩⟩; refine ⟨_, rfl, ?_⟩))
                                              go_roundg kj24
                                              case measure => have := HJ6.out; have := HJ10.out; have := HK3.out; have := HJ12.out; have := HJ24.out; omega
                                              case rel => exact ⟨(wrap64 ((ji31) + t112)), ((wrap64 (x4_3 + 1))), (by first | rfl | (simp; done) | (simp only [← hji31] <;> (first | rfl | simp)) | (simp [*]; done)), (by first | rfl | (simp; done) | (simp [*]; done)), (by first | exact H' | (rw [hji31]; exact H')), ⟨by have := HJ6.out; have := HJ10.out; have := HK3.out; have := HJ12.out; have := HJ24.out; omega⟩, by repeat (first | exact Drawn0.refl _ | apply Drawn0.step)⟩
                                        · rw [if_neg c33] at H
                                          exact absurd H (by simp)
                                      · rw [if_neg c32] at H
                                        exact absurd H (by simp)
                                    · replace c30 := Bool.eq_false_iff.mpr c30
                                      subst c30
                                      have H1 : (graftbedref15_piece.l0 kj24 a0 (wrap64 (x3_3 + t108)) (wrap64 (x4_3 + 1))) = some r := by rw [if_neg (show ¬ (false = true) by decide)] at H; exact H
                                      clear H
                                      have H := H1
                                      clear H1
                                      have H' := Aside0.mk H
                                      clear H
                                      go_wp2
                                      go_roundg kj24
                                      case measure => have := HJ6.out; have := HJ10.out; have := HK3.out; have := HJ12.out; have := HJ24.out; omega
                                      case rel => exact ⟨((wrap64 (x3_3 + t108))), ((wrap64 (x4_3 + 1))), (by first | rfl | (simp; done) | (simp [*]; done)), (by first | rfl | (simp; done) | (simp [*]; done)), H', ⟨by have := HJ6.out; have := HJ10.out; have := HK3.out; have := HJ12.out; have := HJ24.out; omega⟩, by repeat (first | exact Drawn0.refl _ | apply Drawn0.step)⟩
                            · rw [if_neg c19] at H
                              exact absurd H (by simp)
                          · rw [if_neg c18] at H
                            exact absurd H (by simp)
                        · replace c17 := Bool.eq_false_iff.mpr c17
                          subst c17
                          have H1 : (if x4_3 = 0 then (some 0) else (if x3_3 ≥ (a0.size : Int) then (some 0) else (some (wrap64 (x3_3 + 1))))) = some r := by rw [if_neg (show ¬ (false = true) by decide)] at H; exact H
                          clear H
                          have H := H1
                          clear H1
                          by_cases c37 : x4_3 = 0
                          · rw [if_pos c37] at H
                            have c37b0 : (x4_3 == 0) = true := beq_iff_eq.mpr c37
                            have c37b1 : (x4_3 != 0) = false := bne_eq_false_iff_eq.mpr c37
                            clear c37
                            obtain rfl := Option.some.inj H
                            go_wp2
                            go_ret
                            exact ⟨by first | rfl | (simp; done) | (simp [*]; done) | (have ne_ : ∀ l : List UInt8, (l != []) = !l.isEmpty := (fun l => by cases l <;> rfl); simp [ne_]; done), by repeat (first | exact Drawn0.refl _ | apply Drawn0.step)⟩
                          · rw [if_neg c37] at H
                            have c37b0 : (x4_3 == 0) = false := beq_eq_false_iff_ne.mpr c37
                            have c37b1 : (x4_3 != 0) = true := bne_iff_ne.mpr c37
                            by_cases c38 : x3_3 ≥ (a0.size : Int)
                            · rw [if_pos c38] at H
                              have c38b0 : decide ((a0.size : Int) ≤ x3_3) = true := decide_eq_true c38
                              clear c38
                              obtain rfl := Option.some.inj H
                              go_wp2
                              go_ret
                              exact ⟨by first | rfl | (simp; done) | (simp [*]; done) | (have ne_ : ∀ l : List UInt8, (l != []) = !l.isEmpty := (fun l => by cases l <;> rfl); simp [ne_]; done), by repeat (first | exact Drawn0.refl _ | apply Drawn0.step)⟩
                            · rw [if_neg c38] at H
                              have c38b0 : decide ((a0.size : Int) ≤ x3_3) = false := decide_eq_false c38
                              clear c38
                              obtain rfl := Option.some.inj H
                              go_wp2
                              go_ret
                              exact ⟨by first | rfl | (simp; done) | (simp [*]; done) | (have ne_ : ∀ l : List UInt8, (l != []) = !l.isEmpty := (fun l => by cases l <;> rfl); simp [ne_]; done), by repeat (first | exact Drawn0.refl _ | apply Drawn0.step)⟩
      · rw [if_neg c6] at H
        have c6b0 : ((bt a0 0) == 91) = false := beq_eq_false_iff_ne.mpr c6
        have c6b1 : ((bt a0 0) != 91) = true := bne_iff_ne.mpr c6
        obtain rfl := Option.some.inj H
        have p3 : 0 ≤ (0 : Int) := (by omega)
        have q3 : 0 < a0.size := (by have : (0 : Int) < (a0.size : Int) := of_decide_eq_true (by first | (with_reducible assumption) | assumption); omega)
        have hx3 : ∀ h : 0 < a0.size, ((a0[0]'h).toNat : Int) = bt a0 0 := bt_at a0 0
        clear p3
        have qi3 : (0 < (a0.size : Int)) = True := eq_true (of_decide_eq_true (by first | (with_reducible assumption) | assumption))
        replace q3 := eq_true q3
        go_enter Try.func18, Try.ntmps18
        go_wp2
        go_ret
        exact ⟨by first | rfl | (simp; done) | (simp [*]; done) | (have ne_ : ∀ l : List UInt8, (l != []) = !l.isEmpty := (fun l => by cases l <;> rfl); simp [ne_]; done), by repeat (first | exact Drawn0.refl _ | apply Drawn0.step)⟩
  · rw [if_neg c2] at H
    exact absurd H (by simp)

end Go.Proofs.Ytjcopbgbmokfmaa.PAll
