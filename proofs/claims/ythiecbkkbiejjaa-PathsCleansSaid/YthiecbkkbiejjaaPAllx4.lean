-- by hprint.py (wip/): the kit's print over contracts proved by hand; a text of this session
import Derived.Test.YthiecbkkbiejjaaPAllx0
import Derived.Test.YthiecbkkbiejjaaPAllx2
import Derived.Test.YthiecbkkbiejjaaPAllx3
namespace Go.Proofs.Ythiecbkkbiejjaa.PAll
open Go.RowKit Go.Proofs.YthiecbkkbiejjaaW.PrintWords Go.Proofs.YthiecbkkbiejjaaW.PrintLast Go.Proofs.YthiecbkkbiejjaaW.PrintMore
attribute [local go_sem] max2_int min2_int max_two min_two max_three min_three max_four min_four   -- for this text's walks alone
set_option linter.unusedVariables false
set_option linter.unusedSimpArgs false

/-! ### graftbedlaw01_PathsNear: function 8 -/
mutual
def graftbedlaw01_PathsNear.j0 : Nat → ByteArray → ByteArray → ByteArray → ByteArray → Bool → Option (Bool)
  | 0, _, _, _, _, _ => none
  | k + 1, x0, x1, x2, x3, x34 => if x34 = true then ((paths_Compare.f k (⟨#[97]⟩ : ByteArray) (⟨#[97, 47, 98]⟩ : ByteArray)).bind fun t159 => (some (t159 == (-1)))) else (if x0.size + 1 ≤ 9223372036854775807 then (if (x0 ++ (⟨#[47]⟩ : ByteArray)).size + x1.size ≤ 9223372036854775807 then (if (x0 ++ (⟨#[47]⟩ : ByteArray)).size + x2.size ≤ 9223372036854775807 then ((paths_Compare.f k x0 ((x0 ++ (⟨#[47]⟩ : ByteArray)) ++ x1)).bind fun t160 => (if t160 = (-1) then ((paths_Compare.f k ((x0 ++ (⟨#[47]⟩ : ByteArray)) ++ x1) x3).bind fun t161 => ((graftbedref01_Compare.f k ((x0 ++ (⟨#[47]⟩ : ByteArray)) ++ x1) x3).bind fun t162 => (graftbedlaw01_PathsNear.j1 k x0 x3 ((x0 ++ (⟨#[47]⟩ : ByteArray)) ++ x1) ((x0 ++ (⟨#[47]⟩ : ByteArray)) ++ x2) (t161 != t162)))) else (graftbedlaw01_PathsNear.j1 k x0 x3 ((x0 ++ (⟨#[47]⟩ : ByteArray)) ++ x1) ((x0 ++ (⟨#[47]⟩ : ByteArray)) ++ x2) true))) else (none)) else (none)) else (none))
def graftbedlaw01_PathsNear.j1 : Nat → ByteArray → ByteArray → ByteArray → ByteArray → Bool → Option (Bool)
  | 0, _, _, _, _, _ => none
  | k + 1, x0, x3, x9, x10, x57 => if x57 = true then (some false) else ((paths_Compare.f k x9 x3).bind fun t163 => (if t163 ≤ 0 then ((paths_Compare.f k x3 x10).bind fun t164 => (if t164 ≤ 0 then ((paths_Within.f x3 x0).bind fun bt165 => (some bt165.2)) else (some true))) else (some true)))
end
def graftbedlaw01_PathsNear.f (k : Nat) (a0 : ByteArray) (a1 : ByteArray) (a2 : ByteArray) (a3 : ByteArray) : Option (Bool) := if (a0.size : Int) > 1024 then (graftbedlaw01_PathsNear.j0 k a0 a1 a2 a3 true) else (if (a1.size : Int) > 1024 then (graftbedlaw01_PathsNear.j0 k a0 a1 a2 a3 true) else (if (a2.size : Int) > 1024 then (graftbedlaw01_PathsNear.j0 k a0 a1 a2 a3 true) else (if (a3.size : Int) > 1024 then (graftbedlaw01_PathsNear.j0 k a0 a1 a2 a3 true) else (graftbedlaw01_PathsNear.j0 k a0 a1 a2 a3 (a0.toList == ([] : List UInt8))))))
theorem graftbedlaw01_PathsNear.mono_l : ∀ k, (∀ y0 y1 y2 y3 y4, LeO (graftbedlaw01_PathsNear.j0 k y0 y1 y2 y3 y4) (graftbedlaw01_PathsNear.j0 (k + 1) y0 y1 y2 y3 y4)) ∧ (∀ y0 y1 y2 y3 y4, LeO (graftbedlaw01_PathsNear.j1 k y0 y1 y2 y3 y4) (graftbedlaw01_PathsNear.j1 (k + 1) y0 y1 y2 y3 y4))
  | 0 => ⟨fun _ _ _ _ _ r h => by simp [graftbedlaw01_PathsNear.j0] at h, fun _ _ _ _ _ r h => by simp [graftbedlaw01_PathsNear.j1] at h⟩
  | k + 1 => by
    obtain ⟨ih0, ih1⟩ := graftbedlaw01_PathsNear.mono_l k
    refine ⟨?_, ?_⟩
    · intro y0 y1 y2 y3 y4
      unfold graftbedlaw01_PathsNear.j0
      repeat' first
      | (with_reducible exact ih0 _ _ _ _ _)
      | (with_reducible exact ih1 _ _ _ _ _)
      | (with_reducible exact graftbedref01_Compare.mono _ _ _)
      | (with_reducible exact paths_Compare.mono _ _ _)
      | (with_reducible exact LeO.refl _)
      | (with_reducible exact LeO.none _)
      | (with_reducible refine LeO.ite ?_ ?_)
      | (with_reducible refine LeO.bind ?_ (fun _ => ?_))
      | exact ih0 _ _ _ _ _
      | exact ih1 _ _ _ _ _
      | exact graftbedref01_Compare.mono _ _ _
      | exact paths_Compare.mono _ _ _
      | exact LeO.none _
      | refine LeO.ite ?_ ?_
      | refine LeO.bind ?_ (fun _ => ?_)
    · intro y0 y1 y2 y3 y4
      unfold graftbedlaw01_PathsNear.j1
      repeat' first
      | (with_reducible exact ih0 _ _ _ _ _)
      | (with_reducible exact ih1 _ _ _ _ _)
      | (with_reducible exact graftbedref01_Compare.mono _ _ _)
      | (with_reducible exact paths_Compare.mono _ _ _)
      | (with_reducible exact LeO.refl _)
      | (with_reducible exact LeO.none _)
      | (with_reducible refine LeO.ite ?_ ?_)
      | (with_reducible refine LeO.bind ?_ (fun _ => ?_))
      | exact ih0 _ _ _ _ _
      | exact ih1 _ _ _ _ _
      | exact graftbedref01_Compare.mono _ _ _
      | exact paths_Compare.mono _ _ _
      | exact LeO.none _
      | refine LeO.ite ?_ ?_
      | refine LeO.bind ?_ (fun _ => ?_)
theorem graftbedlaw01_PathsNear.mono : ∀ a0 a1 a2 a3 k, LeO (graftbedlaw01_PathsNear.f k a0 a1 a2 a3) (graftbedlaw01_PathsNear.f (k + 1) a0 a1 a2 a3) := by
  intro a0 a1 a2 a3 k
  obtain ⟨ih0, ih1⟩ := graftbedlaw01_PathsNear.mono_l k
  unfold graftbedlaw01_PathsNear.f
  repeat' first
      | (with_reducible exact ih0 _ _ _ _ _)
      | (with_reducible exact ih1 _ _ _ _ _)
      | (with_reducible exact graftbedref01_Compare.mono _ _ _)
      | (with_reducible exact paths_Compare.mono _ _ _)
      | (with_reducible exact LeO.refl _)
      | (with_reducible exact LeO.none _)
      | (with_reducible refine LeO.ite ?_ ?_)
      | (with_reducible refine LeO.bind ?_ (fun _ => ?_))
      | exact ih0 _ _ _ _ _
      | exact ih1 _ _ _ _ _
      | exact graftbedref01_Compare.mono _ _ _
      | exact paths_Compare.mono _ _ _
      | exact LeO.none _
      | refine LeO.ite ?_ ?_
      | refine LeO.bind ?_ (fun _ => ?_)
set_option maxHeartbeats 8000000 in
set_option maxRecDepth 100000 in
theorem graftbedlaw01_PathsNear.calls (k : Nat) (a0 : ByteArray) (a1 : ByteArray) (a2 : ByteArray) (a3 : ByteArray) (r : Bool) (w : World) (h : graftbedlaw01_PathsNear.f k a0 a1 a2 a3 = some r) :
    Calls Try.prog 8 #[.string a0, .string a1, .string a2, .string a3] w fun e w' => e = .returned (.bool r) ∧ Below w.heap.size w w' := by
  have HB := Aside0.mk (Below.refl w.heap.size w)
  have H : (if (a0.size : Int) > 1024 then (graftbedlaw01_PathsNear.j0 k a0 a1 a2 a3 true) else (if (a1.size : Int) > 1024 then (graftbedlaw01_PathsNear.j0 k a0 a1 a2 a3 true) else (if (a2.size : Int) > 1024 then (graftbedlaw01_PathsNear.j0 k a0 a1 a2 a3 true) else (if (a3.size : Int) > 1024 then (graftbedlaw01_PathsNear.j0 k a0 a1 a2 a3 true) else (graftbedlaw01_PathsNear.j0 k a0 a1 a2 a3 (a0.toList == ([] : List UInt8))))))) = some r := h
  clear h
  have HC5 := Aside0.mk H
  clear H
  go_enter Try.func8, Try.ntmps8
  go_upto_region 1 with (fail)
  go_cut [34] (fun v34 wc => ∃ (kq : Nat) (x34_4 : Bool), v34 = .bool x34_4 ∧ Aside0 (graftbedlaw01_PathsNear.j0 kq a0 a1 a2 a3 x34_4 = some r) ∧ Aside0 (kq ≤ k) ∧ Aside0 (Below w.heap.size w wc))
  case first =>
    have H := HC5.out
    clear HC5
    by_cases c6 : (a0.size : Int) > 1024
    · rw [if_pos c6] at H
      have c6b0 : decide (1024 < (a0.size : Int)) = true := decide_eq_true c6
      have c6b1 : decide (1024 < a0.size) = true := decide_eq_true (by omega)
      clear c6
      (first | rw [c6b0] | (simp only [i64_w, i32_w]; rw [c6b0]) | skip)
      have H' := Aside0.mk H
      clear H
      go_wp2
      go_meet
      case rel => exact ⟨_, (true), (by first | rfl | (simp; done) | (simp [*]; done)), H', ⟨by first | omega | exact Nat.le_refl _⟩, ⟨by repeat (first | (with_reducible first | exact HB.out | apply below_alloc | apply pw_below_drewN | apply below_drew1) | exact HB.out)⟩⟩
    · rw [if_neg c6] at H
      have c6b0 : decide (1024 < (a0.size : Int)) = false := decide_eq_false c6
      have c6b1 : decide (1024 < a0.size) = false := decide_eq_false (by omega)
      clear c6
      (first | rw [c6b0] | (simp only [i64_w, i32_w]; rw [c6b0]) | skip)
      by_cases c7 : (a1.size : Int) > 1024
      · rw [if_pos c7] at H
        have c7b0 : decide (1024 < (a1.size : Int)) = true := decide_eq_true c7
        have c7b1 : decide (1024 < a1.size) = true := decide_eq_true (by omega)
        clear c7
        have H' := Aside0.mk H
        clear H
        go_wp2
        go_meet
        case rel => exact ⟨_, (true), (by first | rfl | (simp; done) | (simp [*]; done)), H', ⟨by first | omega | exact Nat.le_refl _⟩, ⟨by repeat (first | (with_reducible first | exact HB.out | apply below_alloc | apply pw_below_drewN | apply below_drew1) | exact HB.out)⟩⟩
      · rw [if_neg c7] at H
        have c7b0 : decide (1024 < (a1.size : Int)) = false := decide_eq_false c7
        have c7b1 : decide (1024 < a1.size) = false := decide_eq_false (by omega)
        clear c7
        by_cases c8 : (a2.size : Int) > 1024
        · rw [if_pos c8] at H
          have c8b0 : decide (1024 < (a2.size : Int)) = true := decide_eq_true c8
          have c8b1 : decide (1024 < a2.size) = true := decide_eq_true (by omega)
          clear c8
          have H' := Aside0.mk H
          clear H
          go_wp2
          go_meet
          case rel => exact ⟨_, (true), (by first | rfl | (simp; done) | (simp [*]; done)), H', ⟨by first | omega | exact Nat.le_refl _⟩, ⟨by repeat (first | (with_reducible first | exact HB.out | apply below_alloc | apply pw_below_drewN | apply below_drew1) | exact HB.out)⟩⟩
        · rw [if_neg c8] at H
          have c8b0 : decide (1024 < (a2.size : Int)) = false := decide_eq_false c8
          have c8b1 : decide (1024 < a2.size) = false := decide_eq_false (by omega)
          clear c8
          by_cases c9 : (a3.size : Int) > 1024
          · rw [if_pos c9] at H
            have c9b0 : decide (1024 < (a3.size : Int)) = true := decide_eq_true c9
            have c9b1 : decide (1024 < a3.size) = true := decide_eq_true (by omega)
            clear c9
            have H' := Aside0.mk H
            clear H
            go_wp2
            go_meet
            case rel => exact ⟨_, (true), (by first | rfl | (simp; done) | (simp [*]; done)), H', ⟨by first | omega | exact Nat.le_refl _⟩, ⟨by repeat (first | (with_reducible first | exact HB.out | apply below_alloc | apply pw_below_drewN | apply below_drew1) | exact HB.out)⟩⟩
          · rw [if_neg c9] at H
            have c9b0 : decide (1024 < (a3.size : Int)) = false := decide_eq_false c9
            have c9b1 : decide (1024 < a3.size) = false := decide_eq_false (by omega)
            clear c9
            have H' := Aside0.mk H
            clear H
            go_wp2
            go_meet
            case rel => exact ⟨_, ((a0.toList == ([] : List UInt8))), (by first | rfl | (simp; done) | (simp [*]; done)), H', ⟨by first | omega | exact Nat.le_refl _⟩, ⟨by repeat (first | (with_reducible first | exact HB.out | apply below_alloc | apply pw_below_drewN | apply below_drew1) | exact HB.out)⟩⟩
  case rest =>
    clear HC5
    try clear p2
    try clear c6
    try clear c6b0
    try clear c6b1
    try clear c7
    try clear c7b0
    try clear c7b1
    try clear c8
    try clear c8b0
    try clear c8b1
    try clear c9
    try clear c9b0
    try clear c9b1
    obtain ⟨kq, x34_4, rfl, HA, HJ4, HB⟩ := hcut
    cases kq with
    | zero => exact absurd HA.out (by simp [graftbedlaw01_PathsNear.j0])
    | succ kj4 =>
      have H := HA.out
      clear HA
      simp only [graftbedlaw01_PathsNear.j0] at H
      by_cases c10 : x34_4 = true
      · subst c10
        have H1 : ((paths_Compare.f kj4 (⟨#[97]⟩ : ByteArray) (⟨#[97, 47, 98]⟩ : ByteArray)).bind fun t159 => (some (t159 == (-1)))) = some r := by rw [if_pos rfl] at H; exact H
        clear H
        have H := H1
        clear H1
        replace H := Option.bind_eq_some_iff.mp H
        obtain ⟨t159, A110, H⟩ := H
        replace H : (some (t159 == (-1))) = some r := H
        have A11 := Aside0.mk A110
        clear A110
        obtain rfl := Option.some.inj H
        go_wp2_with (first | ((with_reducible refine gate_callee (f := 18) rfl ?_); refine goesL_ (some 35) rfl rfl Try.func18 (by kernel_rfl) rfl #[.string (⟨#[97]⟩ : ByteArray), .string (⟨#[97, 47, 98]⟩ : ByteArray)] rfl (by (try simp only [List.map_toArray, List.map_cons, List.map_nil]); first | done | rfl | (simp only [List.length_drop, List.length_take]; rfl)) ?_; (with_reducible refine (paths_Compare.calls kj4 (⟨#[97]⟩ : ByteArray) (⟨#[97, 47, 98]⟩ : ByteArray) t159 _ A11.out).mono ?_); rintro e w12 ⟨rfl, hb⟩; refine ⟨_, rfl, ?_⟩; have n0_ := Aside0.mk (below_step (by repeat (first | (with_reducible first | exact HB.out | apply below_alloc | apply pw_below_drewN | apply below_drew1) | exact HB.out)) hb); clear HB; have HB := n0_; clear n0_; (try clear hb); (try clear hb2); (try clear hk); (try clear hi)))
        go_ret
        exact ⟨by first | rfl | (simp [errW_none, errW_some] <;> rfl) | (simp [*, errW_none, errW_some] <;> rfl), by repeat (first | (with_reducible first | exact HB.out | apply below_alloc | apply pw_below_drewN | apply below_drew1) | exact HB.out)⟩
      · replace c10 := Bool.eq_false_iff.mpr c10
        subst c10
        have H1 : (if a0.size + 1 ≤ 9223372036854775807 then (if (a0 ++ (⟨#[47]⟩ : ByteArray)).size + a1.size ≤ 9223372036854775807 then (if (a0 ++ (⟨#[47]⟩ : ByteArray)).size + a2.size ≤ 9223372036854775807 then ((paths_Compare.f kj4 a0 ((a0 ++ (⟨#[47]⟩ : ByteArray)) ++ a1)).bind fun t160 => (if t160 = (-1) then ((paths_Compare.f kj4 ((a0 ++ (⟨#[47]⟩ : ByteArray)) ++ a1) a3).bind fun t161 => ((graftbedref01_Compare.f kj4 ((a0 ++ (⟨#[47]⟩ : ByteArray)) ++ a1) a3).bind fun t162 => (graftbedlaw01_PathsNear.j1 kj4 a0 a3 ((a0 ++ (⟨#[47]⟩ : ByteArray)) ++ a1) ((a0 ++ (⟨#[47]⟩ : ByteArray)) ++ a2) (t161 != t162)))) else (graftbedlaw01_PathsNear.j1 kj4 a0 a3 ((a0 ++ (⟨#[47]⟩ : ByteArray)) ++ a1) ((a0 ++ (⟨#[47]⟩ : ByteArray)) ++ a2) true))) else (none)) else (none)) else (none)) = some r := by rw [if_neg (show ¬ (false = true) by decide)] at H; exact H
        clear H
        have H := H1
        clear H1
        by_cases c13 : a0.size + 1 ≤ 9223372036854775807
        · rw [if_pos c13] at H
          have c13b0 := eq_true c13
          have c13b1 : decide (a0.size + 1 ≤ 9223372036854775807) = true := decide_eq_true c13
          try have c13b2 : (9223372036854775807 < a0.size + 1) = False := eq_false (Nat.not_lt.2 c13)
          have c13b7 := c13
          try simp only [ByteArray.size_append, StrOrd.size_slash] at c13b7
          have c13b8 := eq_false (Nat.not_lt.2 c13b7)
          by_cases c14 : (a0 ++ (⟨#[47]⟩ : ByteArray)).size + a1.size ≤ 9223372036854775807
          · rw [if_pos c14] at H
            have c14b0 := eq_true c14
            have c14b1 : decide ((a0 ++ (⟨#[47]⟩ : ByteArray)).size + a1.size ≤ 9223372036854775807) = true := decide_eq_true c14
            try have c14b2 : (9223372036854775807 < (a0 ++ (⟨#[47]⟩ : ByteArray)).size + a1.size) = False := eq_false (Nat.not_lt.2 c14)
            have c14b7 := c14
            try simp only [ByteArray.size_append, StrOrd.size_slash] at c14b7
            have c14b8 := eq_false (Nat.not_lt.2 c14b7)
            by_cases c15 : (a0 ++ (⟨#[47]⟩ : ByteArray)).size + a2.size ≤ 9223372036854775807
            · rw [if_pos c15] at H
              have c15b0 := eq_true c15
              have c15b1 : decide ((a0 ++ (⟨#[47]⟩ : ByteArray)).size + a2.size ≤ 9223372036854775807) = true := decide_eq_true c15
              try have c15b2 : (9223372036854775807 < (a0 ++ (⟨#[47]⟩ : ByteArray)).size + a2.size) = False := eq_false (Nat.not_lt.2 c15)
              have c15b7 := c15
              try simp only [ByteArray.size_append, StrOrd.size_slash] at c15b7
              have c15b8 := eq_false (Nat.not_lt.2 c15b7)
              have HC16 := Aside0.mk H
              clear H
              go_upto_region 5 with (fail)
              go_cut [57] (fun v57 wc => ∃ (kq : Nat) (x57_15 : Bool), v57 = .bool x57_15 ∧ Aside0 (graftbedlaw01_PathsNear.j1 kq a0 a3 ((a0 ++ (⟨#[47]⟩ : ByteArray)) ++ a1) ((a0 ++ (⟨#[47]⟩ : ByteArray)) ++ a2) x57_15 = some r) ∧ Aside0 (kq ≤ kj4) ∧ Aside0 (Below w.heap.size w wc))
              case first =>
                have H := HC16.out
                clear HC16
                replace H := Option.bind_eq_some_iff.mp H
                obtain ⟨t160, A170, H⟩ := H
                replace H : (if t160 = (-1) then ((paths_Compare.f kj4 ((a0 ++ (⟨#[47]⟩ : ByteArray)) ++ a1) a3).bind fun t161 => ((graftbedref01_Compare.f kj4 ((a0 ++ (⟨#[47]⟩ : ByteArray)) ++ a1) a3).bind fun t162 => (graftbedlaw01_PathsNear.j1 kj4 a0 a3 ((a0 ++ (⟨#[47]⟩ : ByteArray)) ++ a1) ((a0 ++ (⟨#[47]⟩ : ByteArray)) ++ a2) (t161 != t162)))) else (graftbedlaw01_PathsNear.j1 kj4 a0 a3 ((a0 ++ (⟨#[47]⟩ : ByteArray)) ++ a1) ((a0 ++ (⟨#[47]⟩ : ByteArray)) ++ a2) true)) = some r := H
                have A17 := Aside0.mk A170
                clear A170
                by_cases c18 : t160 = (-1)
                · rw [if_pos c18] at H
                  have c18b0 : (t160 == (-1)) = true := beq_iff_eq.mpr c18
                  have c18b1 : (t160 != (-1)) = false := bne_eq_false_iff_eq.mpr c18
                  clear c18
                  (first | rw [c18b0] | (simp only [i64_w, i32_w]; rw [c18b0]) | skip)
                  replace H := Option.bind_eq_some_iff.mp H
                  obtain ⟨t161, A190, H⟩ := H
                  replace H : ((graftbedref01_Compare.f kj4 ((a0 ++ (⟨#[47]⟩ : ByteArray)) ++ a1) a3).bind fun t162 => (graftbedlaw01_PathsNear.j1 kj4 a0 a3 ((a0 ++ (⟨#[47]⟩ : ByteArray)) ++ a1) ((a0 ++ (⟨#[47]⟩ : ByteArray)) ++ a2) (t161 != t162))) = some r := H
                  have A19 := Aside0.mk A190
                  clear A190
                  replace H := Option.bind_eq_some_iff.mp H
                  obtain ⟨t162, A200, H⟩ := H
                  replace H : (graftbedlaw01_PathsNear.j1 kj4 a0 a3 ((a0 ++ (⟨#[47]⟩ : ByteArray)) ++ a1) ((a0 ++ (⟨#[47]⟩ : ByteArray)) ++ a2) (t161 != t162)) = some r := H
                  have A20 := Aside0.mk A200
                  clear A200
                  have H' := Aside0.mk H
                  clear H
                  go_wp2_with (first | ((with_reducible refine gate_callee (f := 18) rfl ?_); refine goesL_ (some 47) rfl rfl Try.func18 (by kernel_rfl) rfl #[.string a0, .string ((a0 ++ (⟨#[47]⟩ : ByteArray)) ++ a1)] rfl (by (try simp only [List.map_toArray, List.map_cons, List.map_nil]); first | done | rfl | (simp only [List.length_drop, List.length_take]; rfl)) ?_; (with_reducible refine (paths_Compare.calls kj4 a0 ((a0 ++ (⟨#[47]⟩ : ByteArray)) ++ a1) t160 _ A17.out).mono ?_); rintro e w21 ⟨rfl, hb⟩; refine ⟨_, rfl, ?_⟩; have n0_ := Aside0.mk (below_step (by repeat (first | (with_reducible first | exact HB.out | apply below_alloc | apply pw_below_drewN | apply below_drew1) | exact HB.out)) hb); clear HB; have HB := n0_; clear n0_; (try clear hb); (try clear hb2); (try clear hk); (try clear hi)) | (go_at_call 18; (with_reducible refine (paths_Compare.calls kj4 ((a0 ++ (⟨#[47]⟩ : ByteArray)) ++ a1) a3 t161 _ A19.out).mono ?_); rintro e w22 ⟨rfl, hb⟩; have n0_ := Aside0.mk (below_step (by repeat (first | (with_reducible first | exact HB.out | apply below_alloc | apply pw_below_drewN | apply below_drew1) | exact HB.out)) hb); clear HB; have HB := n0_; clear n0_; (try clear hb); (try clear hb2); (try clear hk); (try clear hi)) | (go_at_call 19; (with_reducible refine (graftbedref01_Compare.calls kj4 ((a0 ++ (⟨#[47]⟩ : ByteArray)) ++ a1) a3 t162 _ A20.out).mono ?_); rintro e w23 ⟨rfl, hb⟩; have n0_ := Aside0.mk (below_step (by repeat (first | (with_reducible first | exact HB.out | apply below_alloc | apply pw_below_drewN | apply below_drew1) | exact HB.out)) hb); clear HB; have HB := n0_; clear n0_; (try clear hb); (try clear hb2); (try clear hk); (try clear hi)))
                  go_meet
                  case rel => exact ⟨_, ((t161 != t162)), (by first | rfl | (simp; done) | (simp [*]; done)), H', ⟨by have := HJ4.out; first | omega | exact Nat.le_refl _⟩, ⟨by repeat (first | (with_reducible first | exact HB.out | apply below_alloc | apply pw_below_drewN | apply below_drew1) | exact HB.out)⟩⟩
                · rw [if_neg c18] at H
                  have c18b0 : (t160 == (-1)) = false := beq_eq_false_iff_ne.mpr c18
                  have c18b1 : (t160 != (-1)) = true := bne_iff_ne.mpr c18
                  (first | rw [c18b0] | (simp only [i64_w, i32_w]; rw [c18b0]) | skip)
                  have H' := Aside0.mk H
                  clear H
                  go_wp2_with (first | ((with_reducible refine gate_callee (f := 18) rfl ?_); refine goesL_ (some 47) rfl rfl Try.func18 (by kernel_rfl) rfl #[.string a0, .string ((a0 ++ (⟨#[47]⟩ : ByteArray)) ++ a1)] rfl (by (try simp only [List.map_toArray, List.map_cons, List.map_nil]); first | done | rfl | (simp only [List.length_drop, List.length_take]; rfl)) ?_; (with_reducible refine (paths_Compare.calls kj4 a0 ((a0 ++ (⟨#[47]⟩ : ByteArray)) ++ a1) t160 _ A17.out).mono ?_); rintro e w24 ⟨rfl, hb⟩; refine ⟨_, rfl, ?_⟩; have n0_ := Aside0.mk (below_step (by repeat (first | (with_reducible first | exact HB.out | apply below_alloc | apply pw_below_drewN | apply below_drew1) | exact HB.out)) hb); clear HB; have HB := n0_; clear n0_; (try clear hb); (try clear hb2); (try clear hk); (try clear hi)))
                  go_meet
                  case rel => exact ⟨_, (true), (by first | rfl | (simp; done) | (simp [*]; done)), H', ⟨by have := HJ4.out; first | omega | exact Nat.le_refl _⟩, ⟨by repeat (first | (with_reducible first | exact HB.out | apply below_alloc | apply pw_below_drewN | apply below_drew1) | exact HB.out)⟩⟩
              case rest =>
                clear HC16
                try clear c1
                try clear p2
                try clear c6
                try clear c6b0
                try clear c6b1
                try clear c7
                try clear c7b0
                try clear c7b1
                try clear c8
                try clear c8b0
                try clear c8b1
                try clear c9
                try clear c9b0
                try clear c9b1
                try clear c10
                try clear c13
                try clear c13b0
                try clear c13b1
                try clear c13b2
                try clear c14
                try clear c14b0
                try clear c14b1
                try clear c14b2
                try clear c15
                try clear c15b0
                try clear c15b1
                try clear c15b2
                try clear c18
                try clear c18b0
                try clear c18b1
                try clear p2
                obtain ⟨kq, x57_15, rfl, HA, HJ15, HB⟩ := hcut
                cases kq with
                | zero => exact absurd HA.out (by simp [graftbedlaw01_PathsNear.j1])
                | succ kj15 =>
                  have H := HA.out
                  clear HA
                  simp only [graftbedlaw01_PathsNear.j1] at H
                  by_cases c25 : x57_15 = true
                  · subst c25
                    have H1 : (some false) = some r := by rw [if_pos rfl] at H; exact H
                    clear H
                    have H := H1
                    clear H1
                    obtain rfl := Option.some.inj H
                    go_wp2
                    go_ret
                    exact ⟨by first | rfl | (simp [errW_none, errW_some] <;> rfl) | (simp [*, errW_none, errW_some] <;> rfl), by repeat (first | (with_reducible first | exact HB.out | apply below_alloc | apply pw_below_drewN | apply below_drew1) | exact HB.out)⟩
                  · replace c25 := Bool.eq_false_iff.mpr c25
                    subst c25
                    have H1 : ((paths_Compare.f kj15 ((a0 ++ (⟨#[47]⟩ : ByteArray)) ++ a1) a3).bind fun t163 => (if t163 ≤ 0 then ((paths_Compare.f kj15 a3 ((a0 ++ (⟨#[47]⟩ : ByteArray)) ++ a2)).bind fun t164 => (if t164 ≤ 0 then ((paths_Within.f a3 a0).bind fun bt165 => (some bt165.2)) else (some true))) else (some true))) = some r := by rw [if_neg (show ¬ (false = true) by decide)] at H; exact H
                    clear H
                    have H := H1
                    clear H1
                    replace H := Option.bind_eq_some_iff.mp H
                    obtain ⟨t163, A260, H⟩ := H
                    replace H : (if t163 ≤ 0 then ((paths_Compare.f kj15 a3 ((a0 ++ (⟨#[47]⟩ : ByteArray)) ++ a2)).bind fun t164 => (if t164 ≤ 0 then ((paths_Within.f a3 a0).bind fun bt165 => (some bt165.2)) else (some true))) else (some true)) = some r := H
                    have A26 := Aside0.mk A260
                    clear A260
                    by_cases c27 : t163 ≤ 0
                    · rw [if_pos c27] at H
                      have c27b0 : decide (t163 ≤ 0) = true := decide_eq_true c27
                      clear c27
                      replace H := Option.bind_eq_some_iff.mp H
                      obtain ⟨t164, A280, H⟩ := H
                      replace H : (if t164 ≤ 0 then ((paths_Within.f a3 a0).bind fun bt165 => (some bt165.2)) else (some true)) = some r := H
                      have A28 := Aside0.mk A280
                      clear A280
                      by_cases c29 : t164 ≤ 0
                      · rw [if_pos c29] at H
                        have c29b0 : decide (t164 ≤ 0) = true := decide_eq_true c29
                        clear c29
                        replace H := Option.bind_eq_some_iff.mp H
                        obtain ⟨⟨t165, t166⟩, A300, H⟩ := H
                        replace H : (some t166) = some r := H
                        have A30 := Aside0.mk A300
                        clear A300
                        obtain rfl := Option.some.inj H
                        go_wp2_with (first | ((with_reducible refine gate_callee (f := 18) rfl ?_); refine goesL_ (some 60) rfl rfl Try.func18 (by kernel_rfl) rfl #[.string ((a0 ++ (⟨#[47]⟩ : ByteArray)) ++ a1), .string a3] rfl (by (try simp only [List.map_toArray, List.map_cons, List.map_nil]); first | done | rfl | (simp only [List.length_drop, List.length_take]; rfl)) ?_; (with_reducible refine (paths_Compare.calls kj15 ((a0 ++ (⟨#[47]⟩ : ByteArray)) ++ a1) a3 t163 _ A26.out).mono ?_); rintro e w31 ⟨rfl, hb⟩; refine ⟨_, rfl, ?_⟩; have n0_ := Aside0.mk (below_step (by repeat (first | (with_reducible first | exact HB.out | apply below_alloc | apply pw_below_drewN | apply below_drew1) | exact HB.out)) hb); clear HB; have HB := n0_; clear n0_; (try clear hb); (try clear hb2); (try clear hk); (try clear hi)) | (go_at_call 18; (with_reducible refine (paths_Compare.calls kj15 a3 ((a0 ++ (⟨#[47]⟩ : ByteArray)) ++ a2) t164 _ A28.out).mono ?_); rintro e w32 ⟨rfl, hb⟩; have n0_ := Aside0.mk (below_step (by repeat (first | (with_reducible first | exact HB.out | apply below_alloc | apply pw_below_drewN | apply below_drew1) | exact HB.out)) hb); clear HB; have HB := n0_; clear n0_; (try clear hb); (try clear hb2); (try clear hk); (try clear hi)) | ((with_reducible refine gate_callee (f := 12) rfl ?_); refine goesL_ (some 71) rfl rfl Try.func12 (by kernel_rfl) rfl #[.string a3, .string a0] rfl (by (try simp only [List.map_toArray, List.map_cons, List.map_nil]); first | done | rfl | (simp only [List.length_drop, List.length_take]; rfl)) ?_; (with_reducible refine (paths_Within.calls a3 a0 t165 t166 _ A30.out).mono ?_); rintro e w' ⟨rfl, ⟨nd, rfl⟩⟩; refine ⟨_, rfl, ?_⟩))
                        go_ret
                        exact ⟨by first | rfl | (simp [errW_none, errW_some] <;> rfl) | (simp [*, errW_none, errW_some] <;> rfl), by repeat (first | (with_reducible first | exact HB.out | apply below_alloc | apply pw_below_drewN | apply below_drew1) | exact HB.out)⟩
                      · rw [if_neg c29] at H
                        have c29b0 : decide (t164 ≤ 0) = false := decide_eq_false c29
                        clear c29
                        obtain rfl := Option.some.inj H
                        go_wp2_with (first | ((with_reducible refine gate_callee (f := 18) rfl ?_); refine goesL_ (some 60) rfl rfl Try.func18 (by kernel_rfl) rfl #[.string ((a0 ++ (⟨#[47]⟩ : ByteArray)) ++ a1), .string a3] rfl (by (try simp only [List.map_toArray, List.map_cons, List.map_nil]); first | done | rfl | (simp only [List.length_drop, List.length_take]; rfl)) ?_; (with_reducible refine (paths_Compare.calls kj15 ((a0 ++ (⟨#[47]⟩ : ByteArray)) ++ a1) a3 t163 _ A26.out).mono ?_); rintro e w33 ⟨rfl, hb⟩; refine ⟨_, rfl, ?_⟩; have n0_ := Aside0.mk (below_step (by repeat (first | (with_reducible first | exact HB.out | apply below_alloc | apply pw_below_drewN | apply below_drew1) | exact HB.out)) hb); clear HB; have HB := n0_; clear n0_; (try clear hb); (try clear hb2); (try clear hk); (try clear hi)) | (go_at_call 18; (with_reducible refine (paths_Compare.calls kj15 a3 ((a0 ++ (⟨#[47]⟩ : ByteArray)) ++ a2) t164 _ A28.out).mono ?_); rintro e w34 ⟨rfl, hb⟩; have n0_ := Aside0.mk (below_step (by repeat (first | (with_reducible first | exact HB.out | apply below_alloc | apply pw_below_drewN | apply below_drew1) | exact HB.out)) hb); clear HB; have HB := n0_; clear n0_; (try clear hb); (try clear hb2); (try clear hk); (try clear hi)))
                        go_ret
                        exact ⟨by first | rfl | (simp [errW_none, errW_some] <;> rfl) | (simp [*, errW_none, errW_some] <;> rfl), by repeat (first | (with_reducible first | exact HB.out | apply below_alloc | apply pw_below_drewN | apply below_drew1) | exact HB.out)⟩
                    · rw [if_neg c27] at H
                      have c27b0 : decide (t163 ≤ 0) = false := decide_eq_false c27
                      clear c27
                      obtain rfl := Option.some.inj H
                      go_wp2_with (first | ((with_reducible refine gate_callee (f := 18) rfl ?_); refine goesL_ (some 60) rfl rfl Try.func18 (by kernel_rfl) rfl #[.string ((a0 ++ (⟨#[47]⟩ : ByteArray)) ++ a1), .string a3] rfl (by (try simp only [List.map_toArray, List.map_cons, List.map_nil]); first | done | rfl | (simp only [List.length_drop, List.length_take]; rfl)) ?_; (with_reducible refine (paths_Compare.calls kj15 ((a0 ++ (⟨#[47]⟩ : ByteArray)) ++ a1) a3 t163 _ A26.out).mono ?_); rintro e w35 ⟨rfl, hb⟩; refine ⟨_, rfl, ?_⟩; have n0_ := Aside0.mk (below_step (by repeat (first | (with_reducible first | exact HB.out | apply below_alloc | apply pw_below_drewN | apply below_drew1) | exact HB.out)) hb); clear HB; have HB := n0_; clear n0_; (try clear hb); (try clear hb2); (try clear hk); (try clear hi)))
                      go_ret
                      exact ⟨by first | rfl | (simp [errW_none, errW_some] <;> rfl) | (simp [*, errW_none, errW_some] <;> rfl), by repeat (first | (with_reducible first | exact HB.out | apply below_alloc | apply pw_below_drewN | apply below_drew1) | exact HB.out)⟩
            · rw [if_neg c15] at H
              exact absurd H (by simp)
          · rw [if_neg c14] at H
            exact absurd H (by simp)
        · rw [if_neg c13] at H
          exact absurd H (by simp)

/-- THE ONE PURE STATEMENT of graftbedlaw01_PathsNear: yours. -/
def graftbedlaw01_PathsNear.Pure : Prop := ∀ (a0 : ByteArray) (a1 : ByteArray) (a2 : ByteArray) (a3 : ByteArray), a0.size ≤ 140737488351232 → a1.size ≤ 140737488351232 → a2.size ≤ 140737488351232 → a3.size ≤ 140737488351232 → ∃ k, graftbedlaw01_PathsNear.f k a0 a1 a2 a3 = some true
theorem graftbedlaw01_PathsNear.walk (P : graftbedlaw01_PathsNear.Pure) (a0 : ByteArray) (a1 : ByteArray) (a2 : ByteArray) (a3 : ByteArray) (w : World) (w0 : a0.size ≤ 140737488351232) (w1 : a1.size ≤ 140737488351232) (w2 : a2.size ≤ 140737488351232) (w3 : a3.size ≤ 140737488351232) :
    Calls Try.prog 8 #[.string a0, .string a1, .string a2, .string a3] w fun e w' => e = .returned (.bool true) ∧ Below w.heap.size w w' := by
  obtain ⟨k, h⟩ := P a0 a1 a2 a3 w0 w1 w2 w3
  refine (graftbedlaw01_PathsNear.calls k a0 a1 a2 a3 true w h).mono ?_
  rintro e w' ⟨rfl, hd⟩
  exact ⟨rfl, hd⟩

/-! ### paths_Join: function 14 -/
def paths_Join.f (a0 : ByteArray) (a1 : ByteArray) : Option (ByteArray) := (paths_here.f a0).bind fun t167 => (if t167 = true then (some a1) else ((paths_here.f a1).bind fun t168 => (if t168 = true then (some a0) else (if a0.size + 1 ≤ 9223372036854775807 then (if (a0 ++ (⟨#[47]⟩ : ByteArray)).size + a1.size ≤ 9223372036854775807 then (some ((a0 ++ (⟨#[47]⟩ : ByteArray)) ++ a1)) else (none)) else (none)))))
set_option maxHeartbeats 8000000 in
set_option maxRecDepth 100000 in
theorem paths_Join.calls (a0 : ByteArray) (a1 : ByteArray) (r : ByteArray) (w : World) (h : paths_Join.f a0 a1 = some r) :
    Calls Try.prog 14 #[.string a0, .string a1] w fun e w' => e = .returned (.string r) ∧ Drawn0 w w' := by
  have H : ((paths_here.f a0).bind fun t167 => (if t167 = true then (some a1) else ((paths_here.f a1).bind fun t168 => (if t168 = true then (some a0) else (if a0.size + 1 ≤ 9223372036854775807 then (if (a0 ++ (⟨#[47]⟩ : ByteArray)).size + a1.size ≤ 9223372036854775807 then (some ((a0 ++ (⟨#[47]⟩ : ByteArray)) ++ a1)) else (none)) else (none)))))) = some r := h
  clear h
  replace H := Option.bind_eq_some_iff.mp H
  obtain ⟨t167, A30, H⟩ := H
  replace H : (if t167 = true then (some a1) else ((paths_here.f a1).bind fun t168 => (if t168 = true then (some a0) else (if a0.size + 1 ≤ 9223372036854775807 then (if (a0 ++ (⟨#[47]⟩ : ByteArray)).size + a1.size ≤ 9223372036854775807 then (some ((a0 ++ (⟨#[47]⟩ : ByteArray)) ++ a1)) else (none)) else (none))))) = some r := H
  have A3 := Aside0.mk A30
  clear A30
  by_cases c4 : t167 = true
  · subst c4
    have H1 : (some a1) = some r := by rw [if_pos rfl] at H; exact H
    clear H
    have H := H1
    clear H1
    obtain rfl := Option.some.inj H
    go_enter Try.func14, Try.ntmps14
    go_wp2_with (first | ((with_reducible refine gate_callee (f := 25) rfl ?_); refine goesL_ (some 7) rfl rfl Try.func25 (by kernel_rfl) rfl #[.string a0] rfl (by (try simp only [List.map_toArray, List.map_cons, List.map_nil]); first | done | rfl | (simp only [List.length_drop, List.length_take]; rfl)) ?_; (with_reducible refine (paths_here.calls a0 true _ A3.out).mono ?_); rintro e w' ⟨rfl, ⟨nd, rfl⟩⟩; refine ⟨_, rfl, ?_⟩))
    go_ret
    exact ⟨by first | rfl | (simp; done) | (simp [*]; done), by repeat (first | exact Drawn0.refl _ | apply Drawn0.step)⟩
  · replace c4 := Bool.eq_false_iff.mpr c4
    subst c4
    have H1 : ((paths_here.f a1).bind fun t168 => (if t168 = true then (some a0) else (if a0.size + 1 ≤ 9223372036854775807 then (if (a0 ++ (⟨#[47]⟩ : ByteArray)).size + a1.size ≤ 9223372036854775807 then (some ((a0 ++ (⟨#[47]⟩ : ByteArray)) ++ a1)) else (none)) else (none)))) = some r := by rw [if_neg (show ¬ (false = true) by decide)] at H; exact H
    clear H
    have H := H1
    clear H1
    replace H := Option.bind_eq_some_iff.mp H
    obtain ⟨t168, A50, H⟩ := H
    replace H : (if t168 = true then (some a0) else (if a0.size + 1 ≤ 9223372036854775807 then (if (a0 ++ (⟨#[47]⟩ : ByteArray)).size + a1.size ≤ 9223372036854775807 then (some ((a0 ++ (⟨#[47]⟩ : ByteArray)) ++ a1)) else (none)) else (none))) = some r := H
    have A5 := Aside0.mk A50
    clear A50
    by_cases c6 : t168 = true
    · subst c6
      have H1 : (some a0) = some r := by rw [if_pos rfl] at H; exact H
      clear H
      have H := H1
      clear H1
      obtain rfl := Option.some.inj H
      go_enter Try.func14, Try.ntmps14
      go_wp2_with (first | ((with_reducible refine gate_callee (f := 25) rfl ?_); refine goesL_ (some 7) rfl rfl Try.func25 (by kernel_rfl) rfl #[.string a0] rfl (by (try simp only [List.map_toArray, List.map_cons, List.map_nil]); first | done | rfl | (simp only [List.length_drop, List.length_take]; rfl)) ?_; (with_reducible refine (paths_here.calls a0 false _ A3.out).mono ?_); rintro e w' ⟨rfl, ⟨nd, rfl⟩⟩; refine ⟨_, rfl, ?_⟩) | ((with_reducible refine gate_callee (f := 25) rfl ?_); refine goesL_ (some 11) rfl rfl Try.func25 (by kernel_rfl) rfl #[.string a1] rfl (by (try simp only [List.map_toArray, List.map_cons, List.map_nil]); first | done | rfl | (simp only [List.length_drop, List.length_take]; rfl)) ?_; (with_reducible refine (paths_here.calls a1 true _ A5.out).mono ?_); rintro e w' ⟨rfl, ⟨nd, rfl⟩⟩; refine ⟨_, rfl, ?_⟩))
      go_ret
      exact ⟨by first | rfl | (simp; done) | (simp [*]; done), by repeat (first | exact Drawn0.refl _ | apply Drawn0.step)⟩
    · replace c6 := Bool.eq_false_iff.mpr c6
      subst c6
      have H1 : (if a0.size + 1 ≤ 9223372036854775807 then (if (a0 ++ (⟨#[47]⟩ : ByteArray)).size + a1.size ≤ 9223372036854775807 then (some ((a0 ++ (⟨#[47]⟩ : ByteArray)) ++ a1)) else (none)) else (none)) = some r := by rw [if_neg (show ¬ (false = true) by decide)] at H; exact H
      clear H
      have H := H1
      clear H1
      by_cases c7 : a0.size + 1 ≤ 9223372036854775807
      · rw [if_pos c7] at H
        have c7b0 := eq_true c7
        have c7b1 : decide (a0.size + 1 ≤ 9223372036854775807) = true := decide_eq_true c7
        try have c7b2 : (9223372036854775807 < a0.size + 1) = False := eq_false (Nat.not_lt.2 c7)
        have c7b7 := c7
        try simp only [ByteArray.size_append, StrOrd.size_slash] at c7b7
        have c7b8 := eq_false (Nat.not_lt.2 c7b7)
        by_cases c8 : (a0 ++ (⟨#[47]⟩ : ByteArray)).size + a1.size ≤ 9223372036854775807
        · rw [if_pos c8] at H
          have c8b0 := eq_true c8
          have c8b1 : decide ((a0 ++ (⟨#[47]⟩ : ByteArray)).size + a1.size ≤ 9223372036854775807) = true := decide_eq_true c8
          try have c8b2 : (9223372036854775807 < (a0 ++ (⟨#[47]⟩ : ByteArray)).size + a1.size) = False := eq_false (Nat.not_lt.2 c8)
          have c8b7 := c8
          try simp only [ByteArray.size_append, StrOrd.size_slash] at c8b7
          have c8b8 := eq_false (Nat.not_lt.2 c8b7)
          obtain rfl := Option.some.inj H
          go_enter Try.func14, Try.ntmps14
          go_wp2_with (first | ((with_reducible refine gate_callee (f := 25) rfl ?_); refine goesL_ (some 7) rfl rfl Try.func25 (by kernel_rfl) rfl #[.string a0] rfl (by (try simp only [List.map_toArray, List.map_cons, List.map_nil]); first | done | rfl | (simp only [List.length_drop, List.length_take]; rfl)) ?_; (with_reducible refine (paths_here.calls a0 false _ A3.out).mono ?_); rintro e w' ⟨rfl, ⟨nd, rfl⟩⟩; refine ⟨_, rfl, ?_⟩) | ((with_reducible refine gate_callee (f := 25) rfl ?_); refine goesL_ (some 11) rfl rfl Try.func25 (by kernel_rfl) rfl #[.string a1] rfl (by (try simp only [List.map_toArray, List.map_cons, List.map_nil]); first | done | rfl | (simp only [List.length_drop, List.length_take]; rfl)) ?_; (with_reducible refine (paths_here.calls a1 false _ A5.out).mono ?_); rintro e w' ⟨rfl, ⟨nd, rfl⟩⟩; refine ⟨_, rfl, ?_⟩))
          go_ret
          exact ⟨by first | rfl | (simp; done) | (simp [*]; done), by repeat (first | exact Drawn0.refl _ | apply Drawn0.step)⟩
        · rw [if_neg c8] at H
          exact absurd H (by simp)
      · rw [if_neg c7] at H
        exact absurd H (by simp)

/-! ### paths_Valid: function 20 -/
def paths_Valid.f (a0 : ByteArray) : Option (Bool) := if a0.size ≤ 140737488351232 then some (Valid.valid a0) else none
theorem paths_Valid.calls (a0 : ByteArray) (r : Bool) (w : World) (h : paths_Valid.f a0 = some r) :
    Calls Try.prog 20 #[.string a0] w fun e w' => e = .returned (.bool r) ∧ Below w.heap.size w w' := by
  unfold paths_Valid.f at h
  by_cases h1 : a0.size ≤ 140737488351232
  · rw [if_pos h1] at h
    obtain rfl := Option.some.inj h
    exact Valid.Valid_calls a0 h1 w
  · rw [if_neg h1] at h
    cases h

/-! ### graftbedref01_fine: function 31 -/
mutual
def graftbedref01_fine.j0 : Nat → Int → Bool → Option (Bool)
  | 0, _, _ => none
  | k + 1, x0, x10 => if x10 = true then (some false) else (graftbedref01_fine.l0 k x0 (⟨#[34, 42, 58, 60, 62, 63, 92, 124, 96]⟩ : ByteArray) 0)
def graftbedref01_fine.l0 : Nat → Int → ByteArray → Int → Option (Bool)
  | 0, _, _, _ => none
  | k + 1, x0, x3, x4 => if x4 < (x3.size : Int) then (if 0 ≤ x4 then (if (bt x3 x4) = x0 then (some false) else (graftbedref01_fine.l0 k x0 x3 (wrap64 (x4 + 1)))) else (none)) else (some true)
end
def graftbedref01_fine.f (k : Nat) (a0 : Int) : Option (Bool) := if a0 < 33 then (graftbedref01_fine.j0 k a0 true) else (graftbedref01_fine.j0 k a0 (decide (a0 > 126)))
theorem graftbedref01_fine.mono_l : ∀ k, (∀ y0 y1, LeO (graftbedref01_fine.j0 k y0 y1) (graftbedref01_fine.j0 (k + 1) y0 y1)) ∧ (∀ y0 y1 y2, LeO (graftbedref01_fine.l0 k y0 y1 y2) (graftbedref01_fine.l0 (k + 1) y0 y1 y2))
  | 0 => ⟨fun _ _ r h => by simp [graftbedref01_fine.j0] at h, fun _ _ _ r h => by simp [graftbedref01_fine.l0] at h⟩
  | k + 1 => by
    obtain ⟨ih0, ih1⟩ := graftbedref01_fine.mono_l k
    refine ⟨?_, ?_⟩
    · intro y0 y1
      unfold graftbedref01_fine.j0
      repeat' first
      | (with_reducible exact ih0 _ _)
      | (with_reducible exact ih1 _ _ _)
      | (with_reducible exact LeO.refl _)
      | (with_reducible exact LeO.none _)
      | (with_reducible refine LeO.ite ?_ ?_)
      | (with_reducible refine LeO.bind ?_ (fun _ => ?_))
      | exact ih0 _ _
      | exact ih1 _ _ _
      | exact LeO.none _
      | refine LeO.ite ?_ ?_
      | refine LeO.bind ?_ (fun _ => ?_)
    · intro y0 y1 y2
      unfold graftbedref01_fine.l0
      repeat' first
      | (with_reducible exact ih0 _ _)
      | (with_reducible exact ih1 _ _ _)
      | (with_reducible exact LeO.refl _)
      | (with_reducible exact LeO.none _)
      | (with_reducible refine LeO.ite ?_ ?_)
      | (with_reducible refine LeO.bind ?_ (fun _ => ?_))
      | exact ih0 _ _
      | exact ih1 _ _ _
      | exact LeO.none _
      | refine LeO.ite ?_ ?_
      | refine LeO.bind ?_ (fun _ => ?_)
theorem graftbedref01_fine.mono : ∀ a0 k, LeO (graftbedref01_fine.f k a0) (graftbedref01_fine.f (k + 1) a0) := by
  intro a0 k
  obtain ⟨ih0, ih1⟩ := graftbedref01_fine.mono_l k
  unfold graftbedref01_fine.f
  repeat' first
      | (with_reducible exact ih0 _ _)
      | (with_reducible exact ih1 _ _ _)
      | (with_reducible exact LeO.refl _)
      | (with_reducible exact LeO.none _)
      | (with_reducible refine LeO.ite ?_ ?_)
      | (with_reducible refine LeO.bind ?_ (fun _ => ?_))
      | exact ih0 _ _
      | exact ih1 _ _ _
      | exact LeO.none _
      | refine LeO.ite ?_ ?_
      | refine LeO.bind ?_ (fun _ => ?_)
set_option maxHeartbeats 8000000 in
set_option maxRecDepth 100000 in
theorem graftbedref01_fine.calls (k : Nat) (a0 : Int) (r : Bool) (w : World) (h : graftbedref01_fine.f k a0 = some r) :
    Calls Try.prog 31 #[.int .u8 a0] w fun e w' => e = .returned (.bool r) ∧ Drawn0 w w' := by
  have H : (if a0 < 33 then (graftbedref01_fine.j0 k a0 true) else (graftbedref01_fine.j0 k a0 (decide (a0 > 126)))) = some r := h
  clear h
  have HC2 := Aside0.mk H
  clear H
  go_enter Try.func31, Try.ntmps31
  go_upto_region 1 with (fail)
  go_cut [10] (fun v10 wc => ∃ (kq : Nat) (x10_1 : Bool), v10 = .bool x10_1 ∧ Aside0 (graftbedref01_fine.j0 kq a0 x10_1 = some r) ∧ Aside0 (kq ≤ k) ∧ Drawn0 w wc)
  case first =>
    have H := HC2.out
    clear HC2
    by_cases c3 : a0 < 33
    · rw [if_pos c3] at H
      have c3b0 : decide (a0 < 33) = true := decide_eq_true c3
      clear c3
      (first | rw [c3b0] | (simp only [i64_w, i32_w]; rw [c3b0]) | skip)
      have H' := Aside0.mk H
      clear H
      go_wp2
      go_meet
      case rel => exact ⟨_, (true), (by first | rfl | (simp; done) | (simp [*]; done)), H', ⟨by first | omega | exact Nat.le_refl _⟩, by repeat (first | exact Drawn0.refl _ | apply Drawn0.step)⟩
    · rw [if_neg c3] at H
      have c3b0 : decide (a0 < 33) = false := decide_eq_false c3
      clear c3
      (first | rw [c3b0] | (simp only [i64_w, i32_w]; rw [c3b0]) | skip)
      have H' := Aside0.mk H
      clear H
      go_wp2
      go_meet
      case rel => exact ⟨_, (decide (a0 > 126)), (by first | rfl | (simp; done) | (simp [*]; done)), H', ⟨by first | omega | exact Nat.le_refl _⟩, by repeat (first | exact Drawn0.refl _ | apply Drawn0.step)⟩
  case rest =>
    clear HC2
    try clear p2
    try clear c3
    try clear c3b0
    obtain ⟨kq, x10_1, rfl, HA, HJ1, ⟨mc1, rfl⟩⟩ := hcut
    cases kq with
    | zero => exact absurd HA.out (by simp [graftbedref01_fine.j0])
    | succ kj1 =>
      have H := HA.out
      clear HA
      simp only [graftbedref01_fine.j0] at H
      by_cases c4 : x10_1 = true
      · subst c4
        have H1 : (some false) = some r := by rw [if_pos rfl] at H; exact H
        clear H
        have H := H1
        clear H1
        obtain rfl := Option.some.inj H
        go_wp2
        go_ret
        exact ⟨by first | rfl | (simp; done) | (simp [*]; done), by repeat (first | exact Drawn0.refl _ | apply Drawn0.step)⟩
      · replace c4 := Bool.eq_false_iff.mpr c4
        subst c4
        have H1 : (graftbedref01_fine.l0 kj1 a0 (⟨#[34, 42, 58, 60, 62, 63, 92, 124, 96]⟩ : ByteArray) 0) = some r := by rw [if_neg (show ¬ (false = true) by decide)] at H; exact H
        clear H
        have H := H1
        clear H1
        have H' := Aside0.mk H
        clear H
        go_wp2
        go_loopg [4] kj1 (fun kq v4 w' => ∃ (x4_2 : Int), v4 = .int .i64 x4_2 ∧ Aside0 (graftbedref01_fine.l0 kq a0 (⟨#[34, 42, 58, 60, 62, 63, 92, 124, 96]⟩ : ByteArray) x4_2 = some r) ∧ Aside0 (kq ≤ kj1) ∧ Drawn0 w w')
        case atStart => exact ⟨(0), (by first | rfl | (simp; done) | (simp [*]; done)), H', ⟨Nat.le_refl _⟩, by repeat (first | exact Drawn0.refl _ | apply Drawn0.step)⟩
        case round =>
          clear H'
          try clear c1
          try clear p2
          try clear c3
          try clear c3b0
          try clear c4
          try clear p2
          obtain ⟨x4_2, rfl, HA, HK2, ⟨m2, rfl⟩⟩ := hrel
          cases gk with
          | zero => exact absurd HA.out (by simp [graftbedref01_fine.l0])
          | succ k2 =>
            have H := HA.out
            clear HA
            simp only [graftbedref01_fine.l0] at H
            by_cases c5 : x4_2 < ((⟨#[34, 42, 58, 60, 62, 63, 92, 124, 96]⟩ : ByteArray).size : Int)
            · rw [if_pos c5] at H
              have c5b0 : decide (x4_2 < ((⟨#[34, 42, 58, 60, 62, 63, 92, 124, 96]⟩ : ByteArray).size : Int)) = true := decide_eq_true c5
              have c5b9 : decide (x4_2 < (9 : Int)) = true := c5b0
              clear c5
              by_cases c6 : 0 ≤ x4_2
              · rw [if_pos c6] at H
                have c6b0 : decide (0 ≤ x4_2) = true := decide_eq_true c6
                clear c6
                by_cases c8 : (bt (⟨#[34, 42, 58, 60, 62, 63, 92, 124, 96]⟩ : ByteArray) x4_2) = a0
                · rw [if_pos c8] at H
                  have c8b0 : ((bt (⟨#[34, 42, 58, 60, 62, 63, 92, 124, 96]⟩ : ByteArray) x4_2) == a0) = true := beq_iff_eq.mpr c8
                  have c8b1 : ((bt (⟨#[34, 42, 58, 60, 62, 63, 92, 124, 96]⟩ : ByteArray) x4_2) != a0) = false := bne_eq_false_iff_eq.mpr c8
                  clear c8
                  obtain rfl := Option.some.inj H
                  have p7 : 0 ≤ (x4_2 : Int) := of_decide_eq_true (by first | (with_reducible assumption) | assumption)
                  have q7 : x4_2 < (9 : Int) := of_decide_eq_true (by first | (with_reducible assumption) | assumption)
                  have hx7 := bt_at (⟨#[34, 42, 58, 60, 62, 63, 92, 124, 96]⟩ : ByteArray) x4_2
                  replace p7 := eq_true p7
                  replace q7 := eq_true q7
                  go_wp2
                  go_ret
                  exact ⟨by first | rfl | (simp; done) | (simp [*]; done), by repeat (first | exact Drawn0.refl _ | apply Drawn0.step)⟩
                · rw [if_neg c8] at H
                  have c8b0 : ((bt (⟨#[34, 42, 58, 60, 62, 63, 92, 124, 96]⟩ : ByteArray) x4_2) == a0) = false := beq_eq_false_iff_ne.mpr c8
                  have c8b1 : ((bt (⟨#[34, 42, 58, 60, 62, 63, 92, 124, 96]⟩ : ByteArray) x4_2) != a0) = true := bne_iff_ne.mpr c8
                  have H' := Aside0.mk H
                  clear H
                  have p7 : 0 ≤ (x4_2 : Int) := of_decide_eq_true (by first | (with_reducible assumption) | assumption)
                  have q7 : x4_2 < (9 : Int) := of_decide_eq_true (by first | (with_reducible assumption) | assumption)
                  have hx7 := bt_at (⟨#[34, 42, 58, 60, 62, 63, 92, 124, 96]⟩ : ByteArray) x4_2
                  replace p7 := eq_true p7
                  replace q7 := eq_true q7
                  go_wp2
                  go_roundg k2
                  case measure => have := HJ1.out; have := HK2.out; omega
                  case rel => exact ⟨(wrap64 (x4_2 + 1)), (by first | rfl | (simp; done) | (simp [*]; done)), H', ⟨by have := HJ1.out; have := HK2.out; omega⟩, by repeat (first | exact Drawn0.refl _ | apply Drawn0.step)⟩
              · rw [if_neg c6] at H
                exact absurd H (by simp)
            · rw [if_neg c5] at H
              have c5b0 : decide (x4_2 < ((⟨#[34, 42, 58, 60, 62, 63, 92, 124, 96]⟩ : ByteArray).size : Int)) = false := decide_eq_false c5
              have c5b9 : decide (x4_2 < (9 : Int)) = false := c5b0
              clear c5
              obtain rfl := Option.some.inj H
              go_wp2
              go_ret
              exact ⟨by first | rfl | (simp; done) | (simp [*]; done), by repeat (first | exact Drawn0.refl _ | apply Drawn0.step)⟩

end Go.Proofs.Ythiecbkkbiejjaa.PAll
