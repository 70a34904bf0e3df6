/- Printed parts, put together. -/
import Derived.Test.YtaddonafdllciaaDoorMpa
-- by hprint.py (wip/): the kit's print over contracts proved by hand; a text of this session
namespace Go.Proofs.YtaddonafdllciaaDoor.PAll
open Go.RowKit Go.Proofs.YtaddonafdllciaaDoorW.PrintWords Go.Proofs.YtaddonafdllciaaDoorW.PrintLast Go.Proofs.YtaddonafdllciaaDoorW.PrintMore
attribute [local go_sem] max2_int min2_int max_two min_two max_three min_three max_four min_four   -- for this text's walks alone
set_option linter.unusedVariables false
set_option linter.unusedSimpArgs false

/-! ### graftbedlaw03_SemverOrder: function 9 -/
mutual
def graftbedlaw03_SemverOrder.j0 : Nat → ByteArray → ByteArray → ByteArray → Bool → Option (Bool)
  | 0, _, _, _, _ => none
  | k + 1, x0, x1, x2, x21 => if x21 = true then (some true) else ((semver_Compare.f k x0 x1).bind fun t174 => ((semver_Max.f k x0 x1).bind fun t175 => ((graftbedref03_Compare.f k x0 x1).bind fun t176 => (if t174 = t176 then ((semver_Compare.f k x1 x0).bind fun t177 => (if t177 = (wrap64 (-t174)) then ((semver_Compare.f k x0 x0).bind fun t178 => (if t178 = 0 then ((graftbedref03_Max.f k x0 x1).bind fun t179 => (graftbedlaw03_SemverOrder.j1 k x0 x1 x2 t174 t175 (t175.toList != t179.toList))) else (graftbedlaw03_SemverOrder.j1 k x0 x1 x2 t174 t175 true))) else (graftbedlaw03_SemverOrder.j1 k x0 x1 x2 t174 t175 true))) else (graftbedlaw03_SemverOrder.j1 k x0 x1 x2 t174 t175 true)))))
def graftbedlaw03_SemverOrder.j1 : Nat → ByteArray → ByteArray → ByteArray → Int → ByteArray → Bool → Option (Bool)
  | 0, _, _, _, _, _, _ => none
  | k + 1, x0, x1, x2, x7, x8, x53 => if x53 = true then (some false) else (if x7 ≤ 0 then ((semver_Compare.f k x1 x2).bind fun t180 => (if t180 ≤ 0 then ((semver_Compare.f k x0 x2).bind fun t181 => (if t181 > 0 then (some false) else ((semver_Compare.f k x8 x0).bind fun t182 => (if t182 < 0 then (some false) else ((semver_Compare.f k x8 x1).bind fun t183 => (if t183 < 0 then (some false) else ((semver_Compare.f k (⟨#[118, 49, 46, 48, 46, 48, 45, 97]⟩ : ByteArray) (⟨#[118, 49, 46, 48, 46, 48]⟩ : ByteArray)).bind fun t184 => (some (t184 == (-1)))))))))) else ((semver_Compare.f k x8 x0).bind fun t185 => (if t185 < 0 then (some false) else ((semver_Compare.f k x8 x1).bind fun t186 => (if t186 < 0 then (some false) else ((semver_Compare.f k (⟨#[118, 49, 46, 48, 46, 48, 45, 97]⟩ : ByteArray) (⟨#[118, 49, 46, 48, 46, 48]⟩ : ByteArray)).bind fun t187 => (some (t187 == (-1)))))))))) else ((semver_Compare.f k x8 x0).bind fun t188 => (if t188 < 0 then (some false) else ((semver_Compare.f k x8 x1).bind fun t189 => (if t189 < 0 then (some false) else ((semver_Compare.f k (⟨#[118, 49, 46, 48, 46, 48, 45, 97]⟩ : ByteArray) (⟨#[118, 49, 46, 48, 46, 48]⟩ : ByteArray)).bind fun t190 => (some (t190 == (-1)))))))))
end
def graftbedlaw03_SemverOrder.f (k : Nat) (a0 : ByteArray) (a1 : ByteArray) (a2 : ByteArray) : Option (Bool) := if (a0.size : Int) > 1024 then (graftbedlaw03_SemverOrder.j0 k a0 a1 a2 true) else (if (a1.size : Int) > 1024 then (graftbedlaw03_SemverOrder.j0 k a0 a1 a2 true) else (graftbedlaw03_SemverOrder.j0 k a0 a1 a2 (decide ((a2.size : Int) > 1024))))
theorem graftbedlaw03_SemverOrder.mono_l : ∀ k, (∀ y0 y1 y2 y3, LeO (graftbedlaw03_SemverOrder.j0 k y0 y1 y2 y3) (graftbedlaw03_SemverOrder.j0 (k + 1) y0 y1 y2 y3)) ∧ (∀ y0 y1 y2 y3 y4 y5, LeO (graftbedlaw03_SemverOrder.j1 k y0 y1 y2 y3 y4 y5) (graftbedlaw03_SemverOrder.j1 (k + 1) y0 y1 y2 y3 y4 y5))
  | 0 => ⟨fun _ _ _ _ r h => by simp [graftbedlaw03_SemverOrder.j0] at h, fun _ _ _ _ _ _ r h => by simp [graftbedlaw03_SemverOrder.j1] at h⟩
  | k + 1 => by
    obtain ⟨ih0, ih1⟩ := graftbedlaw03_SemverOrder.mono_l k
    refine ⟨?_, ?_⟩
    · intro y0 y1 y2 y3
      unfold graftbedlaw03_SemverOrder.j0
      repeat' first
      | (with_reducible exact ih0 _ _ _ _)
      | (with_reducible exact ih1 _ _ _ _ _ _)
      | (with_reducible exact graftbedref03_Compare.mono _ _ _)
      | (with_reducible exact graftbedref03_Max.mono _ _ _)
      | (with_reducible exact semver_Compare.mono _ _ _)
      | (with_reducible exact semver_Max.mono _ _ _)
      | (with_reducible exact LeO.refl _)
      | (with_reducible exact LeO.none _)
      | (with_reducible refine LeO.ite ?_ ?_)
      | (with_reducible refine LeO.bind ?_ (fun _ => ?_))
      | exact ih0 _ _ _ _
      | exact ih1 _ _ _ _ _ _
      | exact graftbedref03_Compare.mono _ _ _
      | exact graftbedref03_Max.mono _ _ _
      | exact semver_Compare.mono _ _ _
      | exact semver_Max.mono _ _ _
      | exact LeO.none _
      | refine LeO.ite ?_ ?_
      | refine LeO.bind ?_ (fun _ => ?_)
    · intro y0 y1 y2 y3 y4 y5
      unfold graftbedlaw03_SemverOrder.j1
      repeat' first
      | (with_reducible exact ih0 _ _ _ _)
      | (with_reducible exact ih1 _ _ _ _ _ _)
      | (with_reducible exact graftbedref03_Compare.mono _ _ _)
      | (with_reducible exact graftbedref03_Max.mono _ _ _)
      | (with_reducible exact semver_Compare.mono _ _ _)
      | (with_reducible exact semver_Max.mono _ _ _)
      | (with_reducible exact LeO.refl _)
      | (with_reducible exact LeO.none _)
      | (with_reducible refine LeO.ite ?_ ?_)
      | (with_reducible refine LeO.bind ?_ (fun _ => ?_))
      | exact ih0 _ _ _ _
      | exact ih1 _ _ _ _ _ _
      | exact graftbedref03_Compare.mono _ _ _
      | exact graftbedref03_Max.mono _ _ _
      | exact semver_Compare.mono _ _ _
      | exact semver_Max.mono _ _ _
      | exact LeO.none _
      | refine LeO.ite ?_ ?_
      | refine LeO.bind ?_ (fun _ => ?_)
theorem graftbedlaw03_SemverOrder.mono : ∀ a0 a1 a2 k, LeO (graftbedlaw03_SemverOrder.f k a0 a1 a2) (graftbedlaw03_SemverOrder.f (k + 1) a0 a1 a2) := by
  intro a0 a1 a2 k
  obtain ⟨ih0, ih1⟩ := graftbedlaw03_SemverOrder.mono_l k
  unfold graftbedlaw03_SemverOrder.f
  repeat' first
      | (with_reducible exact ih0 _ _ _ _)
      | (with_reducible exact ih1 _ _ _ _ _ _)
      | (with_reducible exact graftbedref03_Compare.mono _ _ _)
      | (with_reducible exact graftbedref03_Max.mono _ _ _)
      | (with_reducible exact semver_Compare.mono _ _ _)
      | (with_reducible exact semver_Max.mono _ _ _)
      | (with_reducible exact LeO.refl _)
      | (with_reducible exact LeO.none _)
      | (with_reducible refine LeO.ite ?_ ?_)
      | (with_reducible refine LeO.bind ?_ (fun _ => ?_))
      | exact ih0 _ _ _ _
      | exact ih1 _ _ _ _ _ _
      | exact graftbedref03_Compare.mono _ _ _
      | exact graftbedref03_Max.mono _ _ _
      | exact semver_Compare.mono _ _ _
      | exact semver_Max.mono _ _ _
      | exact LeO.none _
      | refine LeO.ite ?_ ?_
      | refine LeO.bind ?_ (fun _ => ?_)
set_option maxHeartbeats 8000000 in
set_option maxRecDepth 100000 in
theorem graftbedlaw03_SemverOrder.calls (k : Nat) (a0 : ByteArray) (a1 : ByteArray) (a2 : ByteArray) (r : Bool) (w : World) (h : graftbedlaw03_SemverOrder.f k a0 a1 a2 = some r) :
    Calls Tryd.prog 9 #[.string a0, .string a1, .string a2] w fun e w' => e = .returned (.bool r) ∧ Below w.heap.size w w' := by
  have HB := Aside0.mk (Below.refl w.heap.size w)
  have H : (if (a0.size : Int) > 1024 then (graftbedlaw03_SemverOrder.j0 k a0 a1 a2 true) else (if (a1.size : Int) > 1024 then (graftbedlaw03_SemverOrder.j0 k a0 a1 a2 true) else (graftbedlaw03_SemverOrder.j0 k a0 a1 a2 (decide ((a2.size : Int) > 1024))))) = some r := h
  clear h
  have HC4 := Aside0.mk H
  clear H
  go_enter Tryd.func9, Tryd.ntmps9
  go_upto_region 1 with (fail)
  go_cut [21] (fun v21 wc => ∃ (kq : Nat) (x21_3 : Bool), v21 = .bool x21_3 ∧ Aside0 (graftbedlaw03_SemverOrder.j0 kq a0 a1 a2 x21_3 = some r) ∧ Aside0 (kq ≤ k) ∧ Aside0 (Below w.heap.size w wc))
  case first =>
    have H := HC4.out
    clear HC4
    by_cases c5 : (a0.size : Int) > 1024
    · rw [if_pos c5] at H
      have c5b0 : decide (1024 < (a0.size : Int)) = true := decide_eq_true c5
      have c5b1 : decide (1024 < a0.size) = true := decide_eq_true (by omega)
      clear c5
      (first | rw [c5b0] | (simp only [i64_w, i32_w]; rw [c5b0]) | skip)
      have H' := Aside0.mk H
      clear H
      go_wp2
      go_meet
      case rel => exact ⟨_, (true), (by first | rfl | (simp; done) | (simp [*]; done)), H', ⟨by first | omega | exact Nat.le_refl _⟩, ⟨by repeat (first | (with_reducible first | exact HB.out | apply below_alloc | apply pw_below_drewN | apply below_drew1) | exact HB.out)⟩⟩
    · rw [if_neg c5] at H
      have c5b0 : decide (1024 < (a0.size : Int)) = false := decide_eq_false c5
      have c5b1 : decide (1024 < a0.size) = false := decide_eq_false (by omega)
      clear c5
      (first | rw [c5b0] | (simp only [i64_w, i32_w]; rw [c5b0]) | skip)
      by_cases c6 : (a1.size : Int) > 1024
      · rw [if_pos c6] at H
        have c6b0 : decide (1024 < (a1.size : Int)) = true := decide_eq_true c6
        have c6b1 : decide (1024 < a1.size) = true := decide_eq_true (by omega)
        clear c6
        have H' := Aside0.mk H
        clear H
        go_wp2
        go_meet
        case rel => exact ⟨_, (true), (by first | rfl | (simp; done) | (simp [*]; done)), H', ⟨by first | omega | exact Nat.le_refl _⟩, ⟨by repeat (first | (with_reducible first | exact HB.out | apply below_alloc | apply pw_below_drewN | apply below_drew1) | exact HB.out)⟩⟩
      · rw [if_neg c6] at H
        have c6b0 : decide (1024 < (a1.size : Int)) = false := decide_eq_false c6
        have c6b1 : decide (1024 < a1.size) = false := decide_eq_false (by omega)
        clear c6
        have H' := Aside0.mk H
        clear H
        go_wp2
        go_meet
        case rel => exact ⟨_, (decide ((a2.size : Int) > 1024)), (by first | rfl | (simp; done) | (simp [*]; done)), H', ⟨by first | omega | exact Nat.le_refl _⟩, ⟨by repeat (first | (with_reducible first | exact HB.out | apply below_alloc | apply pw_below_drewN | apply below_drew1) | exact HB.out)⟩⟩
  case rest =>
    clear HC4
    try clear p2
    try clear c5
    try clear c5b0
    try clear c5b1
    try clear c6
    try clear c6b0
    try clear c6b1
    obtain ⟨kq, x21_3, rfl, HA, HJ3, HB⟩ := hcut
    cases kq with
    | zero => exact absurd HA.out (by simp [graftbedlaw03_SemverOrder.j0])
    | succ kj3 =>
      have H := HA.out
      clear HA
      simp only [graftbedlaw03_SemverOrder.j0] at H
      by_cases c7 : x21_3 = true
      · subst c7
        have H1 : (some true) = some r := by rw [if_pos rfl] at H; exact H
        clear H
        have H := H1
        clear H1
        obtain rfl := Option.some.inj H
        go_wp2
        go_ret
        exact ⟨by first | rfl | (simp [errW_none, errW_some] <;> rfl) | (simp [*, errW_none, errW_some] <;> rfl) | (exfalso; simp only [decide_eq_true_eq, decide_eq_false_iff_not, beq_iff_eq, beq_eq_false_iff_ne] at *; first | contradiction | omega), by repeat (first | (with_reducible first | exact HB.out | apply below_alloc | apply pw_below_drewN | apply below_drew1) | exact HB.out)⟩
      · replace c7 := Bool.eq_false_iff.mpr c7
        subst c7
        have H1 : ((semver_Compare.f kj3 a0 a1).bind fun t174 => ((semver_Max.f kj3 a0 a1).bind fun t175 => ((graftbedref03_Compare.f kj3 a0 a1).bind fun t176 => (if t174 = t176 then ((semver_Compare.f kj3 a1 a0).bind fun t177 => (if t177 = (wrap64 (-t174)) then ((semver_Compare.f kj3 a0 a0).bind fun t178 => (if t178 = 0 then ((graftbedref03_Max.f kj3 a0 a1).bind fun t179 => (graftbedlaw03_SemverOrder.j1 kj3 a0 a1 a2 t174 t175 (t175.toList != t179.toList))) else (graftbedlaw03_SemverOrder.j1 kj3 a0 a1 a2 t174 t175 true))) else (graftbedlaw03_SemverOrder.j1 kj3 a0 a1 a2 t174 t175 true))) else (graftbedlaw03_SemverOrder.j1 kj3 a0 a1 a2 t174 t175 true))))) = some r := by rw [if_neg (show ¬ (false = true) by decide)] at H; exact H
        clear H
        have H := H1
        clear H1
        replace H := Option.bind_eq_some_iff.mp H
        obtain ⟨t174, A80, H⟩ := H
        replace H : ((semver_Max.f kj3 a0 a1).bind fun t175 => ((graftbedref03_Compare.f kj3 a0 a1).bind fun t176 => (if t174 = t176 then ((semver_Compare.f kj3 a1 a0).bind fun t177 => (if t177 = (wrap64 (-t174)) then ((semver_Compare.f kj3 a0 a0).bind fun t178 => (if t178 = 0 then ((graftbedref03_Max.f kj3 a0 a1).bind fun t179 => (graftbedlaw03_SemverOrder.j1 kj3 a0 a1 a2 t174 t175 (t175.toList != t179.toList))) else (graftbedlaw03_SemverOrder.j1 kj3 a0 a1 a2 t174 t175 true))) else (graftbedlaw03_SemverOrder.j1 kj3 a0 a1 a2 t174 t175 true))) else (graftbedlaw03_SemverOrder.j1 kj3 a0 a1 a2 t174 t175 true)))) = some r := H
        have A8 := Aside0.mk A80
        clear A80
        replace H := Option.bind_eq_some_iff.mp H
        obtain ⟨t175, A90, H⟩ := H
        replace H : ((graftbedref03_Compare.f kj3 a0 a1).bind fun t176 => (if t174 = t176 then ((semver_Compare.f kj3 a1 a0).bind fun t177 => (if t177 = (wrap64 (-t174)) then ((semver_Compare.f kj3 a0 a0).bind fun t178 => (if t178 = 0 then ((graftbedref03_Max.f kj3 a0 a1).bind fun t179 => (graftbedlaw03_SemverOrder.j1 kj3 a0 a1 a2 t174 t175 (t175.toList != t179.toList))) else (graftbedlaw03_SemverOrder.j1 kj3 a0 a1 a2 t174 t175 true))) else (graftbedlaw03_SemverOrder.j1 kj3 a0 a1 a2 t174 t175 true))) else (graftbedlaw03_SemverOrder.j1 kj3 a0 a1 a2 t174 t175 true))) = some r := H
        have A9 := Aside0.mk A90
        clear A90
        have HC10 := Aside0.mk H
        clear H
        go_upto_region 5 with (first | ((with_reducible refine gate_callee (f := 22) rfl ?_); refine goesL_ (some 24) rfl rfl Tryd.func22 (by kernel_rfl) rfl #[.string a0, .string a1] rfl (by (try simp only [List.map_toArray, List.map_cons, List.map_nil]); first | done | rfl | (simp only [List.length_drop, List.length_take]; rfl)) ?_; (with_reducible refine (semver_Compare.calls kj3 a0 a1 t174 _ A8.out).mono ?_); rintro e w11 ⟨rfl, hb⟩; refine ⟨_, rfl, ?_⟩; have n0_ := Aside0.mk (below_step (by repeat (first | (with_reducible first | exact HB.out | apply below_alloc | apply pw_below_drewN | apply below_drew1) | exact HB.out)) hb); clear HB; have HB := n0_; clear n0_; (try clear hb); (try clear hb2); (try clear hk); (try clear hi)) | ((with_reducible refine gate_callee (f := 24) rfl ?_); refine goesL_ (some 27) rfl rfl Tryd.func24 (by kernel_rfl) rfl #[.string a0, .string a1] rfl (by (try simp only [List.map_toArray, List.map_cons, List.map_nil]); first | done | rfl | (simp only [List.length_drop, List.length_take]; rfl)) ?_; (with_reducible refine (semver_Max.calls kj3 a0 a1 t175 _ A9.out).mono ?_); rintro e w12 ⟨rfl, hb⟩; refine ⟨_, rfl, ?_⟩; have n0_ := Aside0.mk (below_step (by repeat (first | (with_reducible first | exact HB.out | apply below_alloc | apply pw_below_drewN | apply below_drew1) | exact HB.out)) hb); clear HB; have HB := n0_; clear n0_; (try clear hb); (try clear hb2); (try clear hk); (try clear hi)))
        (try simp only [Act.put, List.setIfInBounds_toArray, List.set_cons_zero, List.set_cons_succ])
        go_cut [53] (fun v53 wc => ∃ (kq : Nat) (x53_9 : Bool), v53 = .bool x53_9 ∧ Aside0 (graftbedlaw03_SemverOrder.j1 kq a0 a1 a2 t174 t175 x53_9 = some r) ∧ Aside0 (kq ≤ kj3) ∧ Aside0 (Below w.heap.size w wc))
        case first =>
          have H := HC10.out
          clear HC10
          replace H := Option.bind_eq_some_iff.mp H
          obtain ⟨t176, A130, H⟩ := H
          replace H : (if t174 = t176 then ((semver_Compare.f kj3 a1 a0).bind fun t177 => (if t177 = (wrap64 (-t174)) then ((semver_Compare.f kj3 a0 a0).bind fun t178 => (if t178 = 0 then ((graftbedref03_Max.f kj3 a0 a1).bind fun t179 => (graftbedlaw03_SemverOrder.j1 kj3 a0 a1 a2 t174 t175 (t175.toList != t179.toList))) else (graftbedlaw03_SemverOrder.j1 kj3 a0 a1 a2 t174 t175 true))) else (graftbedlaw03_SemverOrder.j1 kj3 a0 a1 a2 t174 t175 true))) else (graftbedlaw03_SemverOrder.j1 kj3 a0 a1 a2 t174 t175 true)) = some r := H
          have A13 := Aside0.mk A130
          clear A130
          by_cases c14 : t174 = t176
          · rw [if_pos c14] at H
            have c14b0 : (t174 == t176) = true := beq_iff_eq.mpr c14
            have c14b1 : (t174 != t176) = false := bne_eq_false_iff_eq.mpr c14
            clear c14
            (first | rw [c14b0] | (simp only [i64_w, i32_w]; rw [c14b0]) | skip)
            replace H := Option.bind_eq_some_iff.mp H
            obtain ⟨t177, A150, H⟩ := H
            replace H : (if t177 = (wrap64 (-t174)) then ((semver_Compare.f kj3 a0 a0).bind fun t178 => (if t178 = 0 then ((graftbedref03_Max.f kj3 a0 a1).bind fun t179 => (graftbedlaw03_SemverOrder.j1 kj3 a0 a1 a2 t174 t175 (t175.toList != t179.toList))) else (graftbedlaw03_SemverOrder.j1 kj3 a0 a1 a2 t174 t175 true))) else (graftbedlaw03_SemverOrder.j1 kj3 a0 a1 a2 t174 t175 true)) = some r := H
            have A15 := Aside0.mk A150
            clear A150
            by_cases c16 : t177 = (wrap64 (-t174))
            · rw [if_pos c16] at H
              have c16b0 : (t177 == (wrap64 (-t174))) = true := beq_iff_eq.mpr c16
              have c16b1 : (t177 != (wrap64 (-t174))) = false := bne_eq_false_iff_eq.mpr c16
              clear c16
              replace H := Option.bind_eq_some_iff.mp H
              obtain ⟨t178, A170, H⟩ := H
              replace H : (if t178 = 0 then ((graftbedref03_Max.f kj3 a0 a1).bind fun t179 => (graftbedlaw03_SemverOrder.j1 kj3 a0 a1 a2 t174 t175 (t175.toList != t179.toList))) else (graftbedlaw03_SemverOrder.j1 kj3 a0 a1 a2 t174 t175 true)) = some r := H
              have A17 := Aside0.mk A170
              clear A170
              by_cases c18 : t178 = 0
              · rw [if_pos c18] at H
                have c18b0 : (t178 == 0) = true := beq_iff_eq.mpr c18
                have c18b1 : (t178 != 0) = false := bne_eq_false_iff_eq.mpr c18
                clear c18
                replace H := Option.bind_eq_some_iff.mp H
                obtain ⟨t179, A190, H⟩ := H
                replace H : (graftbedlaw03_SemverOrder.j1 kj3 a0 a1 a2 t174 t175 (t175.toList != t179.toList)) = some r := H
                have A19 := Aside0.mk A190
                clear A190
                have H' := Aside0.mk H
                clear H
                go_wp2_with (first | ((with_reducible refine gate_callee (f := 25) rfl ?_); refine goesL_ (some 31) rfl rfl Tryd.func25 (by kernel_rfl) rfl #[.string a0, .string a1] rfl (by (try simp only [List.map_toArray, List.map_cons, List.map_nil]); first | done | rfl | (simp only [List.length_drop, List.length_take]; rfl)) ?_; (with_reducible refine (graftbedref03_Compare.calls kj3 a0 a1 t176 _ A13.out).mono ?_); rintro e w20 ⟨rfl, hb⟩; refine ⟨_, rfl, ?_⟩; have n0_ := Aside0.mk (below_step (by repeat (first | (with_reducible first | exact HB.out | apply below_alloc | apply pw_below_drewN | apply below_drew1) | exact HB.out)) hb); clear HB; have HB := n0_; clear n0_; (try clear hb); (try clear hb2); (try clear hk); (try clear hi)) | (go_at_call 22; (with_reducible refine (semver_Compare.calls kj3 a1 a0 t177 _ A15.out).mono ?_); rintro e w21 ⟨rfl, hb⟩; have n0_ := Aside0.mk (below_step (by repeat (first | (with_reducible first | exact HB.out | apply below_alloc | apply pw_below_drewN | apply below_drew1) | exact HB.out)) hb); clear HB; have HB := n0_; clear n0_; (try clear hb); (try clear hb2); (try clear hk); (try clear hi)) | (go_at_call 22; (with_reducible refine (semver_Compare.calls kj3 a0 a0 t178 _ A17.out).mono ?_); rintro e w22 ⟨rfl, hb⟩; have n0_ := Aside0.mk (below_step (by repeat (first | (with_reducible first | exact HB.out | apply below_alloc | apply pw_below_drewN | apply below_drew1) | exact HB.out)) hb); clear HB; have HB := n0_; clear n0_; (try clear hb); (try clear hb2); (try clear hk); (try clear hi)) | (go_at_call 26; (with_reducible refine (graftbedref03_Max.calls kj3 a0 a1 t179 _ A19.out).mono ?_); rintro e w23 ⟨rfl, hb⟩; have n0_ := Aside0.mk (below_step (by repeat (first | (with_reducible first | exact HB.out | apply below_alloc | apply pw_below_drewN | apply below_drew1) | exact HB.out)) hb); clear HB; have HB := n0_; clear n0_; (try clear hb); (try clear hb2); (try clear hk); (try clear hi)))
                go_meet
                case rel => exact ⟨_, ((t175.toList != t179.toList)), (by first | rfl | (simp; done) | (simp [*]; done)), H', ⟨by have := HJ3.out; first | omega | exact Nat.le_refl _⟩, ⟨by repeat (first | (with_reducible first | exact HB.out | apply below_alloc | apply pw_below_drewN | apply below_drew1) | exact HB.out)⟩⟩
              · rw [if_neg c18] at H
                have c18b0 : (t178 == 0) = false := beq_eq_false_iff_ne.mpr c18
                have c18b1 : (t178 != 0) = true := bne_iff_ne.mpr c18
                have H' := Aside0.mk H
                clear H
                go_wp2_with (first | ((with_reducible refine gate_callee (f := 25) rfl ?_); refine goesL_ (some 31) rfl rfl Tryd.func25 (by kernel_rfl) rfl #[.string a0, .string a1] rfl (by (try simp only [List.map_toArray, List.map_cons, List.map_nil]); first | done | rfl | (simp only [List.length_drop, List.length_take]; rfl)) ?_; (with_reducible refine (graftbedref03_Compare.calls kj3 a0 a1 t176 _ A13.out).mono ?_); rintro e w24 ⟨rfl, hb⟩; refine ⟨_, rfl, ?_⟩; have n0_ := Aside0.mk (below_step (by repeat (first | (with_reducible first | exact HB.out | apply below_alloc | apply pw_below_drewN | apply below_drew1) | exact HB.out)) hb); clear HB; have HB := n0_; clear n0_; (try clear hb); (try clear hb2); (try clear hk); (try clear hi)) | (go_at_call 22; (with_reducible refine (semver_Compare.calls kj3 a1 a0 t177 _ A15.out).mono ?_); rintro e w25 ⟨rfl, hb⟩; have n0_ := Aside0.mk (below_step (by repeat (first | (with_reducible first | exact HB.out | apply below_alloc | apply pw_below_drewN | apply below_drew1) | exact HB.out)) hb); clear HB; have HB := n0_; clear n0_; (try clear hb); (try clear hb2); (try clear hk); (try clear hi)) | (go_at_call 22; (with_reducible refine (semver_Compare.calls kj3 a0 a0 t178 _ A17.out).mono ?_); rintro e w26 ⟨rfl, hb⟩; have n0_ := Aside0.mk (below_step (by repeat (first | (with_reducible first | exact HB.out | apply below_alloc | apply pw_below_drewN | apply below_drew1) | exact HB.out)) hb); clear HB; have HB := n0_; clear n0_; (try clear hb); (try clear hb2); (try clear hk); (try clear hi)))
                go_meet
                case rel => exact ⟨_, (true), (by first | rfl | (simp; done) | (simp [*]; done)), H', ⟨by have := HJ3.out; first | omega | exact Nat.le_refl _⟩, ⟨by repeat (first | (with_reducible first | exact HB.out | apply below_alloc | apply pw_below_drewN | apply below_drew1) | exact HB.out)⟩⟩
            · rw [if_neg c16] at H
              have c16b0 : (t177 == (wrap64 (-t174))) = false := beq_eq_false_iff_ne.mpr c16
              have c16b1 : (t177 != (wrap64 (-t174))) = true := bne_iff_ne.mpr c16
              have H' := Aside0.mk H
              clear H
              go_wp2_with (first | ((with_reducible refine gate_callee (f := 25) rfl ?_); refine goesL_ (some 31) rfl rfl Tryd.func25 (by kernel_rfl) rfl #[.string a0, .string a1] rfl (by (try simp only [List.map_toArray, List.map_cons, List.map_nil]); first | done | rfl | (simp only [List.length_drop, List.length_take]; rfl)) ?_; (with_reducible refine (graftbedref03_Compare.calls kj3 a0 a1 t176 _ A13.out).mono ?_); rintro e w27 ⟨rfl, hb⟩; refine ⟨_, rfl, ?_⟩; have n0_ := Aside0.mk (below_step (by repeat (first | (with_reducible first | exact HB.out | apply below_alloc | apply pw_below_drewN | apply below_drew1) | exact HB.out)) hb); clear HB; have HB := n0_; clear n0_; (try clear hb); (try clear hb2); (try clear hk); (try clear hi)) | (go_at_call 22; (with_reducible refine (semver_Compare.calls kj3 a1 a0 t177 _ A15.out).mono ?_); rintro e w28 ⟨rfl, hb⟩; have n0_ := Aside0.mk (below_step (by repeat (first | (with_reducible first | exact HB.out | apply below_alloc | apply pw_below_drewN | apply below_drew1) | exact HB.out)) hb); clear HB; have HB := n0_; clear n0_; (try clear hb); (try clear hb2); (try clear hk); (try clear hi)))
              go_meet
              case rel => exact ⟨_, (true), (by first | rfl | (simp; done) | (simp [*]; done)), H', ⟨by have := HJ3.out; first | omega | exact Nat.le_refl _⟩, ⟨by repeat (first | (with_reducible first | exact HB.out | apply below_alloc | apply pw_below_drewN | apply below_drew1) | exact HB.out)⟩⟩
          · rw [if_neg c14] at H
            have c14b0 : (t174 == t176) = false := beq_eq_false_iff_ne.mpr c14
            have c14b1 : (t174 != t176) = true := bne_iff_ne.mpr c14
            (first | rw [c14b0] | (simp only [i64_w, i32_w]; rw [c14b0]) | skip)
            have H' := Aside0.mk H
            clear H
            go_wp2_with (first | ((with_reducible refine gate_callee (f := 25) rfl ?_); refine goesL_ (some 31) rfl rfl Tryd.func25 (by kernel_rfl) rfl #[.string a0, .string a1] rfl (by (try simp only [List.map_toArray, List.map_cons, List.map_nil]); first | done | rfl | (simp only [List.length_drop, List.length_take]; rfl)) ?_; (with_reducible refine (graftbedref03_Compare.calls kj3 a0 a1 t176 _ A13.out).mono ?_); rintro e w29 ⟨rfl, hb⟩; refine ⟨_, rfl, ?_⟩; have n0_ := Aside0.mk (below_step (by repeat (first | (with_reducible first | exact HB.out | apply below_alloc | apply pw_below_drewN | apply below_drew1) | exact HB.out)) hb); clear HB; have HB := n0_; clear n0_; (try clear hb); (try clear hb2); (try clear hk); (try clear hi)))
            go_meet
            case rel => exact ⟨_, (true), (by first | rfl | (simp; done) | (simp [*]; done)), H', ⟨by have := HJ3.out; first | omega | exact Nat.le_refl _⟩, ⟨by repeat (first | (with_reducible first | exact HB.out | apply below_alloc | apply pw_below_drewN | apply below_drew1) | exact HB.out)⟩⟩
        case rest =>
          clear HC10
          try clear c1
          try clear c2
          try clear p2
          try clear c5
          try clear c5b0
          try clear c5b1
          try clear c6
          try clear c6b0
          try clear c6b1
          try clear p6
          try clear c7
          try clear c9
          try clear c14
          try clear c14b0
          try clear c14b1
          try clear c16
          try clear c16b0
          try clear c16b1
          try clear c18
          try clear c18b0
          try clear c18b1
          try clear c22
          try clear c24
          try clear c25
          try clear p2
          obtain ⟨kq, x53_9, rfl, HA, HJ9, HB⟩ := hcut
          cases kq with
          | zero => exact absurd HA.out (by simp [graftbedlaw03_SemverOrder.j1])
          | succ kj9 =>
            have H := HA.out
            clear HA
            simp only [graftbedlaw03_SemverOrder.j1] at H
            by_cases c30 : x53_9 = true
            · subst c30
              have H1 : (some false) = some r := by rw [if_pos rfl] at H; exact H
              clear H
              have H := H1
              clear H1
              obtain rfl := Option.some.inj H
              go_wp2
              go_ret
              exact ⟨by first | rfl | (simp [errW_none, errW_some] <;> rfl) | (simp [*, errW_none, errW_some] <;> rfl) | (exfalso; simp only [decide_eq_true_eq, decide_eq_false_iff_not, beq_iff_eq, beq_eq_false_iff_ne] at *; first | contradiction | omega), by repeat (first | (with_reducible first | exact HB.out | apply below_alloc | apply pw_below_drewN | apply below_drew1) | exact HB.out)⟩
            · replace c30 := Bool.eq_false_iff.mpr c30
              subst c30
              have H1 : (if t174 ≤ 0 then ((semver_Compare.f kj9 a1 a2).bind fun t180 => (if t180 ≤ 0 then ((semver_Compare.f kj9 a0 a2).bind fun t181 => (if t181 > 0 then (some false) else ((semver_Compare.f kj9 t175 a0).bind fun t182 => (if t182 < 0 then (some false) else ((semver_Compare.f kj9 t175 a1).bind fun t183 => (if t183 < 0 then (some false) else ((semver_Compare.f kj9 (⟨#[118, 49, 46, 48, 46, 48, 45, 97]⟩ : ByteArray) (⟨#[118, 49, 46, 48, 46, 48]⟩ : ByteArray)).bind fun t184 => (some (t184 == (-1)))))))))) else ((semver_Compare.f kj9 t175 a0).bind fun t185 => (if t185 < 0 then (some false) else ((semver_Compare.f kj9 t175 a1).bind fun t186 => (if t186 < 0 then (some false) else ((semver_Compare.f kj9 (⟨#[118, 49, 46, 48, 46, 48, 45, 97]⟩ : ByteArray) (⟨#[118, 49, 46, 48, 46, 48]⟩ : ByteArray)).bind fun t187 => (some (t187 == (-1)))))))))) else ((semver_Compare.f kj9 t175 a0).bind fun t188 => (if t188 < 0 then (some false) else ((semver_Compare.f kj9 t175 a1).bind fun t189 => (if t189 < 0 then (some false) else ((semver_Compare.f kj9 (⟨#[118, 49, 46, 48, 46, 48, 45, 97]⟩ : ByteArray) (⟨#[118, 49, 46, 48, 46, 48]⟩ : ByteArray)).bind fun t190 => (some (t190 == (-1))))))))) = some r := by rw [if_neg (show ¬ (false = true) by decide)] at H; exact H
              clear H
              have H := H1
              clear H1
              by_cases c31 : t174 ≤ 0
              · rw [if_pos c31] at H
                have c31b0 : decide (t174 ≤ 0) = true := decide_eq_true c31
                clear c31
                replace H := Option.bind_eq_some_iff.mp H
                obtain ⟨t180, A320, H⟩ := H
                replace H : (if t180 ≤ 0 then ((semver_Compare.f kj9 a0 a2).bind fun t181 => (if t181 > 0 then (some false) else ((semver_Compare.f kj9 t175 a0).bind fun t182 => (if t182 < 0 then (some false) else ((semver_Compare.f kj9 t175 a1).bind fun t183 => (if t183 < 0 then (some false) else ((semver_Compare.f kj9 (⟨#[118, 49, 46, 48, 46, 48, 45, 97]⟩ : ByteArray) (⟨#[118, 49, 46, 48, 46, 48]⟩ : ByteArray)).bind fun t184 => (some (t184 == (-1)))))))))) else ((semver_Compare.f kj9 t175 a0).bind fun t185 => (if t185 < 0 then (some false) else ((semver_Compare.f kj9 t175 a1).bind fun t186 => (if t186 < 0 then (some false) else ((semver_Compare.f kj9 (⟨#[118, 49, 46, 48, 46, 48, 45, 97]⟩ : ByteArray) (⟨#[118, 49, 46, 48, 46, 48]⟩ : ByteArray)).bind fun t187 => (some (t187 == (-1))))))))) = some r := H
                have A32 := Aside0.mk A320
                clear A320
                by_cases c33 : t180 ≤ 0
                · rw [if_pos c33] at H
                  have c33b0 : decide (t180 ≤ 0) = true := decide_eq_true c33
                  clear c33
                  replace H := Option.bind_eq_some_iff.mp H
                  obtain ⟨t181, A340, H⟩ := H
                  replace H : (if t181 > 0 then (some false) else ((semver_Compare.f kj9 t175 a0).bind fun t182 => (if t182 < 0 then (some false) else ((semver_Compare.f kj9 t175 a1).bind fun t183 => (if t183 < 0 then (some false) else ((semver_Compare.f kj9 (⟨#[118, 49, 46, 48, 46, 48, 45, 97]⟩ : ByteArray) (⟨#[118, 49, 46, 48, 46, 48]⟩ : ByteArray)).bind fun t184 => (some (t184 == (-1))))))))) = some r := H
                  have A34 := Aside0.mk A340
                  clear A340
                  by_cases c35 : t181 > 0
                  · rw [if_pos c35] at H
                    have c35b0 : decide (0 < t181) = true := decide_eq_true c35
                    clear c35
                    obtain rfl := Option.some.inj H
                    go_wp2_with (first | (go_at_call 22; (with_reducible refine (semver_Compare.calls kj9 a1 a2 t180 _ A32.out).mono ?_); rintro e w36 ⟨rfl, hb⟩; have n0_ := Aside0.mk (below_step (by repeat (first | (with_reducible first | exact HB.out | apply below_alloc | apply pw_below_drewN | apply below_drew1) | exact HB.out)) hb); clear HB; have HB := n0_; clear n0_; (try clear hb); (try clear hb2); (try clear hk); (try clear hi)) | (go_at_call 22; (with_reducible refine (semver_Compare.calls kj9 a0 a2 t181 _ A34.out).mono ?_); rintro e w37 ⟨rfl, hb⟩; have n0_ := Aside0.mk (below_step (by repeat (first | (with_reducible first | exact HB.out | apply below_alloc | apply pw_below_drewN | apply below_drew1) | exact HB.out)) hb); clear HB; have HB := n0_; clear n0_; (try clear hb); (try clear hb2); (try clear hk); (try clear hi)))
                    go_ret
                    exact ⟨by first | rfl | (simp [errW_none, errW_some] <;> rfl) | (simp [*, errW_none, errW_some] <;> rfl) | (exfalso; simp only [decide_eq_true_eq, decide_eq_false_iff_not, beq_iff_eq, beq_eq_false_iff_ne] at *; first | contradiction | omega), by repeat (first | (with_reducible first | exact HB.out | apply below_alloc | apply pw_below_drewN | apply below_drew1) | exact HB.out)⟩
                  · rw [if_neg c35] at H
                    have c35b0 : decide (0 < t181) = false := decide_eq_false c35
                    clear c35
                    replace H := Option.bind_eq_some_iff.mp H
                    obtain ⟨t182, A380, H⟩ := H
                    replace H : (if t182 < 0 then (some false) else ((semver_Compare.f kj9 t175 a1).bind fun t183 => (if t183 < 0 then (some false) else ((semver_Compare.f kj9 (⟨#[118, 49, 46, 48, 46, 48, 45, 97]⟩ : ByteArray) (⟨#[118, 49, 46, 48, 46, 48]⟩ : ByteArray)).bind fun t184 => (some (t184 == (-1))))))) = some r := H
                    have A38 := Aside0.mk A380
                    clear A380
                    by_cases c39 : t182 < 0
                    · rw [if_pos c39] at H
                      have c39b0 : decide (t182 < 0) = true := decide_eq_true c39
                      clear c39
                      obtain rfl := Option.some.inj H
                      go_wp2_with (first | (go_at_call 22; (with_reducible refine (semver_Compare.calls kj9 a1 a2 t180 _ A32.out).mono ?_); rintro e w40 ⟨rfl, hb⟩; have n0_ := Aside0.mk (below_step (by repeat (first | (with_reducible first | exact HB.out | apply below_alloc | apply pw_below_drewN | apply below_drew1) | exact HB.out)) hb); clear HB; have HB := n0_; clear n0_; (try clear hb); (try clear hb2); (try clear hk); (try clear hi)) | (go_at_call 22; (with_reducible refine (semver_Compare.calls kj9 a0 a2 t181 _ A34.out).mono ?_); rintro e w41 ⟨rfl, hb⟩; have n0_ := Aside0.mk (below_step (by repeat (first | (with_reducible first | exact HB.out | apply below_alloc | apply pw_below_drewN | apply below_drew1) | exact HB.out)) hb); clear HB; have HB := n0_; clear n0_; (try clear hb); (try clear hb2); (try clear hk); (try clear hi)) | (go_at_call 22; (with_reducible refine (semver_Compare.calls kj9 t175 a0 t182 _ A38.out).mono ?_); rintro e w42 ⟨rfl, hb⟩; have n0_ := Aside0.mk (below_step (by repeat (first | (with_reducible first | exact HB.out | apply below_alloc | apply pw_below_drewN | apply below_drew1) | exact HB.out)) hb); clear HB; have HB := n0_; clear n0_; (try clear hb); (try clear hb2); (try clear hk); (try clear hi)))
                      go_ret
                      exact ⟨by first | rfl | (simp [errW_none, errW_some] <;> rfl) | (simp [*, errW_none, errW_some] <;> rfl) | (exfalso; simp only [decide_eq_true_eq, decide_eq_false_iff_not, beq_iff_eq, beq_eq_false_iff_ne] at *; first | contradiction | omega), by repeat (first | (with_reducible first | exact HB.out | apply below_alloc | apply pw_below_drewN | apply below_drew1) | exact HB.out)⟩
                    · rw [if_neg c39] at H
                      have c39b0 : decide (t182 < 0) = false := decide_eq_false c39
                      clear c39
                      replace H := Option.bind_eq_some_iff.mp H
                      obtain ⟨t183, A430, H⟩ := H
                      replace H : (if t183 < 0 then (some false) else ((semver_Compare.f kj9 (⟨#[118, 49, 46, 48, 46, 48, 45, 97]⟩ : ByteArray) (⟨#[118, 49, 46, 48, 46, 48]⟩ : ByteArray)).bind fun t184 => (some (t184 == (-1))))) = some r := H
                      have A43 := Aside0.mk A430
                      clear A430
                      by_cases c44 : t183 < 0
                      · rw [if_pos c44] at H
                        have c44b0 : decide (t183 < 0) = true := decide_eq_true c44
                        clear c44
                        obtain rfl := Option.some.inj H
                        go_wp2_with (first | (go_at_call 22; (with_reducible refine (semver_Compare.calls kj9 a1 a2 t180 _ A32.out).mono ?_); rintro e w45 ⟨rfl, hb⟩; have n0_ := Aside0.mk (below_step (by repeat (first | (with_reducible first | exact HB.out | apply below_alloc | apply pw_below_drewN | apply below_drew1) | exact HB.out)) hb); clear HB; have HB := n0_; clear n0_; (try clear hb); (try clear hb2); (try clear hk); (try clear hi)) | (go_at_call 22; (with_reducible refine (semver_Compare.calls kj9 a0 a2 t181 _ A34.out).mono ?_); rintro e w46 ⟨rfl, hb⟩; have n0_ := Aside0.mk (below_step (by repeat (first | (with_reducible first | exact HB.out | apply below_alloc | apply pw_below_drewN | apply below_drew1) | exact HB.out)) hb); clear HB; have HB := n0_; clear n0_; (try clear hb); (try clear hb2); (try clear hk); (try clear hi)) | (go_at_call 22; (with_reducible refine (semver_Compare.calls kj9 t175 a0 t182 _ A38.out).mono ?_); rintro e w47 ⟨rfl, hb⟩; have n0_ := Aside0.mk (below_step (by repeat (first | (with_reducible first | exact HB.out | apply below_alloc | apply pw_below_drewN | apply below_drew1) | exact HB.out)) hb); clear HB; have HB := n0_; clear n0_; (try clear hb); (try clear hb2); (try clear hk); (try clear hi)) | (go_at_call 22; (with_reducible refine (semver_Compare.calls kj9 t175 a1 t183 _ A43.out).mono ?_); rintro e w48 ⟨rfl, hb⟩; have n0_ := Aside0.mk (below_step (by repeat (first | (with_reducible first | exact HB.out | apply below_alloc | apply pw_below_drewN | apply below_drew1) | exact HB.out)) hb); clear HB; have HB := n0_; clear n0_; (try clear hb); (try clear hb2); (try clear hk); (try clear hi)))
                        go_ret
                        exact ⟨by first | rfl | (simp [errW_none, errW_some] <;> rfl) | (simp [*, errW_none, errW_some] <;> rfl) | (exfalso; simp only [decide_eq_true_eq, decide_eq_false_iff_not, beq_iff_eq, beq_eq_false_iff_ne] at *; first | contradiction | omega), by repeat (first | (with_reducible first | exact HB.out | apply below_alloc | apply pw_below_drewN | apply below_drew1) | exact HB.out)⟩
                      · rw [if_neg c44] at H
                        have c44b0 : decide (t183 < 0) = false := decide_eq_false c44
                        clear c44
                        replace H := Option.bind_eq_some_iff.mp H
                        obtain ⟨t184, A490, H⟩ := H
                        replace H : (some (t184 == (-1))) = some r := H
                        have A49 := Aside0.mk A490
                        clear A490
                        obtain rfl := Option.some.inj H
                        go_wp2_with (first | (go_at_call 22; (with_reducible refine (semver_Compare.calls kj9 a1 a2 t180 _ A32.out).mono ?_); rintro e w50 ⟨rfl, hb⟩; have n0_ := Aside0.mk (below_step (by repeat (first | (with_reducible first | exact HB.out | apply below_alloc | apply pw_below_drewN | apply below_drew1) | exact HB.out)) hb); clear HB; have HB := n0_; clear n0_; (try clear hb); (try clear hb2); (try clear hk); (try clear hi)) | (go_at_call 22; (with_reducible refine (semver_Compare.calls kj9 a0 a2 t181 _ A34.out).mono ?_); rintro e w51 ⟨rfl, hb⟩; have n0_ := Aside0.mk (below_step (by repeat (first | (with_reducible first | exact HB.out | apply below_alloc | apply pw_below_drewN | apply below_drew1) | exact HB.out)) hb); clear HB; have HB := n0_; clear n0_; (try clear hb); (try clear hb2); (try clear hk); (try clear hi)) | (go_at_call 22; (with_reducible refine (semver_Compare.calls kj9 t175 a0 t182 _ A38.out).mono ?_); rintro e w52 ⟨rfl, hb⟩; have n0_ := Aside0.mk (below_step (by repeat (first | (with_reducible first | exact HB.out | apply below_alloc | apply pw_below_drewN | apply below_drew1) | exact HB.out)) hb); clear HB; have HB := n0_; clear n0_; (try clear hb); (try clear hb2); (try clear hk); (try clear hi)) | (go_at_call 22; (with_reducible refine (semver_Compare.calls kj9 t175 a1 t183 _ A43.out).mono ?_); rintro e w53 ⟨rfl, hb⟩; have n0_ := Aside0.mk (below_step (by repeat (first | (with_reducible first | exact HB.out | apply below_alloc | apply pw_below_drewN | apply below_drew1) | exact HB.out)) hb); clear HB; have HB := n0_; clear n0_; (try clear hb); (try clear hb2); (try clear hk); (try clear hi)) | ((with_reducible refine gate_callee (f := 22) rfl ?_); refine goesL_ (some 80) rfl rfl Tryd.func22 (by kernel_rfl) rfl #[.string (⟨#[118, 49, 46, 48, 46, 48, 45, 97]⟩ : ByteArray), .string (⟨#[118, 49, 46, 48, 46, 48]⟩ : ByteArray)] rfl (by (try simp only [List.map_toArray, List.map_cons, List.map_nil]); first | done | rfl | (simp only [List.length_drop, List.length_take]; rfl)) ?_; (with_reducible refine (semver_Compare.calls kj9 (⟨#[118, 49, 46, 48, 46, 48, 45, 97]⟩ : ByteArray) (⟨#[118, 49, 46, 48, 46, 48]⟩ : ByteArray) t184 _ A49.out).mono ?_); rintro e w54 ⟨rfl, hb⟩; refine ⟨_, rfl, ?_⟩; have n0_ := Aside0.mk (below_step (by repeat (first | (with_reducible first | exact HB.out | apply below_alloc | apply pw_below_drewN | apply below_drew1) | exact HB.out)) hb); clear HB; have HB := n0_; clear n0_; (try clear hb); (try clear hb2); (try clear hk); (try clear hi)))
                        go_ret
                        exact ⟨by first | rfl | (simp [errW_none, errW_some] <;> rfl) | (simp [*, errW_none, errW_some] <;> rfl) | (exfalso; simp only [decide_eq_true_eq, decide_eq_false_iff_not, beq_iff_eq, beq_eq_false_iff_ne] at *; first | contradiction | omega), by repeat (first | (with_reducible first | exact HB.out | apply below_alloc | apply pw_below_drewN | apply below_drew1) | exact HB.out)⟩
                · rw [if_neg c33] at H
                  have c33b0 : decide (t180 ≤ 0) = false := decide_eq_false c33
                  clear c33
                  replace H := Option.bind_eq_some_iff.mp H
                  obtain ⟨t185, A550, H⟩ := H
                  replace H : (if t185 < 0 then (some false) else ((semver_Compare.f kj9 t175 a1).bind fun t186 => (if t186 < 0 then (some false) else ((semver_Compare.f kj9 (⟨#[118, 49, 46, 48, 46, 48, 45, 97]⟩ : ByteArray) (⟨#[118, 49, 46, 48, 46, 48]⟩ : ByteArray)).bind fun t187 => (some (t187 == (-1))))))) = some r := H
                  have A55 := Aside0.mk A550
                  clear A550
                  by_cases c56 : t185 < 0
                  · rw [if_pos c56] at H
                    have c56b0 : decide (t185 < 0) = true := decide_eq_true c56
                    clear c56
                    obtain rfl := Option.some.inj H
                    go_wp2_with (first | (go_at_call 22; (with_reducible refine (semver_Compare.calls kj9 a1 a2 t180 _ A32.out).mono ?_); rintro e w57 ⟨rfl, hb⟩; have n0_ := Aside0.mk (below_step (by repeat (first | (with_reducible first | exact HB.out | apply below_alloc | apply pw_below_drewN | apply below_drew1) | exact HB.out)) hb); clear HB; have HB := n0_; clear n0_; (try clear hb); (try clear hb2); (try clear hk); (try clear hi)) | (go_at_call 22; (with_reducible refine (semver_Compare.calls kj9 t175 a0 t185 _ A55.out).mono ?_); rintro e w58 ⟨rfl, hb⟩; have n0_ := Aside0.mk (below_step (by repeat (first | (with_reducible first | exact HB.out | apply below_alloc | apply pw_below_drewN | apply below_drew1) | exact HB.out)) hb); clear HB; have HB := n0_; clear n0_; (try clear hb); (try clear hb2); (try clear hk); (try clear hi)))
                    go_ret
                    exact ⟨by first | rfl | (simp [errW_none, errW_some] <;> rfl) | (simp [*, errW_none, errW_some] <;> rfl) | (exfalso; simp only [decide_eq_true_eq, decide_eq_false_iff_not, beq_iff_eq, beq_eq_false_iff_ne] at *; first | contradiction | omega), by repeat (first | (with_reducible first | exact HB.out | apply below_alloc | apply pw_below_drewN | apply below_drew1) | exact HB.out)⟩
                  · rw [if_neg c56] at H
                    have c56b0 : decide (t185 < 0) = false := decide_eq_false c56
                    clear c56
                    replace H := Option.bind_eq_some_iff.mp H
                    obtain ⟨t186, A590, H⟩ := H
                    replace H : (if t186 < 0 then (some false) else ((semver_Compare.f kj9 (⟨#[118, 49, 46, 48, 46, 48, 45, 97]⟩ : ByteArray) (⟨#[118, 49, 46, 48, 46, 48]⟩ : ByteArray)).bind fun t187 => (some (t187 == (-1))))) = some r := H
                    have A59 := Aside0.mk A590
                    clear A590
                    by_cases c60 : t186 < 0
                    · rw [if_pos c60] at H
                      have c60b0 : decide (t186 < 0) = true := decide_eq_true c60
                      clear c60
                      obtain rfl := Option.some.inj H
                      go_wp2_with (first | (go_at_call 22; (with_reducible refine (semver_Compare.calls kj9 a1 a2 t180 _ A32.out).mono ?_); rintro e w61 ⟨rfl, hb⟩; have n0_ := Aside0.mk (below_step (by repeat (first | (with_reducible first | exact HB.out | apply below_alloc | apply pw_below_drewN | apply below_drew1) | exact HB.out)) hb); clear HB; have HB := n0_; clear n0_; (try clear hb); (try clear hb2); (try clear hk); (try clear hi)) | (go_at_call 22; (with_reducible refine (semver_Compare.calls kj9 t175 a0 t185 _ A55.out).mono ?_); rintro e w62 ⟨rfl, hb⟩; have n0_ := Aside0.mk (below_step (by repeat (first | (with_reducible first | exact HB.out | apply below_alloc | apply pw_below_drewN | apply below_drew1) | exact HB.out)) hb); clear HB; have HB := n0_; clear n0_; (try clear hb); (try clear hb2); (try clear hk); (try clear hi)) | (go_at_call 22; (with_reducible refine (semver_Compare.calls kj9 t175 a1 t186 _ A59.out).mono ?_); rintro e w63 ⟨rfl, hb⟩; have n0_ := Aside0.mk (below_step (by repeat (first | (with_reducible first | exact HB.out | apply below_alloc | apply pw_below_drewN | apply below_drew1) | exact HB.out)) hb); clear HB; have HB := n0_; clear n0_; (try clear hb); (try clear hb2); (try clear hk); (try clear hi)))
                      go_ret
                      exact ⟨by first | rfl | (simp [errW_none, errW_some] <;> rfl) | (simp [*, errW_none, errW_some] <;> rfl) | (exfalso; simp only [decide_eq_true_eq, decide_eq_false_iff_not, beq_iff_eq, beq_eq_false_iff_ne] at *; first | contradiction | omega), by repeat (first | (with_reducible first | exact HB.out | apply below_alloc | apply pw_below_drewN | apply below_drew1) | exact HB.out)⟩
                    · rw [if_neg c60] at H
                      have c60b0 : decide (t186 < 0) = false := decide_eq_false c60
                      clear c60
                      replace H := Option.bind_eq_some_iff.mp H
                      obtain ⟨t187, A640, H⟩ := H
                      replace H : (some (t187 == (-1))) = some r := H
                      have A64 := Aside0.mk A640
                      clear A640
                      obtain rfl := Option.some.inj H
                      go_wp2_with (first | (go_at_call 22; (with_reducible refine (semver_Compare.calls kj9 a1 a2 t180 _ A32.out).mono ?_); rintro e w65 ⟨rfl, hb⟩; have n0_ := Aside0.mk (below_step (by repeat (first | (with_reducible first | exact HB.out | apply below_alloc | apply pw_below_drewN | apply below_drew1) | exact HB.out)) hb); clear HB; have HB := n0_; clear n0_; (try clear hb); (try clear hb2); (try clear hk); (try clear hi)) | (go_at_call 22; (with_reducible refine (semver_Compare.calls kj9 t175 a0 t185 _ A55.out).mono ?_); rintro e w66 ⟨rfl, hb⟩; have n0_ := Aside0.mk (below_step (by repeat (first | (with_reducible first | exact HB.out | apply below_alloc | apply pw_below_drewN | apply below_drew1) | exact HB.out)) hb); clear HB; have HB := n0_; clear n0_; (try clear hb); (try clear hb2); (try clear hk); (try clear hi)) | (go_at_call 22; (with_reducible refine (semver_Compare.calls kj9 t175 a1 t186 _ A59.out).mono ?_); rintro e w67 ⟨rfl, hb⟩; have n0_ := Aside0.mk (below_step (by repeat (first | (with_reducible first | exact HB.out | apply below_alloc | apply pw_below_drewN | apply below_drew1) | exact HB.out)) hb); clear HB; have HB := n0_; clear n0_; (try clear hb); (try clear hb2); (try clear hk); (try clear hi)) | ((with_reducible refine gate_callee (f := 22) rfl ?_); refine goesL_ (some 80) rfl rfl Tryd.func22 (by kernel_rfl) rfl #[.string (⟨#[118, 49, 46, 48, 46, 48, 45, 97]⟩ : ByteArray), .string (⟨#[118, 49, 46, 48, 46, 48]⟩ : ByteArray)] rfl (by (try simp only [List.map_toArray, List.map_cons, List.map_nil]); first | done | rfl | (simp only [List.length_drop, List.length_take]; rfl)) ?_; (with_reducible refine (semver_Compare.calls kj9 (⟨#[118, 49, 46, 48, 46, 48, 45, 97]⟩ : ByteArray) (⟨#[118, 49, 46, 48, 46, 48]⟩ : ByteArray) t187 _ A64.out).mono ?_); rintro e w68 ⟨rfl, hb⟩; refine ⟨_, rfl, ?_⟩; have n0_ := Aside0.mk (below_step (by repeat (first | (with_reducible first | exact HB.out | apply below_alloc | apply pw_below_drewN | apply below_drew1) | exact HB.out)) hb); clear HB; have HB := n0_; clear n0_; (try clear hb); (try clear hb2); (try clear hk); (try clear hi)))
                      go_ret
                      exact ⟨by first | rfl | (simp [errW_none, errW_some] <;> rfl) | (simp [*, errW_none, errW_some] <;> rfl) | (exfalso; simp only [decide_eq_true_eq, decide_eq_false_iff_not, beq_iff_eq, beq_eq_false_iff_ne] at *; first | contradiction | omega), by repeat (first | (with_reducible first | exact HB.out | apply below_alloc | apply pw_below_drewN | apply below_drew1) | exact HB.out)⟩
              · rw [if_neg c31] at H
                have c31b0 : decide (t174 ≤ 0) = false := decide_eq_false c31
                clear c31
                replace H := Option.bind_eq_some_iff.mp H
                obtain ⟨t188, A690, H⟩ := H
                replace H : (if t188 < 0 then (some false) else ((semver_Compare.f kj9 t175 a1).bind fun t189 => (if t189 < 0 then (some false) else ((semver_Compare.f kj9 (⟨#[118, 49, 46, 48, 46, 48, 45, 97]⟩ : ByteArray) (⟨#[118, 49, 46, 48, 46, 48]⟩ : ByteArray)).bind fun t190 => (some (t190 == (-1))))))) = some r := H
                have A69 := Aside0.mk A690
                clear A690
                by_cases c70 : t188 < 0
                · rw [if_pos c70] at H
                  have c70b0 : decide (t188 < 0) = true := decide_eq_true c70
                  clear c70
                  obtain rfl := Option.some.inj H
                  go_wp2_with (first | (go_at_call 22; (with_reducible refine (semver_Compare.calls kj9 t175 a0 t188 _ A69.out).mono ?_); rintro e w71 ⟨rfl, hb⟩; have n0_ := Aside0.mk (below_step (by repeat (first | (with_reducible first | exact HB.out | apply below_alloc | apply pw_below_drewN | apply below_drew1) | exact HB.out)) hb); clear HB; have HB := n0_; clear n0_; (try clear hb); (try clear hb2); (try clear hk); (try clear hi)))
                  go_ret
                  exact ⟨by first | rfl | (simp [errW_none, errW_some] <;> rfl) | (simp [*, errW_none, errW_some] <;> rfl) | (exfalso; simp only [decide_eq_true_eq, decide_eq_false_iff_not, beq_iff_eq, beq_eq_false_iff_ne] at *; first | contradiction | omega), by repeat (first | (with_reducible first | exact HB.out | apply below_alloc | apply pw_below_drewN | apply below_drew1) | exact HB.out)⟩
                · rw [if_neg c70] at H
                  have c70b0 : decide (t188 < 0) = false := decide_eq_false c70
                  clear c70
                  replace H := Option.bind_eq_some_iff.mp H
                  obtain ⟨t189, A720, H⟩ := H
                  replace H : (if t189 < 0 then (some false) else ((semver_Compare.f kj9 (⟨#[118, 49, 46, 48, 46, 48, 45, 97]⟩ : ByteArray) (⟨#[118, 49, 46, 48, 46, 48]⟩ : ByteArray)).bind fun t190 => (some (t190 == (-1))))) = some r := H
                  have A72 := Aside0.mk A720
                  clear A720
                  by_cases c73 : t189 < 0
                  · rw [if_pos c73] at H
                    have c73b0 : decide (t189 < 0) = true := decide_eq_true c73
                    clear c73
                    obtain rfl := Option.some.inj H
                    go_wp2_with (first | (go_at_call 22; (with_reducible refine (semver_Compare.calls kj9 t175 a0 t188 _ A69.out).mono ?_); rintro e w74 ⟨rfl, hb⟩; have n0_ := Aside0.mk (below_step (by repeat (first | (with_reducible first | exact HB.out | apply below_alloc | apply pw_below_drewN | apply below_drew1) | exact HB.out)) hb); clear HB; have HB := n0_; clear n0_; (try clear hb); (try clear hb2); (try clear hk); (try clear hi)) | (go_at_call 22; (with_reducible refine (semver_Compare.calls kj9 t175 a1 t189 _ A72.out).mono ?_); rintro e w75 ⟨rfl, hb⟩; have n0_ := Aside0.mk (below_step (by repeat (first | (with_reducible first | exact HB.out | apply below_alloc | apply pw_below_drewN | apply below_drew1) | exact HB.out)) hb); clear HB; have HB := n0_; clear n0_; (try clear hb); (try clear hb2); (try clear hk); (try clear hi)))
                    go_ret
                    exact ⟨by first | rfl | (simp [errW_none, errW_some] <;> rfl) | (simp [*, errW_none, errW_some] <;> rfl) | (exfalso; simp only [decide_eq_true_eq, decide_eq_false_iff_not, beq_iff_eq, beq_eq_false_iff_ne] at *; first | contradiction | omega), by repeat (first | (with_reducible first | exact HB.out | apply below_alloc | apply pw_below_drewN | apply below_drew1) | exact HB.out)⟩
                  · rw [if_neg c73] at H
                    have c73b0 : decide (t189 < 0) = false := decide_eq_false c73
                    clear c73
                    replace H := Option.bind_eq_some_iff.mp H
                    obtain ⟨t190, A760, H⟩ := H
                    replace H : (some (t190 == (-1))) = some r := H
                    have A76 := Aside0.mk A760
                    clear A760
                    obtain rfl := Option.some.inj H
                    go_wp2_with (first | (go_at_call 22; (with_reducible refine (semver_Compare.calls kj9 t175 a0 t188 _ A69.out).mono ?_); rintro e w77 ⟨rfl, hb⟩; have n0_ := Aside0.mk (below_step (by repeat (first | (with_reducible first | exact HB.out | apply below_alloc | apply pw_below_drewN | apply below_drew1) | exact HB.out)) hb); clear HB; have HB := n0_; clear n0_; (try clear hb); (try clear hb2); (try clear hk); (try clear hi)) | (go_at_call 22; (with_reducible refine (semver_Compare.calls kj9 t175 a1 t189 _ A72.out).mono ?_); rintro e w78 ⟨rfl, hb⟩; have n0_ := Aside0.mk (below_step (by repeat (first | (with_reducible first | exact HB.out | apply below_alloc | apply pw_below_drewN | apply below_drew1) | exact HB.out)) hb); clear HB; have HB := n0_; clear n0_; (try clear hb); (try clear hb2); (try clear hk); (try clear hi)) | ((with_reducible refine gate_callee (f := 22) rfl ?_); refine goesL_ (some 80) rfl rfl Tryd.func22 (by kernel_rfl) rfl #[.string (⟨#[118, 49, 46, 48, 46, 48, 45, 97]⟩ : ByteArray), .string (⟨#[118, 49, 46, 48, 46, 48]⟩ : ByteArray)] rfl (by (try simp only [List.map_toArray, List.map_cons, List.map_nil]); first | done | rfl | (simp only [List.length_drop, List.length_take]; rfl)) ?_; (with_reducible refine (semver_Compare.calls kj9 (⟨#[118, 49, 46, 48, 46, 48, 45, 97]⟩ : ByteArray) (⟨#[118, 49, 46, 48, 46, 48]⟩ : ByteArray) t190 _ A76.out).mono ?_); rintro e w79 ⟨rfl, hb⟩; refine ⟨_, rfl, ?_⟩; have n0_ := Aside0.mk (below_step (by repeat (first | (with_reducible first | exact HB.out | apply below_alloc | apply pw_below_drewN | apply below_drew1) | exact HB.out)) hb); clear HB; have HB := n0_; clear n0_; (try clear hb); (try clear hb2); (try clear hk); (try clear hi)))
                    go_ret
                    exact ⟨by first | rfl | (simp [errW_none, errW_some] <;> rfl) | (simp [*, errW_none, errW_some] <;> rfl) | (exfalso; simp only [decide_eq_true_eq, decide_eq_false_iff_not, beq_iff_eq, beq_eq_false_iff_ne] at *; first | contradiction | omega), by repeat (first | (with_reducible first | exact HB.out | apply below_alloc | apply pw_below_drewN | apply below_drew1) | exact HB.out)⟩

/-- THE ONE PURE STATEMENT of graftbedlaw03_SemverOrder: yours. -/
def graftbedlaw03_SemverOrder.Pure : Prop := ∀ (a0 : ByteArray) (a1 : ByteArray) (a2 : ByteArray), a0.size ≤ 140737488351232 → a1.size ≤ 140737488351232 → a2.size ≤ 140737488351232 → ∃ k, graftbedlaw03_SemverOrder.f k a0 a1 a2 = some true
theorem graftbedlaw03_SemverOrder.walk (P : graftbedlaw03_SemverOrder.Pure) (a0 : ByteArray) (a1 : ByteArray) (a2 : ByteArray) (w : World) (w0 : a0.size ≤ 140737488351232) (w1 : a1.size ≤ 140737488351232) (w2 : a2.size ≤ 140737488351232) :
    Calls Tryd.prog 9 #[.string a0, .string a1, .string a2] w fun e w' => e = .returned (.bool true) ∧ Below w.heap.size w w' := by
  obtain ⟨k, h⟩ := P a0 a1 a2 w0 w1 w2
  refine (graftbedlaw03_SemverOrder.calls k a0 a1 a2 true w h).mono ?_
  rintro e w' ⟨rfl, hd⟩
  exact ⟨rfl, hd⟩

end Go.Proofs.YtaddonafdllciaaDoor.PAll

-- by hprint.py (wip/): the kit's print over contracts proved by hand; a text of this session
namespace Go.Proofs.YtaddonafdllciaaDoor.PAll
open Go.RowKit Go.Proofs.YtaddonafdllciaaDoorW.PrintWords Go.Proofs.YtaddonafdllciaaDoorW.PrintLast Go.Proofs.YtaddonafdllciaaDoorW.PrintMore
attribute [local go_sem] max2_int min2_int max_two min_two max_three min_three max_four min_four   -- for this text's walks alone
set_option linter.unusedVariables false
set_option linter.unusedSimpArgs false

/-! ### graftbedref03_find: function 37 -/
def graftbedref03_find.l0 : Nat → ByteArray → Int → Int → Option (Int)
  | 0, _, _, _ => none
  | k + 1, x0, x1, x5 => if x5 < (x0.size : Int) then (if 0 ≤ x5 then (if (bt x0 x5) = x1 then (some x5) else (graftbedref03_find.l0 k x0 x1 (wrap64 (x5 + 1)))) else (none)) else (some (x0.size : Int))
def graftbedref03_find.f (k : Nat) (a0 : ByteArray) (a1 : Int) : Option (Int) := graftbedref03_find.l0 k a0 a1 0
theorem graftbedref03_find.mono_l : ∀ k, (∀ y0 y1 y2, LeO (graftbedref03_find.l0 k y0 y1 y2) (graftbedref03_find.l0 (k + 1) y0 y1 y2))
  | 0 => fun _ _ _ r h => by simp [graftbedref03_find.l0] at h
  | k + 1 => by
    have ih0 := graftbedref03_find.mono_l k
    · intro y0 y1 y2
      unfold graftbedref03_find.l0
      repeat' first
      | (with_reducible exact ih0 _ _ _)
      | (with_reducible exact LeO.refl _)
      | (with_reducible exact LeO.none _)
      | (with_reducible refine LeO.ite ?_ ?_)
      | (with_reducible refine LeO.bind ?_ (fun _ => ?_))
      | exact ih0 _ _ _
      | exact LeO.none _
      | refine LeO.ite ?_ ?_
      | refine LeO.bind ?_ (fun _ => ?_)
theorem graftbedref03_find.mono : ∀ a0 a1 k, LeO (graftbedref03_find.f k a0 a1) (graftbedref03_find.f (k + 1) a0 a1) := by
  intro a0 a1 k
  have ih0 := graftbedref03_find.mono_l k
  unfold graftbedref03_find.f
  repeat' first
      | (with_reducible exact ih0 _ _ _)
      | (with_reducible exact LeO.refl _)
      | (with_reducible exact LeO.none _)
      | (with_reducible refine LeO.ite ?_ ?_)
      | (with_reducible refine LeO.bind ?_ (fun _ => ?_))
      | exact ih0 _ _ _
      | exact LeO.none _
      | refine LeO.ite ?_ ?_
      | refine LeO.bind ?_ (fun _ => ?_)
set_option maxHeartbeats 8000000 in
set_option maxRecDepth 100000 in
theorem graftbedref03_find.calls (k : Nat) (a0 : ByteArray) (a1 : Int) (r : Int) (w : World) (h : graftbedref03_find.f k a0 a1 = some r) :
    Calls Tryd.prog 37 #[.string a0, .int .u8 a1] w fun e w' => e = .returned (.int .i64 r) ∧ Drawn0 w w' := by
  have H : (graftbedref03_find.l0 k a0 a1 0) = some r := h
  clear h
  have H' := Aside0.mk H
  clear H
  go_enter Tryd.func37, Tryd.ntmps37
  go_wp2
  go_loopg [5] k (fun kq v5 w' => ∃ (x5_1 : Int), v5 = .int .i64 x5_1 ∧ Aside0 (graftbedref03_find.l0 kq a0 a1 x5_1 = some r) ∧ Aside0 (kq ≤ k) ∧ Drawn0 w w')
  case atStart => exact ⟨(0), (by first | rfl | (simp; done) | (simp [*]; done)), H', ⟨Nat.le_refl _⟩, by repeat (first | exact Drawn0.refl _ | apply Drawn0.step)⟩
  case round =>
    clear H'
    try clear p2
    obtain ⟨x5_1, rfl, HA, HK1, ⟨m1, rfl⟩⟩ := hrel
    cases gk with
    | zero => exact absurd HA.out (by simp [graftbedref03_find.l0])
    | succ k1 =>
      have H := HA.out
      clear HA
      simp only [graftbedref03_find.l0] at H
      by_cases c3 : x5_1 < (a0.size : Int)
      · rw [if_pos c3] at H
        have c3b0 : decide (x5_1 < (a0.size : Int)) = true := decide_eq_true c3
        clear c3
        by_cases c4 : 0 ≤ x5_1
        · rw [if_pos c4] at H
          have c4b0 : decide (0 ≤ x5_1) = true := decide_eq_true c4
          clear c4
          by_cases c6 : (bt a0 x5_1) = a1
          · rw [if_pos c6] at H
            have c6b0 : ((bt a0 x5_1) == a1) = true := beq_iff_eq.mpr c6
            have c6b1 : ((bt a0 x5_1) != a1) = false := bne_eq_false_iff_eq.mpr c6
            clear c6
            obtain rfl := Option.some.inj H
            have p5 : 0 ≤ (x5_1 : Int) := of_decide_eq_true (by first | (with_reducible assumption) | assumption)
            have q5 : x5_1 < (a0.size : Int) := of_decide_eq_true (by first | (with_reducible assumption) | assumption)
            have hx5 := bt_at a0 x5_1
            replace p5 := eq_true p5
            replace q5 := eq_true q5
            go_wp2
            go_ret
            exact ⟨by first | rfl | (simp; done) | (simp [*]; done) | (have ne_ : ∀ l : List UInt8, (l != []) = !l.isEmpty := (fun l => by cases l <;> rfl); simp [ne_]; done), by repeat (first | exact Drawn0.refl _ | apply Drawn0.step)⟩
          · rw [if_neg c6] at H
            have c6b0 : ((bt a0 x5_1) == a1) = false := beq_eq_false_iff_ne.mpr c6
            have c6b1 : ((bt a0 x5_1) != a1) = true := bne_iff_ne.mpr c6
            have H' := Aside0.mk H
            clear H
            have p5 : 0 ≤ (x5_1 : Int) := of_decide_eq_true (by first | (with_reducible assumption) | assumption)
            have q5 : x5_1 < (a0.size : Int) := of_decide_eq_true (by first | (with_reducible assumption) | assumption)
            have hx5 := bt_at a0 x5_1
            replace p5 := eq_true p5
            replace q5 := eq_true q5
            go_wp2
            go_roundg k1
            case measure => have := HK1.out; omega
            case rel => exact ⟨(wrap64 (x5_1 + 1)), (by first | rfl | (simp; done) | (simp [*]; done)), H', ⟨by have := HK1.out; omega⟩, by repeat (first | exact Drawn0.refl _ | apply Drawn0.step)⟩
        · rw [if_neg c4] at H
          exact absurd H (by simp)
      · rw [if_neg c3] at H
        have c3b0 : decide (x5_1 < (a0.size : Int)) = false := decide_eq_false c3
        clear c3
        obtain rfl := Option.some.inj H
        go_wp2
        go_ret
        exact ⟨by first | rfl | (simp; done) | (simp [*]; done) | (have ne_ : ∀ l : List UInt8, (l != []) = !l.isEmpty := (fun l => by cases l <;> rfl); simp [ne_]; done), by repeat (first | exact Drawn0.refl _ | apply Drawn0.step)⟩

end Go.Proofs.YtaddonafdllciaaDoor.PAll

-- by hprint.py (wip/): the kit's print over contracts proved by hand; a text of this session
namespace Go.Proofs.YtaddonafdllciaaDoor.PAll
open Go.RowKit Go.Proofs.YtaddonafdllciaaDoorW.PrintWords Go.Proofs.YtaddonafdllciaaDoorW.PrintLast Go.Proofs.YtaddonafdllciaaDoorW.PrintMore
attribute [local go_sem] max2_int min2_int max_two min_two max_three min_three max_four min_four   -- for this text's walks alone
set_option linter.unusedVariables false
set_option linter.unusedSimpArgs false

/-! ### graftbedref03_Number: function 40 -/
mutual
def graftbedref03_Number.j0 : Nat → ByteArray → Bool → Option (Int)
  | 0, _, _ => none
  | k + 1, x0, x22 => if x22 = true then (some (-1)) else (graftbedref03_Number.l0 k x0 0 0)
def graftbedref03_Number.l0 : Nat → ByteArray → Int → Int → Option (Int)
  | 0, _, _, _ => none
  | k + 1, x0, x3, x4 => if x4 < (x0.size : Int) then (if 0 ≤ x4 then (graftbedref03_Number.l0 k x0 (wrap64 ((wrap64 (10 * x3)) + (((bt x0 x4) - 48) % 256))) (wrap64 (x4 + 1))) else (none)) else (some x3)
end
def graftbedref03_Number.f (k : Nat) (a0 : ByteArray) : Option (Int) := (graftbedref03_digits.f k a0).bind fun t256 => (if t256 = true then (if (a0.size : Int) > 9 then (graftbedref03_Number.j0 k a0 true) else (if (a0.size : Int) > 1 then (if 0 < (a0.size : Int) then (graftbedref03_Number.j0 k a0 ((bt a0 0) == 48)) else (none)) else (graftbedref03_Number.j0 k a0 false))) else (graftbedref03_Number.j0 k a0 true))
theorem graftbedref03_Number.mono_l : ∀ k, (∀ y0 y1, LeO (graftbedref03_Number.j0 k y0 y1) (graftbedref03_Number.j0 (k + 1) y0 y1)) ∧ (∀ y0 y1 y2, LeO (graftbedref03_Number.l0 k y0 y1 y2) (graftbedref03_Number.l0 (k + 1) y0 y1 y2))
  | 0 => ⟨fun _ _ r h => by simp [graftbedref03_Number.j0] at h, fun _ _ _ r h => by simp [graftbedref03_Number.l0] at h⟩
  | k + 1 => by
    obtain ⟨ih0, ih1⟩ := graftbedref03_Number.mono_l k
    refine ⟨?_, ?_⟩
    · intro y0 y1
      unfold graftbedref03_Number.j0
      repeat' first
      | (with_reducible exact ih0 _ _)
      | (with_reducible exact ih1 _ _ _)
      | (with_reducible exact graftbedref03_digits.mono _ _)
      | (with_reducible exact LeO.refl _)
      | (with_reducible exact LeO.none _)
      | (with_reducible refine LeO.ite ?_ ?_)
      | (with_reducible refine LeO.bind ?_ (fun _ => ?_))
      | exact ih0 _ _
      | exact ih1 _ _ _
      | exact graftbedref03_digits.mono _ _
      | exact LeO.none _
      | refine LeO.ite ?_ ?_
      | refine LeO.bind ?_ (fun _ => ?_)
    · intro y0 y1 y2
      unfold graftbedref03_Number.l0
      repeat' first
      | (with_reducible exact ih0 _ _)
      | (with_reducible exact ih1 _ _ _)
      | (with_reducible exact graftbedref03_digits.mono _ _)
      | (with_reducible exact LeO.refl _)
      | (with_reducible exact LeO.none _)
      | (with_reducible refine LeO.ite ?_ ?_)
      | (with_reducible refine LeO.bind ?_ (fun _ => ?_))
      | exact ih0 _ _
      | exact ih1 _ _ _
      | exact graftbedref03_digits.mono _ _
      | exact LeO.none _
      | refine LeO.ite ?_ ?_
      | refine LeO.bind ?_ (fun _ => ?_)
theorem graftbedref03_Number.mono : ∀ a0 k, LeO (graftbedref03_Number.f k a0) (graftbedref03_Number.f (k + 1) a0) := by
  intro a0 k
  obtain ⟨ih0, ih1⟩ := graftbedref03_Number.mono_l k
  unfold graftbedref03_Number.f
  repeat' first
      | (with_reducible exact ih0 _ _)
      | (with_reducible exact ih1 _ _ _)
      | (with_reducible exact graftbedref03_digits.mono _ _)
      | (with_reducible exact LeO.refl _)
      | (with_reducible exact LeO.none _)
      | (with_reducible refine LeO.ite ?_ ?_)
      | (with_reducible refine LeO.bind ?_ (fun _ => ?_))
      | exact ih0 _ _
      | exact ih1 _ _ _
      | exact graftbedref03_digits.mono _ _
      | exact LeO.none _
      | refine LeO.ite ?_ ?_
      | refine LeO.bind ?_ (fun _ => ?_)
set_option maxHeartbeats 8000000 in
set_option maxRecDepth 100000 in
theorem graftbedref03_Number.calls (k : Nat) (a0 : ByteArray) (r : Int) (w : World) (h : graftbedref03_Number.f k a0 = some r) :
    Calls Tryd.prog 40 #[.string a0] w fun e w' => e = .returned (.int .i64 r) ∧ Drawn0 w w' := by
  have H : ((graftbedref03_digits.f k a0).bind fun t256 => (if t256 = true then (if (a0.size : Int) > 9 then (graftbedref03_Number.j0 k a0 true) else (if (a0.size : Int) > 1 then (if 0 < (a0.size : Int) then (graftbedref03_Number.j0 k a0 ((bt a0 0) == 48)) else (none)) else (graftbedref03_Number.j0 k a0 false))) else (graftbedref03_Number.j0 k a0 true))) = some r := h
  clear h
  have HC2 := Aside0.mk H
  clear H
  go_enter Tryd.func40, Tryd.ntmps40
  go_upto_region 1 with (fail)
  go_cut [22] (fun v22 wc => ∃ (kq : Nat) (x22_1 : Bool), v22 = .bool x22_1 ∧ Aside0 (graftbedref03_Number.j0 kq a0 x22_1 = some r) ∧ Aside0 (kq ≤ k) ∧ Drawn0 w wc)
  case first =>
    have H := HC2.out
    clear HC2
    replace H := Option.bind_eq_some_iff.mp H
    obtain ⟨t256, A30, H⟩ := H
    replace H : (if t256 = true then (if (a0.size : Int) > 9 then (graftbedref03_Number.j0 k a0 true) else (if (a0.size : Int) > 1 then (if 0 < (a0.size : Int) then (graftbedref03_Number.j0 k a0 ((bt a0 0) == 48)) else (none)) else (graftbedref03_Number.j0 k a0 false))) else (graftbedref03_Number.j0 k a0 true)) = some r := H
    have A3 := Aside0.mk A30
    clear A30
    by_cases c4 : t256 = true
    · subst c4
      have H1 : (if (a0.size : Int) > 9 then (graftbedref03_Number.j0 k a0 true) else (if (a0.size : Int) > 1 then (if 0 < (a0.size : Int) then (graftbedref03_Number.j0 k a0 ((bt a0 0) == 48)) else (none)) else (graftbedref03_Number.j0 k a0 false))) = some r := by rw [if_pos rfl] at H; exact H
      clear H
      have H := H1
      clear H1
      by_cases c5 : (a0.size : Int) > 9
      · rw [if_pos c5] at H
        have c5b0 : decide (9 < (a0.size : Int)) = true := decide_eq_true c5
        have c5b1 : decide (9 < a0.size) = true := decide_eq_true (by omega)
        clear c5
        (first | rw [c5b0] | (simp only [i64_w, i32_w]; rw [c5b0]) | skip)
        have H' := Aside0.mk H
        clear H
        go_wp2_with (first | ((with_reducible refine gate_callee (f := 45) rfl ?_); refine goesL_ (some 6) rfl rfl Tryd.func45 (by kernel_rfl) rfl #[.string a0] rfl (by (try simp only [List.map_toArray, List.map_cons, List.map_nil]); first | done | rfl | (simp only [List.length_drop, List.length_take]; rfl)) ?_; (with_reducible refine (graftbedref03_digits.calls k a0 true _ A3.out).mono ?_); rintro e w' ⟨rfl, ⟨nd, rfl⟩⟩; refine ⟨_, rfl, ?_⟩))
        go_meet
        case rel => exact ⟨_, (true), (by first | rfl | (simp; done) | (simp [*]; done)), H', ⟨by first | omega | exact Nat.le_refl _⟩, by repeat (first | exact Drawn0.refl _ | apply Drawn0.step)⟩
      · rw [if_neg c5] at H
        have c5b0 : decide (9 < (a0.size : Int)) = false := decide_eq_false c5
        have c5b1 : decide (9 < a0.size) = false := decide_eq_false (by omega)
        clear c5
        (first | rw [c5b0] | (simp only [i64_w, i32_w]; rw [c5b0]) | skip)
        by_cases c6 : (a0.size : Int) > 1
        · rw [if_pos c6] at H
          have c6b0 : decide (1 < (a0.size : Int)) = true := decide_eq_true c6
          have c6b1 : decide (1 < a0.size) = true := decide_eq_true (by omega)
          clear c6
          by_cases c7 : 0 < (a0.size : Int)
          · rw [if_pos c7] at H
            have c7b0 : decide (0 < (a0.size : Int)) = true := decide_eq_true c7
            have c7b1 : decide (0 < a0.size) = true := decide_eq_true (by omega)
            clear c7
            have H' := Aside0.mk H
            clear H
            go_wp2_with (first | ((with_reducible refine gate_callee (f := 45) rfl ?_); refine goesL_ (some 6) rfl rfl Tryd.func45 (by kernel_rfl) rfl #[.string a0] rfl (by (try simp only [List.map_toArray, List.map_cons, List.map_nil]); first | done | rfl | (simp only [List.length_drop, List.length_take]; rfl)) ?_; (with_reducible refine (graftbedref03_digits.calls k a0 true _ A3.out).mono ?_); rintro e w' ⟨rfl, ⟨nd, rfl⟩⟩; refine ⟨_, rfl, ?_⟩; have p8 : 0 ≤ (0 : Int) := (by omega); have q8 : 0 < a0.size := (by have : (0 : Int) < (a0.size : Int) := of_decide_eq_true (by first | (with_reducible assumption) | assumption); omega); have hx8 : ∀ h : 0 < a0.size, ((a0[0]'h).toNat : Int) = bt a0 0 := bt_at a0 0; clear p8; have qi8 : (0 < (a0.size : Int)) = True := eq_true (of_decide_eq_true (by first | (with_reducible assumption) | assumption)); replace q8 := eq_true q8))
            go_meet
            case rel => exact ⟨_, (((bt a0 0) == 48)), (by first | rfl | (simp; done) | (simp [*]; done)), H', ⟨by first | omega | exact Nat.le_refl _⟩, by repeat (first | exact Drawn0.refl _ | apply Drawn0.step)⟩
          · rw [if_neg c7] at H
            exact absurd H (by simp)
        · rw [if_neg c6] at H
          have c6b0 : decide (1 < (a0.size : Int)) = false := decide_eq_false c6
          have c6b1 : decide (1 < a0.size) = false := decide_eq_false (by omega)
          clear c6
          have H' := Aside0.mk H
          clear H
          go_wp2_with (first | ((with_reducible refine gate_callee (f := 45) rfl ?_); refine goesL_ (some 6) rfl rfl Tryd.func45 (by kernel_rfl) rfl #[.string a0] rfl (by (try simp only [List.map_toArray, List.map_cons, List.map_nil]); first | done | rfl | (simp only [List.length_drop, List.length_take]; rfl)) ?_; (with_reducible refine (graftbedref03_digits.calls k a0 true _ A3.out).mono ?_); rintro e w' ⟨rfl, ⟨nd, rfl⟩⟩; refine ⟨_, rfl, ?_⟩))
          go_meet
          case rel => exact ⟨_, (false), (by first | rfl | (simp; done) | (simp [*]; done)), H', ⟨by first | omega | exact Nat.le_refl _⟩, by repeat (first | exact Drawn0.refl _ | apply Drawn0.step)⟩
    · replace c4 := Bool.eq_false_iff.mpr c4
      subst c4
      have H1 : (graftbedref03_Number.j0 k a0 true) = some r := by rw [if_neg (show ¬ (false = true) by decide)] at H; exact H
      clear H
      have H := H1
      clear H1
      have H' := Aside0.mk H
      clear H
      go_wp2_with (first | ((with_reducible refine gate_callee (f := 45) rfl ?_); refine goesL_ (some 6) rfl rfl Tryd.func45 (by kernel_rfl) rfl #[.string a0] rfl (by (try simp only [List.map_toArray, List.map_cons, List.map_nil]); first | done | rfl | (simp only [List.length_drop, List.length_take]; rfl)) ?_; (with_reducible refine (graftbedref03_digits.calls k a0 false _ A3.out).mono ?_); rintro e w' ⟨rfl, ⟨nd, rfl⟩⟩; refine ⟨_, rfl, ?_⟩))
      go_meet
      case rel => exact ⟨_, (true), (by first | rfl | (simp; done) | (simp [*]; done)), H', ⟨by first | omega | exact Nat.le_refl _⟩, by repeat (first | exact Drawn0.refl _ | apply Drawn0.step)⟩
  case rest =>
    clear HC2
    try clear p2
    try clear c4
    try clear c5
    try clear c5b0
    try clear c5b1
    try clear c6
    try clear c6b0
    try clear c6b1
    try clear c7
    try clear c7b0
    try clear c7b1
    try clear p8
    try clear q8
    try clear hx8
    try clear qi8
    try clear p8
    try clear q8
    obtain ⟨kq, x22_1, rfl, HA, HJ1, ⟨mc1, rfl⟩⟩ := hcut
    cases kq with
    | zero => exact absurd HA.out (by simp [graftbedref03_Number.j0])
    | succ kj1 =>
      have H := HA.out
      clear HA
      simp only [graftbedref03_Number.j0] at H
      by_cases c9 : x22_1 = true
      · subst c9
        have H1 : (some (-1)) = some r := by rw [if_pos rfl] at H; exact H
        clear H
        have H := H1
        clear H1
        obtain rfl := Option.some.inj H
        go_wp2
        go_ret
        exact ⟨by first | rfl | (simp; done) | (simp [*]; done) | (have ne_ : ∀ l : List UInt8, (l != []) = !l.isEmpty := (fun l => by cases l <;> rfl); simp [ne_]; done), by repeat (first | exact Drawn0.refl _ | apply Drawn0.step)⟩
      · replace c9 := Bool.eq_false_iff.mpr c9
        subst c9
        have H1 : (graftbedref03_Number.l0 kj1 a0 0 0) = some r := by rw [if_neg (show ¬ (false = true) by decide)] at H; exact H
        clear H
        have H := H1
        clear H1
        have H' := Aside0.mk H
        clear H
        go_wp2
        go_loopg [3, 4] kj1 (fun kq v3 v4 w' => ∃ (x3_2 : Int) (x4_2 : Int), v3 = .int .i64 x3_2 ∧ v4 = .int .i64 x4_2 ∧ Aside0 (graftbedref03_Number.l0 kq a0 x3_2 x4_2 = some r) ∧ Aside0 (kq ≤ kj1) ∧ Drawn0 w w')
        case atStart => exact ⟨(0), (0), (by first | rfl | (simp; done) | (simp [*]; done)), (by first | rfl | (simp; done) | (simp [*]; done)), H', ⟨Nat.le_refl _⟩, by repeat (first | exact Drawn0.refl _ | apply Drawn0.step)⟩
        case round =>
          clear H'
          try clear c1
          try clear p2
          try clear c4
          try clear c5
          try clear c5b0
          try clear c5b1
          try clear c6
          try clear c6b0
          try clear c6b1
          try clear c7
          try clear c7b0
          try clear c7b1
          try clear p8
          try clear q8
          try clear hx8
          try clear qi8
          try clear c9
          try clear p2
          try clear p8
          try clear q8
          obtain ⟨x3_2, x4_2, rfl, rfl, HA, HK2, ⟨m2, rfl⟩⟩ := hrel
          cases gk with
          | zero => exact absurd HA.out (by simp [graftbedref03_Number.l0])
          | succ k2 =>
            have H := HA.out
            clear HA
            simp only [graftbedref03_Number.l0] at H
            by_cases c10 : x4_2 < (a0.size : Int)
            · rw [if_pos c10] at H
              have c10b0 : decide (x4_2 < (a0.size : Int)) = true := decide_eq_true c10
              clear c10
              by_cases c11 : 0 ≤ x4_2
              · rw [if_pos c11] at H
                have c11b0 : decide (0 ≤ x4_2) = true := decide_eq_true c11
                clear c11
                have H' := Aside0.mk H
                clear H
                have p12 : 0 ≤ (x4_2 : Int) := of_decide_eq_true (by first | (with_reducible assumption) | assumption)
                have q12 : x4_2 < (a0.size : Int) := of_decide_eq_true (by first | (with_reducible assumption) | assumption)
                have hx12 := bt_at a0 x4_2
                replace p12 := eq_true p12
                replace q12 := eq_true q12
                go_wp2
                go_roundg k2
                case measure => have := HJ1.out; have := HK2.out; omega
                case rel => exact ⟨(wrap64 ((wrap64 (10 * x3_2)) + (((bt a0 x4_2) - 48) % 256))), (wrap64 (x4_2 + 1)), (by first | rfl | (simp; done) | (simp [*]; done)), (by first | rfl | (simp; done) | (simp [*]; done)), H', ⟨by have := HJ1.out; have := HK2.out; omega⟩, by repeat (first | exact Drawn0.refl _ | apply Drawn0.step)⟩
              · rw [if_neg c11] at H
                exact absurd H (by simp)
            · rw [if_neg c10] at H
              have c10b0 : decide (x4_2 < (a0.size : Int)) = false := decide_eq_false c10
              clear c10
              obtain rfl := Option.some.inj H
              go_wp2
              go_ret
              exact ⟨by first | rfl | (simp; done) | (simp [*]; done) | (have ne_ : ∀ l : List UInt8, (l != []) = !l.isEmpty := (fun l => by cases l <;> rfl); simp [ne_]; done), by repeat (first | exact Drawn0.refl _ | apply Drawn0.step)⟩

end Go.Proofs.YtaddonafdllciaaDoor.PAll
