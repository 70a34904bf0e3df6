-- by hprint.py (wip/): the kit's print over contracts proved by hand; a text of this session
import Derived.Test.YthiecbkkbiejjaaPAllx0
import Derived.Test.YthiecbkkbiejjaaPAllx3
import Derived.Test.YthiecbkkbiejjaaPAllx4
import Derived.Test.YthiecbkkbiejjaaPAllx5
import Derived.Test.YthiecbkkbiejjaaPAllx6
namespace Go.Proofs.Ythiecbkkbiejjaa.PAll
open Go.RowKit Go.Proofs.YthiecbkkbiejjaaW.PrintWords Go.Proofs.YthiecbkkbiejjaaW.PrintLast Go.Proofs.YthiecbkkbiejjaaW.PrintMore
attribute [local go_sem] max2_int min2_int max_two min_two max_three min_three max_four min_four   -- for this text's walks alone
set_option linter.unusedVariables false
set_option linter.unusedSimpArgs false

/-! ### graftbedlaw01_PathsWithin: function 7 -/
mutual
def graftbedlaw01_PathsWithin.j0 : Nat → ByteArray → ByteArray → Bool → Option (Bool)
  | 0, _, _, _ => none
  | k + 1, x0, x1, x20 => if x20 = true then ((paths_Valid.f (⟨#[97]⟩ : ByteArray)).bind fun t197 => (some t197)) else ((paths_Split.f k x0).bind fun bt198 => ((graftbedref01_Valid.f k x0).bind fun t200 => (if t200 = true then ((paths_Join.f bt198.1 bt198.2).bind fun t201 => (graftbedlaw01_PathsWithin.j1 k x0 x1 (t201.toList != x0.toList))) else (graftbedlaw01_PathsWithin.j1 k x0 x1 false))))
def graftbedlaw01_PathsWithin.j1 : Nat → ByteArray → ByteArray → Bool → Option (Bool)
  | 0, _, _, _ => none
  | k + 1, x0, x1, x35 => if x35 = true then (some false) else ((paths_Within.f x0 x1).bind fun bt202 => (if bt202.2 = true then ((graftbedref01_Valid.f k x0).bind fun t204 => (if t204 = true then ((graftbedref01_Valid.f k x1).bind fun t205 => (if t205 = true then ((paths_Join.f x1 bt202.1).bind fun t206 => (some (t206.toList == x0.toList))) else (some true))) else (some true))) else (some (bt202.1.toList == ([] : List UInt8)))))
end
def graftbedlaw01_PathsWithin.f (k : Nat) (a0 : ByteArray) (a1 : ByteArray) : Option (Bool) := if (a0.size : Int) > 2048 then (graftbedlaw01_PathsWithin.j0 k a0 a1 true) else (if (a1.size : Int) > 2048 then (graftbedlaw01_PathsWithin.j0 k a0 a1 true) else ((paths_Valid.f (⟨#[97]⟩ : ByteArray)).bind fun t196 => (graftbedlaw01_PathsWithin.j0 k a0 a1 (!t196))))
theorem graftbedlaw01_PathsWithin.mono_l : ∀ k, (∀ y0 y1 y2, LeO (graftbedlaw01_PathsWithin.j0 k y0 y1 y2) (graftbedlaw01_PathsWithin.j0 (k + 1) y0 y1 y2)) ∧ (∀ y0 y1 y2, LeO (graftbedlaw01_PathsWithin.j1 k y0 y1 y2) (graftbedlaw01_PathsWithin.j1 (k + 1) y0 y1 y2))
  | 0 => ⟨fun _ _ _ r h => by simp [graftbedlaw01_PathsWithin.j0] at h, fun _ _ _ r h => by simp [graftbedlaw01_PathsWithin.j1] at h⟩
  | k + 1 => by
    obtain ⟨ih0, ih1⟩ := graftbedlaw01_PathsWithin.mono_l k
    refine ⟨?_, ?_⟩
    · intro y0 y1 y2
      unfold graftbedlaw01_PathsWithin.j0
      repeat' first
      | (with_reducible exact ih0 _ _ _)
      | (with_reducible exact ih1 _ _ _)
      | (with_reducible exact graftbedref01_Valid.mono _ _)
      | (with_reducible exact paths_Split.mono _ _)
      | (with_reducible exact LeO.refl _)
      | (with_reducible exact LeO.none _)
      | (with_reducible refine LeO.ite ?_ ?_)
      | (with_reducible refine LeO.bind ?_ (fun _ => ?_))
      | exact ih0 _ _ _
      | exact ih1 _ _ _
      | exact graftbedref01_Valid.mono _ _
      | exact paths_Split.mono _ _
      | exact LeO.none _
      | refine LeO.ite ?_ ?_
      | refine LeO.bind ?_ (fun _ => ?_)
    · intro y0 y1 y2
      unfold graftbedlaw01_PathsWithin.j1
      repeat' first
      | (with_reducible exact ih0 _ _ _)
      | (with_reducible exact ih1 _ _ _)
      | (with_reducible exact graftbedref01_Valid.mono _ _)
      | (with_reducible exact paths_Split.mono _ _)
      | (with_reducible exact LeO.refl _)
      | (with_reducible exact LeO.none _)
      | (with_reducible refine LeO.ite ?_ ?_)
      | (with_reducible refine LeO.bind ?_ (fun _ => ?_))
      | exact ih0 _ _ _
      | exact ih1 _ _ _
      | exact graftbedref01_Valid.mono _ _
      | exact paths_Split.mono _ _
      | exact LeO.none _
      | refine LeO.ite ?_ ?_
      | refine LeO.bind ?_ (fun _ => ?_)
theorem graftbedlaw01_PathsWithin.mono : ∀ a0 a1 k, LeO (graftbedlaw01_PathsWithin.f k a0 a1) (graftbedlaw01_PathsWithin.f (k + 1) a0 a1) := by
  intro a0 a1 k
  obtain ⟨ih0, ih1⟩ := graftbedlaw01_PathsWithin.mono_l k
  unfold graftbedlaw01_PathsWithin.f
  repeat' first
      | (with_reducible exact ih0 _ _ _)
      | (with_reducible exact ih1 _ _ _)
      | (with_reducible exact graftbedref01_Valid.mono _ _)
      | (with_reducible exact paths_Split.mono _ _)
      | (with_reducible exact LeO.refl _)
      | (with_reducible exact LeO.none _)
      | (with_reducible refine LeO.ite ?_ ?_)
      | (with_reducible refine LeO.bind ?_ (fun _ => ?_))
      | exact ih0 _ _ _
      | exact ih1 _ _ _
      | exact graftbedref01_Valid.mono _ _
      | exact paths_Split.mono _ _
      | exact LeO.none _
      | refine LeO.ite ?_ ?_
      | refine LeO.bind ?_ (fun _ => ?_)
set_option maxHeartbeats 8000000 in
set_option maxRecDepth 100000 in
theorem graftbedlaw01_PathsWithin.calls (k : Nat) (a0 : ByteArray) (a1 : ByteArray) (r : Bool) (w : World) (h : graftbedlaw01_PathsWithin.f k a0 a1 = some r) :
    Calls Try.prog 7 #[.string a0, .string a1] w fun e w' => e = .returned (.bool r) ∧ Below w.heap.size w w' := by
  have HB := Aside0.mk (Below.refl w.heap.size w)
  have H : (if (a0.size : Int) > 2048 then (graftbedlaw01_PathsWithin.j0 k a0 a1 true) else (if (a1.size : Int) > 2048 then (graftbedlaw01_PathsWithin.j0 k a0 a1 true) else ((paths_Valid.f (⟨#[97]⟩ : ByteArray)).bind fun t196 => (graftbedlaw01_PathsWithin.j0 k a0 a1 (!t196))))) = some r := h
  clear h
  have HC3 := Aside0.mk H
  clear H
  go_enter Try.func7, Try.ntmps7
  go_upto_region 1 with (fail)
  go_cut [20] (fun v20 wc => ∃ (kq : Nat) (x20_2 : Bool), v20 = .bool x20_2 ∧ Aside0 (graftbedlaw01_PathsWithin.j0 kq a0 a1 x20_2 = some r) ∧ Aside0 (kq ≤ k) ∧ Aside0 (Below w.heap.size w wc))
  case first =>
    have H := HC3.out
    clear HC3
    by_cases c4 : (a0.size : Int) > 2048
    · rw [if_pos c4] at H
      have c4b0 : decide (2048 < (a0.size : Int)) = true := decide_eq_true c4
      have c4b1 : decide (2048 < a0.size) = true := decide_eq_true (by omega)
      clear c4
      (first | rw [c4b0] | (simp only [i64_w, i32_w]; rw [c4b0]) | skip)
      have H' := Aside0.mk H
      clear H
      go_wp2
      go_meet
      case rel => exact ⟨_, (true), (by first | rfl | (simp; done) | (simp [*]; done)), H', ⟨by first | omega | exact Nat.le_refl _⟩, ⟨by repeat (first | (with_reducible first | exact HB.out | apply below_alloc | apply pw_below_drewN | apply below_drew1) | exact HB.out)⟩⟩
    · rw [if_neg c4] at H
      have c4b0 : decide (2048 < (a0.size : Int)) = false := decide_eq_false c4
      have c4b1 : decide (2048 < a0.size) = false := decide_eq_false (by omega)
      clear c4
      (first | rw [c4b0] | (simp only [i64_w, i32_w]; rw [c4b0]) | skip)
      by_cases c5 : (a1.size : Int) > 2048
      · rw [if_pos c5] at H
        have c5b0 : decide (2048 < (a1.size : Int)) = true := decide_eq_true c5
        have c5b1 : decide (2048 < a1.size) = true := decide_eq_true (by omega)
        clear c5
        have H' := Aside0.mk H
        clear H
        go_wp2
        go_meet
        case rel => exact ⟨_, (true), (by first | rfl | (simp; done) | (simp [*]; done)), H', ⟨by first | omega | exact Nat.le_refl _⟩, ⟨by repeat (first | (with_reducible first | exact HB.out | apply below_alloc | apply pw_below_drewN | apply below_drew1) | exact HB.out)⟩⟩
      · rw [if_neg c5] at H
        have c5b0 : decide (2048 < (a1.size : Int)) = false := decide_eq_false c5
        have c5b1 : decide (2048 < a1.size) = false := decide_eq_false (by omega)
        clear c5
        replace H := Option.bind_eq_some_iff.mp H
        obtain ⟨t196, A60, H⟩ := H
        replace H : (graftbedlaw01_PathsWithin.j0 k a0 a1 (!t196)) = some r := H
        have A6 := Aside0.mk A60
        clear A60
        have H' := Aside0.mk H
        clear H
        go_wp2_with (first | (go_at_call 20; (with_reducible refine (paths_Valid.calls (⟨#[97]⟩ : ByteArray) t196 _ A6.out).mono ?_); rintro e w7 ⟨rfl, hb⟩; have n0_ := Aside0.mk (below_step (by repeat (first | (with_reducible first | exact HB.out | apply below_alloc | apply pw_below_drewN | apply below_drew1) | exact HB.out)) hb); clear HB; have HB := n0_; clear n0_; (try clear hb); (try clear hb2); (try clear hk); (try clear hi)))
        go_meet
        case rel => exact ⟨_, (!t196), (by first | rfl | (simp; done) | (simp [*]; done)), H', ⟨by first | omega | exact Nat.le_refl _⟩, ⟨by repeat (first | (with_reducible first | exact HB.out | apply below_alloc | apply pw_below_drewN | apply below_drew1) | exact HB.out)⟩⟩
  case rest =>
    clear HC3
    try clear p2
    try clear c4
    try clear c4b0
    try clear c4b1
    try clear c5
    try clear c5b0
    try clear c5b1
    try clear c7
    obtain ⟨kq, x20_2, rfl, HA, HJ2, HB⟩ := hcut
    cases kq with
    | zero => exact absurd HA.out (by simp [graftbedlaw01_PathsWithin.j0])
    | succ kj2 =>
      have H := HA.out
      clear HA
      simp only [graftbedlaw01_PathsWithin.j0] at H
      by_cases c8 : x20_2 = true
      · subst c8
        have H1 : ((paths_Valid.f (⟨#[97]⟩ : ByteArray)).bind fun t197 => (some t197)) = some r := by rw [if_pos rfl] at H; exact H
        clear H
        have H := H1
        clear H1
        replace H := Option.bind_eq_some_iff.mp H
        obtain ⟨t197, A90, H⟩ := H
        replace H : (some t197) = some r := H
        have A9 := Aside0.mk A90
        clear A90
        obtain rfl := Option.some.inj H
        go_wp2_with (first | ((with_reducible refine gate_callee (f := 20) rfl ?_); refine goesL_ (some 21) rfl rfl Try.func20 (by kernel_rfl) rfl #[.string (⟨#[97]⟩ : ByteArray)] rfl (by (try simp only [List.map_toArray, List.map_cons, List.map_nil]); first | done | rfl | (simp only [List.length_drop, List.length_take]; rfl)) ?_; (with_reducible refine (paths_Valid.calls (⟨#[97]⟩ : ByteArray) t197 _ A9.out).mono ?_); rintro e w10 ⟨rfl, hb⟩; refine ⟨_, rfl, ?_⟩; have n0_ := Aside0.mk (below_step (by repeat (first | (with_reducible first | exact HB.out | apply below_alloc | apply pw_below_drewN | apply below_drew1) | exact HB.out)) hb); clear HB; have HB := n0_; clear n0_; (try clear hb); (try clear hb2); (try clear hk); (try clear hi)))
        go_ret
        exact ⟨by first | rfl | (simp [errW_none, errW_some] <;> rfl) | (simp [*, errW_none, errW_some] <;> rfl), by repeat (first | (with_reducible first | exact HB.out | apply below_alloc | apply pw_below_drewN | apply below_drew1) | exact HB.out)⟩
      · replace c8 := Bool.eq_false_iff.mpr c8
        subst c8
        have H1 : ((paths_Split.f kj2 a0).bind fun bt198 => ((graftbedref01_Valid.f kj2 a0).bind fun t200 => (if t200 = true then ((paths_Join.f bt198.1 bt198.2).bind fun t201 => (graftbedlaw01_PathsWithin.j1 kj2 a0 a1 (t201.toList != a0.toList))) else (graftbedlaw01_PathsWithin.j1 kj2 a0 a1 false)))) = some r := by rw [if_neg (show ¬ (false = true) by decide)] at H; exact H
        clear H
        have H := H1
        clear H1
        replace H := Option.bind_eq_some_iff.mp H
        obtain ⟨⟨t198, t199⟩, A110, H⟩ := H
        replace H : ((graftbedref01_Valid.f kj2 a0).bind fun t200 => (if t200 = true then ((paths_Join.f t198 t199).bind fun t201 => (graftbedlaw01_PathsWithin.j1 kj2 a0 a1 (t201.toList != a0.toList))) else (graftbedlaw01_PathsWithin.j1 kj2 a0 a1 false))) = some r := H
        have A11 := Aside0.mk A110
        clear A110
        have HC12 := Aside0.mk H
        clear H
        go_upto_region 4 with (first | ((with_reducible refine gate_callee (f := 10) rfl ?_); refine goesL_ (some 24) rfl rfl Try.func10 (by kernel_rfl) rfl #[.string a0] rfl (by (try simp only [List.map_toArray, List.map_cons, List.map_nil]); first | done | rfl | (simp only [List.length_drop, List.length_take]; rfl)) ?_; (with_reducible refine (paths_Split.calls kj2 a0 t198 t199 _ A11.out).mono ?_); rintro e w' ⟨rfl, ⟨nd, rfl⟩⟩; refine ⟨_, rfl, ?_⟩))
        (try simp only [Act.put, List.setIfInBounds_toArray, List.set_cons_zero, List.set_cons_succ])
        go_cut [35] (fun v35 wc => ∃ (kq : Nat) (x35_11 : Bool), v35 = .bool x35_11 ∧ Aside0 (graftbedlaw01_PathsWithin.j1 kq a0 a1 x35_11 = some r) ∧ Aside0 (kq ≤ kj2) ∧ Aside0 (Below w.heap.size w wc))
        case first =>
          have H := HC12.out
          clear HC12
          replace H := Option.bind_eq_some_iff.mp H
          obtain ⟨t200, A130, H⟩ := H
          replace H : (if t200 = true then ((paths_Join.f t198 t199).bind fun t201 => (graftbedlaw01_PathsWithin.j1 kj2 a0 a1 (t201.toList != a0.toList))) else (graftbedlaw01_PathsWithin.j1 kj2 a0 a1 false)) = some r := H
          have A13 := Aside0.mk A130
          clear A130
          by_cases c14 : t200 = true
          · subst c14
            have H1 : ((paths_Join.f t198 t199).bind fun t201 => (graftbedlaw01_PathsWithin.j1 kj2 a0 a1 (t201.toList != a0.toList))) = some r := by rw [if_pos rfl] at H; exact H
            clear H
            have H := H1
            clear H1
            replace H := Option.bind_eq_some_iff.mp H
            obtain ⟨t201, A150, H⟩ := H
            replace H : (graftbedlaw01_PathsWithin.j1 kj2 a0 a1 (t201.toList != a0.toList)) = some r := H
            have A15 := Aside0.mk A150
            clear A150
            have H' := Aside0.mk H
            clear H
            go_wp2_with (first | ((with_reducible refine gate_callee (f := 21) rfl ?_); refine goesL_ (some 28) rfl rfl Try.func21 (by kernel_rfl) rfl #[.string a0] rfl (by (try simp only [List.map_toArray, List.map_cons, List.map_nil]); first | done | rfl | (simp only [List.length_drop, List.length_take]; rfl)) ?_; (with_reducible refine (graftbedref01_Valid.calls kj2 a0 true _ A13.out).mono ?_); rintro e w16 ⟨rfl, hb⟩; refine ⟨_, rfl, ?_⟩; have n0_ := Aside0.mk (below_step (by repeat (first | (with_reducible first | exact HB.out | apply below_alloc | apply pw_below_drewN | apply below_drew1) | exact HB.out)) hb); clear HB; have HB := n0_; clear n0_; (try clear hb); (try clear hb2); (try clear hk); (try clear hi)) | (go_at_call 14; (with_reducible refine (paths_Join.calls t198 t199 t201 _ A15.out).mono ?_); rintro e w' ⟨rfl, ⟨nd, rfl⟩⟩))
            go_meet
            case rel => exact ⟨_, ((t201.toList != a0.toList)), (by first | rfl | (simp; done) | (simp [*]; done)), H', ⟨by have := HJ2.out; first | omega | exact Nat.le_refl _⟩, ⟨by repeat (first | (with_reducible first | exact HB.out | apply below_alloc | apply pw_below_drewN | apply below_drew1) | exact HB.out)⟩⟩
          · replace c14 := Bool.eq_false_iff.mpr c14
            subst c14
            have H1 : (graftbedlaw01_PathsWithin.j1 kj2 a0 a1 false) = some r := by rw [if_neg (show ¬ (false = true) by decide)] at H; exact H
            clear H
            have H := H1
            clear H1
            have H' := Aside0.mk H
            clear H
            go_wp2_with (first | ((with_reducible refine gate_callee (f := 21) rfl ?_); refine goesL_ (some 28) rfl rfl Try.func21 (by kernel_rfl) rfl #[.string a0] rfl (by (try simp only [List.map_toArray, List.map_cons, List.map_nil]); first | done | rfl | (simp only [List.length_drop, List.length_take]; rfl)) ?_; (with_reducible refine (graftbedref01_Valid.calls kj2 a0 false _ A13.out).mono ?_); rintro e w17 ⟨rfl, hb⟩; refine ⟨_, rfl, ?_⟩; have n0_ := Aside0.mk (below_step (by repeat (first | (with_reducible first | exact HB.out | apply below_alloc | apply pw_below_drewN | apply below_drew1) | exact HB.out)) hb); clear HB; have HB := n0_; clear n0_; (try clear hb); (try clear hb2); (try clear hk); (try clear hi)))
            go_meet
            case rel => exact ⟨_, (false), (by first | rfl | (simp; done) | (simp [*]; done)), H', ⟨by have := HJ2.out; first | omega | exact Nat.le_refl _⟩, ⟨by repeat (first | (with_reducible first | exact HB.out | apply below_alloc | apply pw_below_drewN | apply below_drew1) | exact HB.out)⟩⟩
        case rest =>
          clear HC12
          try clear c1
          try clear c2
          try clear p2
          try clear c4
          try clear c4b0
          try clear c4b1
          try clear c5
          try clear c5b0
          try clear c5b1
          try clear c7
          try clear c8
          try clear c10
          try clear c14
          try clear p2
          obtain ⟨kq, x35_11, rfl, HA, HJ11, HB⟩ := hcut
          cases kq with
          | zero => exact absurd HA.out (by simp [graftbedlaw01_PathsWithin.j1])
          | succ kj11 =>
            have H := HA.out
            clear HA
            simp only [graftbedlaw01_PathsWithin.j1] at H
            by_cases c18 : x35_11 = true
            · subst c18
              have H1 : (some false) = some r := by rw [if_pos rfl] at H; exact H
              clear H
              have H := H1
              clear H1
              obtain rfl := Option.some.inj H
              go_wp2
              go_ret
              exact ⟨by first | rfl | (simp [errW_none, errW_some] <;> rfl) | (simp [*, errW_none, errW_some] <;> rfl), by repeat (first | (with_reducible first | exact HB.out | apply below_alloc | apply pw_below_drewN | apply below_drew1) | exact HB.out)⟩
            · replace c18 := Bool.eq_false_iff.mpr c18
              subst c18
              have H1 : ((paths_Within.f a0 a1).bind fun bt202 => (if bt202.2 = true then ((graftbedref01_Valid.f kj11 a0).bind fun t204 => (if t204 = true then ((graftbedref01_Valid.f kj11 a1).bind fun t205 => (if t205 = true then ((paths_Join.f a1 bt202.1).bind fun t206 => (some (t206.toList == a0.toList))) else (some true))) else (some true))) else (some (bt202.1.toList == ([] : List UInt8))))) = some r := by rw [if_neg (show ¬ (false = true) by decide)] at H; exact H
              clear H
              have H := H1
              clear H1
              replace H := Option.bind_eq_some_iff.mp H
              obtain ⟨⟨t202, t203⟩, A190, H⟩ := H
              replace H : (if t203 = true then ((graftbedref01_Valid.f kj11 a0).bind fun t204 => (if t204 = true then ((graftbedref01_Valid.f kj11 a1).bind fun t205 => (if t205 = true then ((paths_Join.f a1 t202).bind fun t206 => (some (t206.toList == a0.toList))) else (some true))) else (some true))) else (some (t202.toList == ([] : List UInt8)))) = some r := H
              have A19 := Aside0.mk A190
              clear A190
              by_cases c20 : t203 = true
              · subst c20
                have H1 : ((graftbedref01_Valid.f kj11 a0).bind fun t204 => (if t204 = true then ((graftbedref01_Valid.f kj11 a1).bind fun t205 => (if t205 = true then ((paths_Join.f a1 t202).bind fun t206 => (some (t206.toList == a0.toList))) else (some true))) else (some true))) = some r := by rw [if_pos rfl] at H; exact H
                clear H
                have H := H1
                clear H1
                replace H := Option.bind_eq_some_iff.mp H
                obtain ⟨t204, A210, H⟩ := H
                replace H : (if t204 = true then ((graftbedref01_Valid.f kj11 a1).bind fun t205 => (if t205 = true then ((paths_Join.f a1 t202).bind fun t206 => (some (t206.toList == a0.toList))) else (some true))) else (some true)) = some r := H
                have A21 := Aside0.mk A210
                clear A210
                by_cases c22 : t204 = true
                · subst c22
                  have H1 : ((graftbedref01_Valid.f kj11 a1).bind fun t205 => (if t205 = true then ((paths_Join.f a1 t202).bind fun t206 => (some (t206.toList == a0.toList))) else (some true))) = some r := by rw [if_pos rfl] at H; exact H
                  clear H
                  have H := H1
                  clear H1
                  replace H := Option.bind_eq_some_iff.mp H
                  obtain ⟨t205, A230, H⟩ := H
                  replace H : (if t205 = true then ((paths_Join.f a1 t202).bind fun t206 => (some (t206.toList == a0.toList))) else (some true)) = some r := H
                  have A23 := Aside0.mk A230
                  clear A230
                  by_cases c24 : t205 = true
                  · subst c24
                    have H1 : ((paths_Join.f a1 t202).bind fun t206 => (some (t206.toList == a0.toList))) = some r := by rw [if_pos rfl] at H; exact H
                    clear H
                    have H := H1
                    clear H1
                    replace H := Option.bind_eq_some_iff.mp H
                    obtain ⟨t206, A250, H⟩ := H
                    replace H : (some (t206.toList == a0.toList)) = some r := H
                    have A25 := Aside0.mk A250
                    clear A250
                    obtain rfl := Option.some.inj H
                    go_wp2_with (first | ((with_reducible refine gate_callee (f := 12) rfl ?_); refine goesL_ (some 39) rfl rfl Try.func12 (by kernel_rfl) rfl #[.string a0, .string a1] rfl (by (try simp only [List.map_toArray, List.map_cons, List.map_nil]); first | done | rfl | (simp only [List.length_drop, List.length_take]; rfl)) ?_; (with_reducible refine (paths_Within.calls a0 a1 t202 true _ A19.out).mono ?_); rintro e w' ⟨rfl, ⟨nd, rfl⟩⟩; refine ⟨_, rfl, ?_⟩) | ((with_reducible refine gate_callee (f := 21) rfl ?_); refine goesL_ (some 47) rfl rfl Try.func21 (by kernel_rfl) rfl #[.string a0] rfl (by (try simp only [List.map_toArray, List.map_cons, List.map_nil]); first | done | rfl | (simp only [List.length_drop, List.length_take]; rfl)) ?_; (with_reducible refine (graftbedref01_Valid.calls kj11 a0 true _ A21.out).mono ?_); rintro e w26 ⟨rfl, hb⟩; refine ⟨_, rfl, ?_⟩; have n0_ := Aside0.mk (below_step (by repeat (first | (with_reducible first | exact HB.out | apply below_alloc | apply pw_below_drewN | apply below_drew1) | exact HB.out)) hb); clear HB; have HB := n0_; clear n0_; (try clear hb); (try clear hb2); (try clear hk); (try clear hi)) | (go_at_call 21; (with_reducible refine (graftbedref01_Valid.calls kj11 a1 true _ A23.out).mono ?_); rintro e w27 ⟨rfl, hb⟩; have n0_ := Aside0.mk (below_step (by repeat (first | (with_reducible first | exact HB.out | apply below_alloc | apply pw_below_drewN | apply below_drew1) | exact HB.out)) hb); clear HB; have HB := n0_; clear n0_; (try clear hb); (try clear hb2); (try clear hk); (try clear hi)) | (go_at_call 14; (with_reducible refine (paths_Join.calls a1 t202 t206 _ A25.out).mono ?_); rintro e w' ⟨rfl, ⟨nd, rfl⟩⟩))
                    go_ret
                    exact ⟨by first | rfl | (simp [errW_none, errW_some] <;> rfl) | (simp [*, errW_none, errW_some] <;> rfl), by repeat (first | (with_reducible first | exact HB.out | apply below_alloc | apply pw_below_drewN | apply below_drew1) | exact HB.out)⟩
                  · replace c24 := Bool.eq_false_iff.mpr c24
                    subst c24
                    have H1 : (some true) = some r := by rw [if_neg (show ¬ (false = true) by decide)] at H; exact H
                    clear H
                    have H := H1
                    clear H1
                    obtain rfl := Option.some.inj H
                    go_wp2_with (first | ((with_reducible refine gate_callee (f := 12) rfl ?_); refine goesL_ (some 39) rfl rfl Try.func12 (by kernel_rfl) rfl #[.string a0, .string a1] rfl (by (try simp only [List.map_toArray, List.map_cons, List.map_nil]); first | done | rfl | (simp only [List.length_drop, List.length_take]; rfl)) ?_; (with_reducible refine (paths_Within.calls a0 a1 t202 true _ A19.out).mono ?_); rintro e w' ⟨rfl, ⟨nd, rfl⟩⟩; refine ⟨_, rfl, ?_⟩) | ((with_reducible refine gate_callee (f := 21) rfl ?_); refine goesL_ (some 47) rfl rfl Try.func21 (by kernel_rfl) rfl #[.string a0] rfl (by (try simp only [List.map_toArray, List.map_cons, List.map_nil]); first | done | rfl | (simp only [List.length_drop, List.length_take]; rfl)) ?_; (with_reducible refine (graftbedref01_Valid.calls kj11 a0 true _ A21.out).mono ?_); rintro e w28 ⟨rfl, hb⟩; refine ⟨_, rfl, ?_⟩; have n0_ := Aside0.mk (below_step (by repeat (first | (with_reducible first | exact HB.out | apply below_alloc | apply pw_below_drewN | apply below_drew1) | exact HB.out)) hb); clear HB; have HB := n0_; clear n0_; (try clear hb); (try clear hb2); (try clear hk); (try clear hi)) | (go_at_call 21; (with_reducible refine (graftbedref01_Valid.calls kj11 a1 false _ A23.out).mono ?_); rintro e w29 ⟨rfl, hb⟩; have n0_ := Aside0.mk (below_step (by repeat (first | (with_reducible first | exact HB.out | apply below_alloc | apply pw_below_drewN | apply below_drew1) | exact HB.out)) hb); clear HB; have HB := n0_; clear n0_; (try clear hb); (try clear hb2); (try clear hk); (try clear hi)))
                    go_ret
                    exact ⟨by first | rfl | (simp [errW_none, errW_some] <;> rfl) | (simp [*, errW_none, errW_some] <;> rfl), by repeat (first | (with_reducible first | exact HB.out | apply below_alloc | apply pw_below_drewN | apply below_drew1) | exact HB.out)⟩
                · replace c22 := Bool.eq_false_iff.mpr c22
                  subst c22
                  have H1 : (some true) = some r := by rw [if_neg (show ¬ (false = true) by decide)] at H; exact H
                  clear H
                  have H := H1
                  clear H1
                  obtain rfl := Option.some.inj H
                  go_wp2_with (first | ((with_reducible refine gate_callee (f := 12) rfl ?_); refine goesL_ (some 39) rfl rfl Try.func12 (by kernel_rfl) rfl #[.string a0, .string a1] rfl (by (try simp only [List.map_toArray, List.map_cons, List.map_nil]); first | done | rfl | (simp only [List.length_drop, List.length_take]; rfl)) ?_; (with_reducible refine (paths_Within.calls a0 a1 t202 true _ A19.out).mono ?_); rintro e w' ⟨rfl, ⟨nd, rfl⟩⟩; refine ⟨_, rfl, ?_⟩) | ((with_reducible refine gate_callee (f := 21) rfl ?_); refine goesL_ (some 47) rfl rfl Try.func21 (by kernel_rfl) rfl #[.string a0] rfl (by (try simp only [List.map_toArray, List.map_cons, List.map_nil]); first | done | rfl | (simp only [List.length_drop, List.length_take]; rfl)) ?_; (with_reducible refine (graftbedref01_Valid.calls kj11 a0 false _ A21.out).mono ?_); rintro e w30 ⟨rfl, hb⟩; refine ⟨_, rfl, ?_⟩; have n0_ := Aside0.mk (below_step (by repeat (first | (with_reducible first | exact HB.out | apply below_alloc | apply pw_below_drewN | apply below_drew1) | exact HB.out)) hb); clear HB; have HB := n0_; clear n0_; (try clear hb); (try clear hb2); (try clear hk); (try clear hi)))
                  go_ret
                  exact ⟨by first | rfl | (simp [errW_none, errW_some] <;> rfl) | (simp [*, errW_none, errW_some] <;> rfl), by repeat (first | (with_reducible first | exact HB.out | apply below_alloc | apply pw_below_drewN | apply below_drew1) | exact HB.out)⟩
              · replace c20 := Bool.eq_false_iff.mpr c20
                subst c20
                have H1 : (some (t202.toList == ([] : List UInt8))) = some r := by rw [if_neg (show ¬ (false = true) by decide)] at H; exact H
                clear H
                have H := H1
                clear H1
                obtain rfl := Option.some.inj H
                go_wp2_with (first | ((with_reducible refine gate_callee (f := 12) rfl ?_); refine goesL_ (some 39) rfl rfl Try.func12 (by kernel_rfl) rfl #[.string a0, .string a1] rfl (by (try simp only [List.map_toArray, List.map_cons, List.map_nil]); first | done | rfl | (simp only [List.length_drop, List.length_take]; rfl)) ?_; (with_reducible refine (paths_Within.calls a0 a1 t202 false _ A19.out).mono ?_); rintro e w' ⟨rfl, ⟨nd, rfl⟩⟩; refine ⟨_, rfl, ?_⟩))
                go_ret
                exact ⟨by first | rfl | (simp [errW_none, errW_some] <;> rfl) | (simp [*, errW_none, errW_some] <;> rfl), by repeat (first | (with_reducible first | exact HB.out | apply below_alloc | apply pw_below_drewN | apply below_drew1) | exact HB.out)⟩

/-- THE ONE PURE STATEMENT of graftbedlaw01_PathsWithin: yours. -/
def graftbedlaw01_PathsWithin.Pure : Prop := ∀ (a0 : ByteArray) (a1 : ByteArray), a0.size ≤ 140737488351232 → a1.size ≤ 140737488351232 → ∃ k, graftbedlaw01_PathsWithin.f k a0 a1 = some true
theorem graftbedlaw01_PathsWithin.walk (P : graftbedlaw01_PathsWithin.Pure) (a0 : ByteArray) (a1 : ByteArray) (w : World) (w0 : a0.size ≤ 140737488351232) (w1 : a1.size ≤ 140737488351232) :
    Calls Try.prog 7 #[.string a0, .string a1] w fun e w' => e = .returned (.bool true) ∧ Below w.heap.size w w' := by
  obtain ⟨k, h⟩ := P a0 a1 w0 w1
  refine (graftbedlaw01_PathsWithin.calls k a0 a1 true w h).mono ?_
  rintro e w' ⟨rfl, hd⟩
  exact ⟨rfl, hd⟩

end Go.Proofs.Ythiecbkkbiejjaa.PAll
