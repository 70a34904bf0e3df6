-- by hprint.py (wip/): the kit's print over contracts proved by hand; a text of this session
import Derived.Test.YthiecbkkbiejjaaPPathsCleansx0
import Derived.Test.YthiecbkkbiejjaaPPathsCleansx1
namespace Go.Proofs.Ythiecbkkbiejjaa.PPathsCleans
open Go.RowKit Go.Proofs.YthiecbkkbiejjaaW.PrintWords Go.Proofs.YthiecbkkbiejjaaW.PrintLast Go.Proofs.YthiecbkkbiejjaaW.PrintMore
attribute [local go_sem] max2_int min2_int max_two min_two max_three min_three max_four min_four   -- for this text's walks alone
set_option linter.unusedVariables false
set_option linter.unusedSimpArgs false

theorem own_any (A : Option Addr) (n c : Nat) : (Value.slice A n c).ownBlock = A.map (·.block) := by cases A <;> rfl
/-! ### graftbedref01_Clean: function 23 -/
mutual
def graftbedref01_Clean.j0 : Nat → ByteArray → Bool → Option (ByteArray)
  | 0, _, _ => none
  | k + 1, x0, x3 => (graftbedref01_Elems.f k x0).bind fun t110 => (graftbedref01_Clean.l0 k x3 t110 (([] : List ByteArray)) 0)
def graftbedref01_Clean.l0 : Nat → Bool → List ByteArray → List ByteArray → Int → Option (ByteArray)
  | 0, _, _, _, _ => none
  | k + 1, x3, x4, x5, x6 => if x6 < (x4.length : Int) then (if 0 ≤ x6 then (if (rdOf ByteArray.empty x4 x6).toList = ([] : List UInt8) then (graftbedref01_Clean.j2 k x3 x4 x5 x6 true) else (graftbedref01_Clean.j2 k x3 x4 x5 x6 ((rdOf ByteArray.empty x4 x6).toList == ([46] : List UInt8)))) else (none)) else (if x3 = true then (graftbedref01_Clean.j4 k x5 (⟨#[47]⟩ : ByteArray)) else (graftbedref01_Clean.j4 k x5 (⟨#[]⟩ : ByteArray)))
def graftbedref01_Clean.j2 : Nat → Bool → List ByteArray → List ByteArray → Int → Bool → Option (ByteArray)
  | 0, _, _, _, _, _ => none
  | k + 1, x3, x4, x5, x6, x33 => if x33 = true then (graftbedref01_Clean.l0 k x3 x4 x5 (wrap64 (x6 + 1))) else (if 0 ≤ x6 then (if x6 < (x4.length : Int) then (if (rdOf ByteArray.empty x4 x6).toList = ([46, 46] : List UInt8) then (if (x5.length : Int) > 0 then (if 0 ≤ (wrap64 ((x5.length : Int) - 1)) then (if (wrap64 ((x5.length : Int) - 1)) < (x5.length : Int) then (graftbedref01_Clean.j3 k x3 x4 x5 x6 ((rdOf ByteArray.empty x5 (wrap64 ((x5.length : Int) - 1))).toList != ([46, 46] : List UInt8))) else (none)) else (none)) else (graftbedref01_Clean.j3 k x3 x4 x5 x6 false)) else (graftbedref01_Clean.j3 k x3 x4 x5 x6 false)) else (none)) else (none))
def graftbedref01_Clean.j3 : Nat → Bool → List ByteArray → List ByteArray → Int → Bool → Option (ByteArray)
  | 0, _, _, _, _, _ => none
  | k + 1, x3, x4, x5, x6, x46 => if x46 = true then (if 0 ≤ (wrap64 ((x5.length : Int) - 1)) then (if (wrap64 ((x5.length : Int) - 1)) ≤ (x5.length : Int) then (graftbedref01_Clean.l0 k x3 x4 (x5.take ((wrap64 ((x5.length : Int) - 1)) : Int).toNat) (wrap64 (x6 + 1))) else (none)) else (none)) else (if 0 ≤ x6 then (if x6 < (x4.length : Int) then (if (rdOf ByteArray.empty x4 x6).toList = ([46, 46] : List UInt8) then (if x3 = true then (graftbedref01_Clean.l0 k x3 x4 x5 (wrap64 (x6 + 1))) else (if x5.length < 8796093022208 then (graftbedref01_Clean.l0 k x3 x4 (x5 ++ [rdOf ByteArray.empty x4 x6]) (wrap64 (x6 + 1))) else (none))) else (if x5.length < 8796093022208 then (graftbedref01_Clean.l0 k x3 x4 (x5 ++ [rdOf ByteArray.empty x4 x6]) (wrap64 (x6 + 1))) else (none))) else (none)) else (none))
def graftbedref01_Clean.j4 : Nat → List ByteArray → ByteArray → Option (ByteArray)
  | 0, _, _ => none
  | k + 1, x5, x7 => graftbedref01_Clean.l1 k x5 x7 0
def graftbedref01_Clean.l1 : Nat → List ByteArray → ByteArray → Int → Option (ByteArray)
  | 0, _, _, _ => none
  | k + 1, x5, x7, x8 => if x8 < (x5.length : Int) then (if x8 > 0 then (if x7.size + 1 ≤ 9223372036854775807 then (if 0 ≤ x8 then (if (x7 ++ (⟨#[47]⟩ : ByteArray)).size + (rdOf ByteArray.empty x5 x8).size ≤ 9223372036854775807 then (graftbedref01_Clean.l1 k x5 ((x7 ++ (⟨#[47]⟩ : ByteArray)) ++ (rdOf ByteArray.empty x5 x8)) (wrap64 (x8 + 1))) else (none)) else (none)) else (none)) else (if 0 ≤ x8 then (if x7.size + (rdOf ByteArray.empty x5 x8).size ≤ 9223372036854775807 then (graftbedref01_Clean.l1 k x5 (x7 ++ (rdOf ByteArray.empty x5 x8)) (wrap64 (x8 + 1))) else (none)) else (none))) else (if x7.toList = ([] : List UInt8) then (some (⟨#[46]⟩ : ByteArray)) else (some x7))
end
def graftbedref01_Clean.f (k : Nat) (a0 : ByteArray) : Option (ByteArray) := if (a0.size : Int) > 0 then (if 0 < (a0.size : Int) then (graftbedref01_Clean.j0 k a0 ((bt a0 0) == 47)) else (none)) else (graftbedref01_Clean.j0 k a0 false)
theorem graftbedref01_Clean.mono_l : ∀ k, (∀ y0 y1, LeO (graftbedref01_Clean.j0 k y0 y1) (graftbedref01_Clean.j0 (k + 1) y0 y1)) ∧ (∀ y0 y1 y2 y3, LeO (graftbedref01_Clean.l0 k y0 y1 y2 y3) (graftbedref01_Clean.l0 (k + 1) y0 y1 y2 y3)) ∧ (∀ y0 y1 y2 y3 y4, LeO (graftbedref01_Clean.j2 k y0 y1 y2 y3 y4) (graftbedref01_Clean.j2 (k + 1) y0 y1 y2 y3 y4)) ∧ (∀ y0 y1 y2 y3 y4, LeO (graftbedref01_Clean.j3 k y0 y1 y2 y3 y4) (graftbedref01_Clean.j3 (k + 1) y0 y1 y2 y3 y4)) ∧ (∀ y0 y1, LeO (graftbedref01_Clean.j4 k y0 y1) (graftbedref01_Clean.j4 (k + 1) y0 y1)) ∧ (∀ y0 y1 y2, LeO (graftbedref01_Clean.l1 k y0 y1 y2) (graftbedref01_Clean.l1 (k + 1) y0 y1 y2))
  | 0 => ⟨fun _ _ r h => by simp [graftbedref01_Clean.j0] at h, fun _ _ _ _ r h => by simp [graftbedref01_Clean.l0] at h, fun _ _ _ _ _ r h => by simp [graftbedref01_Clean.j2] at h, fun _ _ _ _ _ r h => by simp [graftbedref01_Clean.j3] at h, fun _ _ r h => by simp [graftbedref01_Clean.j4] at h, fun _ _ _ r h => by simp [graftbedref01_Clean.l1] at h⟩
  | k + 1 => by
    obtain ⟨ih0, ih1, ih2, ih3, ih4, ih5⟩ := graftbedref01_Clean.mono_l k
    refine ⟨?_, ?_, ?_, ?_, ?_, ?_⟩
    · intro y0 y1
      unfold graftbedref01_Clean.j0
      repeat' first
      | (with_reducible exact ih0 _ _)
      | (with_reducible exact ih1 _ _ _ _)
      | (with_reducible exact ih2 _ _ _ _ _)
      | (with_reducible exact ih3 _ _ _ _ _)
      | (with_reducible exact ih4 _ _)
      | (with_reducible exact ih5 _ _ _)
      | (with_reducible exact graftbedref01_Elems.mono _ _)
      | (with_reducible exact LeO.refl _)
      | (with_reducible exact LeO.none _)
      | (with_reducible refine LeO.ite ?_ ?_)
      | (with_reducible refine LeO.bind ?_ (fun _ => ?_))
      | exact ih0 _ _
      | exact ih1 _ _ _ _
      | exact ih2 _ _ _ _ _
      | exact ih3 _ _ _ _ _
      | exact ih4 _ _
      | exact ih5 _ _ _
      | exact graftbedref01_Elems.mono _ _
      | exact LeO.none _
      | refine LeO.ite ?_ ?_
      | refine LeO.bind ?_ (fun _ => ?_)
    · intro y0 y1 y2 y3
      unfold graftbedref01_Clean.l0
      repeat' first
      | (with_reducible exact ih0 _ _)
      | (with_reducible exact ih1 _ _ _ _)
      | (with_reducible exact ih2 _ _ _ _ _)
      | (with_reducible exact ih3 _ _ _ _ _)
      | (with_reducible exact ih4 _ _)
      | (with_reducible exact ih5 _ _ _)
      | (with_reducible exact graftbedref01_Elems.mono _ _)
      | (with_reducible exact LeO.refl _)
      | (with_reducible exact LeO.none _)
      | (with_reducible refine LeO.ite ?_ ?_)
      | (with_reducible refine LeO.bind ?_ (fun _ => ?_))
      | exact ih0 _ _
      | exact ih1 _ _ _ _
      | exact ih2 _ _ _ _ _
      | exact ih3 _ _ _ _ _
      | exact ih4 _ _
      | exact ih5 _ _ _
      | exact graftbedref01_Elems.mono _ _
      | exact LeO.none _
      | refine LeO.ite ?_ ?_
      | refine LeO.bind ?_ (fun _ => ?_)
    · intro y0 y1 y2 y3 y4
      unfold graftbedref01_Clean.j2
      repeat' first
      | (with_reducible exact ih0 _ _)
      | (with_reducible exact ih1 _ _ _ _)
      | (with_reducible exact ih2 _ _ _ _ _)
      | (with_reducible exact ih3 _ _ _ _ _)
      | (with_reducible exact ih4 _ _)
      | (with_reducible exact ih5 _ _ _)
      | (with_reducible exact graftbedref01_Elems.mono _ _)
      | (with_reducible exact LeO.refl _)
      | (with_reducible exact LeO.none _)
      | (with_reducible refine LeO.ite ?_ ?_)
      | (with_reducible refine LeO.bind ?_ (fun _ => ?_))
      | exact ih0 _ _
      | exact ih1 _ _ _ _
      | exact ih2 _ _ _ _ _
      | exact ih3 _ _ _ _ _
      | exact ih4 _ _
      | exact ih5 _ _ _
      | exact graftbedref01_Elems.mono _ _
      | exact LeO.none _
      | refine LeO.ite ?_ ?_
      | refine LeO.bind ?_ (fun _ => ?_)
    · intro y0 y1 y2 y3 y4
      unfold graftbedref01_Clean.j3
      repeat' first
      | (with_reducible exact ih0 _ _)
      | (with_reducible exact ih1 _ _ _ _)
      | (with_reducible exact ih2 _ _ _ _ _)
      | (with_reducible exact ih3 _ _ _ _ _)
      | (with_reducible exact ih4 _ _)
      | (with_reducible exact ih5 _ _ _)
      | (with_reducible exact graftbedref01_Elems.mono _ _)
      | (with_reducible exact LeO.refl _)
      | (with_reducible exact LeO.none _)
      | (with_reducible refine LeO.ite ?_ ?_)
      | (with_reducible refine LeO.bind ?_ (fun _ => ?_))
      | exact ih0 _ _
      | exact ih1 _ _ _ _
      | exact ih2 _ _ _ _ _
      | exact ih3 _ _ _ _ _
      | exact ih4 _ _
      | exact ih5 _ _ _
      | exact graftbedref01_Elems.mono _ _
      | exact LeO.none _
      | refine LeO.ite ?_ ?_
      | refine LeO.bind ?_ (fun _ => ?_)
    · intro y0 y1
      unfold graftbedref01_Clean.j4
      repeat' first
      | (with_reducible exact ih0 _ _)
      | (with_reducible exact ih1 _ _ _ _)
      | (with_reducible exact ih2 _ _ _ _ _)
      | (with_reducible exact ih3 _ _ _ _ _)
      | (with_reducible exact ih4 _ _)
      | (with_reducible exact ih5 _ _ _)
      | (with_reducible exact graftbedref01_Elems.mono _ _)
      | (with_reducible exact LeO.refl _)
      | (with_reducible exact LeO.none _)
      | (with_reducible refine LeO.ite ?_ ?_)
      | (with_reducible refine LeO.bind ?_ (fun _ => ?_))
      | exact ih0 _ _
      | exact ih1 _ _ _ _
      | exact ih2 _ _ _ _ _
      | exact ih3 _ _ _ _ _
      | exact ih4 _ _
      | exact ih5 _ _ _
      | exact graftbedref01_Elems.mono _ _
      | exact LeO.none _
      | refine LeO.ite ?_ ?_
      | refine LeO.bind ?_ (fun _ => ?_)
    · intro y0 y1 y2
      unfold graftbedref01_Clean.l1
      repeat' first
      | (with_reducible exact ih0 _ _)
      | (with_reducible exact ih1 _ _ _ _)
      | (with_reducible exact ih2 _ _ _ _ _)
      | (with_reducible exact ih3 _ _ _ _ _)
      | (with_reducible exact ih4 _ _)
      | (with_reducible exact ih5 _ _ _)
      | (with_reducible exact graftbedref01_Elems.mono _ _)
      | (with_reducible exact LeO.refl _)
      | (with_reducible exact LeO.none _)
      | (with_reducible refine LeO.ite ?_ ?_)
      | (with_reducible refine LeO.bind ?_ (fun _ => ?_))
      | exact ih0 _ _
      | exact ih1 _ _ _ _
      | exact ih2 _ _ _ _ _
      | exact ih3 _ _ _ _ _
      | exact ih4 _ _
      | exact ih5 _ _ _
      | exact graftbedref01_Elems.mono _ _
      | exact LeO.none _
      | refine LeO.ite ?_ ?_
      | refine LeO.bind ?_ (fun _ => ?_)
theorem graftbedref01_Clean.mono : ∀ a0 k, LeO (graftbedref01_Clean.f k a0) (graftbedref01_Clean.f (k + 1) a0) := by
  intro a0 k
  obtain ⟨ih0, ih1, ih2, ih3, ih4, ih5⟩ := graftbedref01_Clean.mono_l k
  unfold graftbedref01_Clean.f
  repeat' first
      | (with_reducible exact ih0 _ _)
      | (with_reducible exact ih1 _ _ _ _)
      | (with_reducible exact ih2 _ _ _ _ _)
      | (with_reducible exact ih3 _ _ _ _ _)
      | (with_reducible exact ih4 _ _)
      | (with_reducible exact ih5 _ _ _)
      | (with_reducible exact graftbedref01_Elems.mono _ _)
      | (with_reducible exact LeO.refl _)
      | (with_reducible exact LeO.none _)
      | (with_reducible refine LeO.ite ?_ ?_)
      | (with_reducible refine LeO.bind ?_ (fun _ => ?_))
      | exact ih0 _ _
      | exact ih1 _ _ _ _
      | exact ih2 _ _ _ _ _
      | exact ih3 _ _ _ _ _
      | exact ih4 _ _
      | exact ih5 _ _ _
      | exact graftbedref01_Elems.mono _ _
      | exact LeO.none _
      | refine LeO.ite ?_ ?_
      | refine LeO.bind ?_ (fun _ => ?_)
set_option maxHeartbeats 8000000 in
set_option maxRecDepth 100000 in
theorem graftbedref01_Clean.calls (k : Nat) (a0 : ByteArray) (r : ByteArray) (w : World) (h : graftbedref01_Clean.f k a0 = some r) :
    Calls Try.prog 23 #[.string a0] w fun e w' => e = .returned (.string r) ∧ Below w.heap.size w w' := by
  have HB := Aside0.mk (Below.refl w.heap.size w)
  have H : (if (a0.size : Int) > 0 then (if 0 < (a0.size : Int) then (graftbedref01_Clean.j0 k a0 ((bt a0 0) == 47)) else (none)) else (graftbedref01_Clean.j0 k a0 false)) = some r := h
  clear h
  have HC2 := Aside0.mk H
  clear H
  go_enter Try.func23, Try.ntmps23
  go_upto_region 1 with (fail)
  go_cut [3] (fun v3 wc => ∃ (kq : Nat) (x3_1 : Bool), v3 = .bool x3_1 ∧ Aside0 (graftbedref01_Clean.j0 kq a0 x3_1 = some r) ∧ Aside0 (kq ≤ k) ∧ Aside0 (Below w.heap.size w wc))
  case first =>
    have H := HC2.out
    clear HC2
    by_cases c3 : (a0.size : Int) > 0
    · rw [if_pos c3] at H
      have c3b0 : decide (0 < (a0.size : Int)) = true := decide_eq_true c3
      have c3b1 : decide (0 < a0.size) = true := decide_eq_true (by omega)
      clear c3
      (first | rw [c3b0] | (simp only [i64_w, i32_w]; rw [c3b0]) | skip)
      by_cases c4 : 0 < (a0.size : Int)
      · rw [if_pos c4] at H
        have c4b0 : decide (0 < (a0.size : Int)) = true := decide_eq_true c4
        have c4b1 : decide (0 < a0.size) = true := decide_eq_true (by omega)
        clear c4
        have H' := Aside0.mk H
        clear H
        have p5 : 0 ≤ (0 : Int) := (by omega)
        have q5 : 0 < a0.size := (by have : (0 : Int) < (a0.size : Int) := of_decide_eq_true (by first | (with_reducible assumption) | assumption); omega)
        have hx5 : ∀ h : 0 < a0.size, ((a0[0]'h).toNat : Int) = bt a0 0 := bt_at a0 0
        clear p5
        have qi5 : (0 < (a0.size : Int)) = True := eq_true (of_decide_eq_true (by first | (with_reducible assumption) | assumption))
        replace q5 := eq_true q5
        go_wp2
        go_meet
        case rel => exact ⟨_, (((bt a0 0) == 47)), (by first | rfl | (simp; done) | (simp [*]; done)), H', ⟨by first | omega | exact Nat.le_refl _⟩, ⟨by repeat (first | (with_reducible first | exact HB.out | apply below_alloc | apply pw_below_drewN | apply below_drew1) | exact HB.out)⟩⟩
      · rw [if_neg c4] at H
        exact absurd H (by simp)
    · rw [if_neg c3] at H
      have c3b0 : decide (0 < (a0.size : Int)) = false := decide_eq_false c3
      have c3b1 : decide (0 < a0.size) = false := decide_eq_false (by omega)
      clear c3
      (first | rw [c3b0] | (simp only [i64_w, i32_w]; rw [c3b0]) | skip)
      have H' := Aside0.mk H
      clear H
      go_wp2
      go_meet
      case rel => exact ⟨_, (false), (by first | rfl | (simp; done) | (simp [*]; done)), H', ⟨by first | omega | exact Nat.le_refl _⟩, ⟨by repeat (first | (with_reducible first | exact HB.out | apply below_alloc | apply pw_below_drewN | apply below_drew1) | exact HB.out)⟩⟩
  case rest =>
    clear HC2
    try clear c2
    try clear p2
    try clear c3
    try clear c3b0
    try clear c3b1
    try clear c4
    try clear c4b0
    try clear c4b1
    try clear p5
    try clear q5
    try clear hx5
    try clear qi5
    try clear p5
    try clear q5
    obtain ⟨kq, x3_1, rfl, HA, HJ1, HB⟩ := hcut
    cases kq with
    | zero => exact absurd HA.out (by simp [graftbedref01_Clean.j0])
    | succ kj1 =>
      have H := HA.out
      clear HA
      simp only [graftbedref01_Clean.j0] at H
      replace H := Option.bind_eq_some_iff.mp H
      obtain ⟨t110, A60, H⟩ := H
      replace H : (graftbedref01_Clean.l0 kj1 x3_1 t110 (([] : List ByteArray)) 0) = some r := H
      have A6 := Aside0.mk A60
      clear A60
      obtain ⟨y113, hy113⟩ : ∃ y_ : List ByteArray, y_ = (([] : List ByteArray)) := ⟨_, rfl⟩
      replace H : (graftbedref01_Clean.l0 kj1 x3_1 t110 y113 0) = some r := by first | (rw [hy113]; with_reducible exact H) | (have H2_ := (Option.bind_some _ _).symm.trans H; rw [hy113]; with_reducible exact H2_) | (have H2_ := (Option.bind_some _ _).symm.trans H; with_reducible exact H2_) | with_reducible exact H | (rw [hy113]; exact H) | exact H
      have Ny113 := Aside0.mk hy113
      clear hy113
      have H' := Aside0.mk H
      clear H
      go_wp2_with (first | ((with_reducible refine gate_callee (f := 17) rfl ?_); refine goesL_ (some 18) rfl rfl Try.func17 (by kernel_rfl) rfl #[.string a0] rfl (by (try simp only [List.map_toArray, List.map_cons, List.map_nil]); first | done | rfl | (simp only [List.length_drop, List.length_take]; rfl)) ?_; (with_reducible refine (graftbedref01_Elems.calls kj1 a0 t110 _ A6.out).mono ?_); rintro e w7 ⟨v111, rfl, ho0, hb⟩; refine ⟨_, rfl, ?_⟩; have n0_ := Aside0.mk (Kd.R_lower ho0 (below_size (by repeat (first | (with_reducible first | exact HB.out | apply below_alloc | apply pw_below_drewN | apply below_drew1) | exact HB.out)))); have n1_ := Aside0.mk (below_step (by repeat (first | (with_reducible first | exact HB.out | apply below_alloc | apply pw_below_drewN | apply below_drew1) | exact HB.out)) hb); clear HB; have HO112 := n0_; have HB := n1_; clear n0_ n1_; (try clear hb); (try clear hb2); (try clear hk); (try clear hi); (try clear ho0)) | ((with_reducible refine gate_dst (N := 19) rfl ?_); (try (refine gate_guard (by rfl) ?_; dsimp only)); refine Kd.R_lit Kd.string _ 9 ?hg (N := 19) ?hd (xs := ([] : List ByteArray)) (inner := []) (ok := fun _ => True) (okp := fun _ => True) ?hr ?hp (fun _ hk => hk) trivial (Below.refl _ _) (Nat.le_refl _) (by simp) ?_; (case hd => rfl); (case hg => rfl); (case hr => first | (go_simp; done) | (go_simp; rfl)); (case hp => exact (Reps.none _ _)); intro v114 w8 ho9 hb hg_ hnew_; clear hg_ hnew_; (first | rw [← Ny113.out] at ho9 | (simp only [Int.reduceToNat] at ho9; rw [← Ny113.out] at ho9)); have n0_ := Aside0.mk (Kd.R_elder' (by (with_reducible repeat (first | apply Kd.R_alloc | apply Kd.R_drewN | apply Kd.R_drew)); exact HO112.out) (Kd.R_base ho9) hb); have n1_ := Aside0.mk (Kd.R_lower (Kd.R_new' ho9 (Kd.R_lt (by (with_reducible repeat (first | apply Kd.R_alloc | apply Kd.R_drewN | apply Kd.R_drew)); exact HO112.out))) (below_size (by repeat (first | (with_reducible first | exact HB.out | apply below_alloc | apply pw_below_drewN | apply below_drew1) | exact HB.out)))); have n2_ := Aside0.mk (below_step (by repeat (first | (with_reducible first | exact HB.out | apply below_alloc | apply pw_below_drewN | apply below_drew1) | exact HB.out)) hb); clear HO112; clear HB; have HO112 := n0_; have HO115 := n1_; have HB := n2_; clear n0_ n1_ n2_; clear hb ho9))
      go_loopg [5, 6] kj1 (fun kq v5 v6 w' => ∃ (x5_2 : List ByteArray) (x6_2 : Int), v6 = .int .i64 x6_2 ∧ Aside0 (graftbedref01_Clean.l0 kq x3_1 t110 x5_2 x6_2 = some r) ∧ Aside0 (kq ≤ kj1) ∧ Aside0 (Kd.R Kd.string 9 w' w.heap.size (fun k_ => some k_ ≠ (v5 : Value).ownBlock) v111 t110) ∧ Aside0 (Kd.R Kd.string 9 w' w.heap.size (fun k_ => some k_ ≠ (v111 : Value).ownBlock) v5 x5_2) ∧ Aside0 (Below w.heap.size w w'))
      case atStart => exact ⟨(y113), (0), (by first | rfl | (simp; done) | (simp [*]; done)), H', ⟨Nat.le_refl _⟩, ⟨by (with_reducible repeat (first | apply Kd.R_alloc | apply Kd.R_drewN | apply Kd.R_drew)); exact Kd.R_mono HO112.out (fun _ hk => hk.2)⟩, ⟨by (with_reducible repeat (first | apply Kd.R_alloc | apply Kd.R_drewN | apply Kd.R_drew)); exact Kd.R_mono HO115.out (fun _ hk => hk.2)⟩, ⟨by repeat (first | (with_reducible first | exact HB.out | apply below_alloc | apply pw_below_drewN | apply below_drew1) | exact HB.out)⟩⟩
      case round =>
        clear H'
        try clear c1
        try clear c2
        try clear p2
        try clear c3
        try clear c3b0
        try clear c3b1
        try clear c4
        try clear c4b0
        try clear c4b1
        try clear p5
        try clear q5
        try clear hx5
        try clear qi5
        try clear p2
        try clear p5
        try clear q5
        obtain ⟨x5_2, x6_2, rfl, HA, HK2, HO_4, HO_5, HB⟩ := hrel
        cases gk with
        | zero => exact absurd HA.out (by simp [graftbedref01_Clean.l0])
        | succ k2 =>
          have H := HA.out
          clear HA
          simp only [graftbedref01_Clean.l0] at H
          by_cases c10 : x6_2 < (t110.length : Int)
          · rw [if_pos c10] at H
            have c10b0 : decide (x6_2 < (t110.length : Int)) = true := decide_eq_true c10
            clear c10
            have HC11 := Aside0.mk H
            clear H
            obtain ⟨Ao12, co12, eo12⟩ := Kd.R_slice HO_4.out
            subst eo12
            go_upto_region 8 with (fail)
            go_cut [33] (fun v33 wc => ∃ (kq : Nat) (x33_10 : Bool), v33 = .bool x33_10 ∧ Aside0 (graftbedref01_Clean.j2 kq x3_1 t110 x5_2 x6_2 x33_10 = some r) ∧ Aside0 (kq ≤ k2) ∧ Aside0 (Kd.R Kd.string 9 wc w.heap.size (fun k_ => some k_ ≠ (u5 : Value).ownBlock) (.slice Ao12 t110.length co12) t110) ∧ Aside0 (Kd.R Kd.string 9 wc w.heap.size (fun k_ => some k_ ≠ ((.slice Ao12 t110.length co12) : Value).ownBlock) u5 x5_2) ∧ Aside0 (Below w.heap.size w wc))
            case first =>
              have H := HC11.out
              clear HC11
              by_cases c13 : 0 ≤ x6_2
              · rw [if_pos c13] at H
                have c13b0 : decide (0 ≤ x6_2) = true := decide_eq_true c13
                clear c13
                (first | rw [c13b0] | (simp only [i64_w, i32_w]; rw [c13b0]) | skip)
                by_cases c14 : (rdOf ByteArray.empty t110 x6_2).toList = ([] : List UInt8)
                · rw [if_pos c14] at H
                  have c14b0 : ((rdOf ByteArray.empty t110 x6_2).toList == ([] : List UInt8)) = true := beq_iff_eq.mpr c14
                  have c14b1 : ((rdOf ByteArray.empty t110 x6_2).toList != ([] : List UInt8)) = false := bne_eq_false_iff_eq.mpr c14
                  clear c14
                  have H' := Aside0.mk H
                  clear H
                  have p116 : 0 ≤ (x6_2 : Int) := of_decide_eq_true (by first | (with_reducible assumption) | assumption)
                  have q116 : x6_2 < (t110.length : Int) := of_decide_eq_true (by first | (with_reducible assumption) | assumption)
                  obtain ⟨ad116, e116, hx116_0⟩ := Kd.at_string (Kd.R_reads' HO_4.out).2.2 x6_2 p116 q116
                  cases e116
                  replace p116 := eq_true p116
                  replace q116 := eq_true q116
                  go_wp2
                  go_meet
                  case rel => exact ⟨_, (true), (by first | rfl | (simp; done) | (simp [*]; done)), H', ⟨by have := HJ1.out; have := HK2.out; first | omega | exact Nat.le_refl _⟩, ⟨by (with_reducible repeat (first | apply Kd.R_alloc | apply Kd.R_drewN | apply Kd.R_drew)); first | exact HO_4.out | (have e_ := HO_4.out; simp only [own_any] at e_ ⊢; exact e_)⟩, ⟨by (with_reducible repeat (first | apply Kd.R_alloc | apply Kd.R_drewN | apply Kd.R_drew)); first | exact HO_5.out | (have e_ := HO_5.out; simp only [own_any] at e_ ⊢; exact e_)⟩, ⟨by repeat (first | (with_reducible first | exact HB.out | apply below_alloc | apply pw_below_drewN | apply below_drew1) | exact HB.out)⟩⟩
                · rw [if_neg c14] at H
                  have c14b0 : ((rdOf ByteArray.empty t110 x6_2).toList == ([] : List UInt8)) = false := beq_eq_false_iff_ne.mpr c14
                  have c14b1 : ((rdOf ByteArray.empty t110 x6_2).toList != ([] : List UInt8)) = true := bne_iff_ne.mpr c14
                  have H' := Aside0.mk H
                  clear H
                  have p116 : 0 ≤ (x6_2 : Int) := of_decide_eq_true (by first | (with_reducible assumption) | assumption)
                  have q116 : x6_2 < (t110.length : Int) := of_decide_eq_true (by first | (with_reducible assumption) | assumption)
                  obtain ⟨ad116, e116, hx116_0⟩ := Kd.at_string (Kd.R_reads' HO_4.out).2.2 x6_2 p116 q116
                  cases e116
                  replace p116 := eq_true p116
                  replace q116 := eq_true q116
                  have p117 : 0 ≤ (x6_2 : Int) := of_decide_eq_true (by first | (with_reducible assumption) | assumption)
                  have q117 : x6_2 < (t110.length : Int) := of_decide_eq_true (by first | (with_reducible assumption) | assumption)
                  obtain ⟨ad117, e117, hx117_0⟩ := Kd.at_string (Kd.R_reads' HO_4.out).2.2 x6_2 p117 q117
                  obtain rfl : ad116 = ad117 := (by injection e117)
                  replace p117 := eq_true p117
                  replace q117 := eq_true q117
                  go_wp2
                  go_meet
                  case rel => exact ⟨_, (((rdOf ByteArray.empty t110 x6_2).toList == ([46] : List UInt8))), (by first | rfl | (simp; done) | (simp [*]; done)), H', ⟨by have := HJ1.out; have := HK2.out; first | omega | exact Nat.le_refl _⟩, ⟨by (with_reducible repeat (first | apply Kd.R_alloc | apply Kd.R_drewN | apply Kd.R_drew)); first | exact HO_4.out | (have e_ := HO_4.out; simp only [own_any] at e_ ⊢; exact e_)⟩, ⟨by (with_reducible repeat (first | apply Kd.R_alloc | apply Kd.R_drewN | apply Kd.R_drew)); first | exact HO_5.out | (have e_ := HO_5.out; simp only [own_any] at e_ ⊢; exact e_)⟩, ⟨by repeat (first | (with_reducible first | exact HB.out | apply below_alloc | apply pw_below_drewN | apply below_drew1) | exact HB.out)⟩⟩
              · rw [if_neg c13] at H
                exact absurd H (by simp)
            case rest =>
              clear HC11
              try clear c1
              try clear p1
              try clear q1
              try clear hx1
              try clear c2
              try clear p2
              try clear c3
              try clear c3b0
              try clear c3b1
              try clear c4
              try clear c4b0
              try clear c4b1
              try clear p5
              try clear q5
              try clear hx5
              try clear qi5
              try clear c10
              try clear c10b0
              try clear p11
              try clear q11
              try clear hx11
              try clear c13
              try clear c13b0
              try clear c14
              try clear c14b0
              try clear c14b1
              try clear hx116_0
              try clear hx117_0
              try clear p116
              try clear p117
              try clear p2
              try clear p5
              try clear q116
              try clear q117
              try clear q5
              obtain ⟨kq, x33_10, rfl, HA, HJ10, HO_4, HO_5, HB⟩ := hcut
              cases kq with
              | zero => exact absurd HA.out (by simp [graftbedref01_Clean.j2])
              | succ kj10 =>
                have H := HA.out
                clear HA
                simp only [graftbedref01_Clean.j2] at H
                by_cases c15 : x33_10 = true
                · subst c15
                  have H1 : (graftbedref01_Clean.l0 kj10 x3_1 t110 x5_2 (wrap64 (x6_2 + 1))) = some r := by rw [if_pos rfl] at H; exact H
                  clear H
                  have H := H1
                  clear H1
                  have H' := Aside0.mk H
                  clear H
                  go_wp2
                  go_roundg kj10
                  case measure => have := HJ1.out; have := HK2.out; have := HJ10.out; omega
                  case rel => exact ⟨(x5_2), (wrap64 (x6_2 + 1)), (by first | rfl | (simp; done) | (simp [*]; done)), H', ⟨by have := HJ1.out; have := HK2.out; have := HJ10.out; omega⟩, ⟨by (with_reducible repeat (first | apply Kd.R_alloc | apply Kd.R_drewN | apply Kd.R_drew)); first | exact HO_4.out | (have e_ := HO_4.out; simp only [own_any] at e_ ⊢; exact e_)⟩, ⟨by (with_reducible repeat (first | apply Kd.R_alloc | apply Kd.R_drewN | apply Kd.R_drew)); first | exact HO_5.out | (have e_ := HO_5.out; simp only [own_any] at e_ ⊢; exact e_)⟩, ⟨by repeat (first | (with_reducible first | exact HB.out | apply below_alloc | apply pw_below_drewN | apply below_drew1) | exact HB.out)⟩⟩
                · replace c15 := Bool.eq_false_iff.mpr c15
                  subst c15
                  have H1 : (if 0 ≤ x6_2 then (if x6_2 < (t110.length : Int) then (if (rdOf ByteArray.empty t110 x6_2).toList = ([46, 46] : List UInt8) then (if (x5_2.length : Int) > 0 then (if 0 ≤ (wrap64 ((x5_2.length : Int) - 1)) then (if (wrap64 ((x5_2.length : Int) - 1)) < (x5_2.length : Int) then (graftbedref01_Clean.j3 kj10 x3_1 t110 x5_2 x6_2 ((rdOf ByteArray.empty x5_2 (wrap64 ((x5_2.length : Int) - 1))).toList != ([46, 46] : List UInt8))) else (none)) else (none)) else (graftbedref01_Clean.j3 kj10 x3_1 t110 x5_2 x6_2 false)) else (graftbedref01_Clean.j3 kj10 x3_1 t110 x5_2 x6_2 false)) else (none)) else (none)) = some r := by rw [if_neg (show ¬ (false = true) by decide)] at H; exact H
                  clear H
                  have H := H1
                  clear H1
                  have HC16 := Aside0.mk H
                  clear H
                  go_upto_region 9 with (fail)
                  go_cut [46] (fun v46 wc => ∃ (kq : Nat) (x46_15 : Bool), v46 = .bool x46_15 ∧ Aside0 (graftbedref01_Clean.j3 kq x3_1 t110 x5_2 x6_2 x46_15 = some r) ∧ Aside0 (kq ≤ kj10) ∧ Aside0 (Kd.R Kd.string 9 wc w.heap.size (fun k_ => some k_ ≠ (u5 : Value).ownBlock) (.slice Ao12 t110.length co12) t110) ∧ Aside0 (Kd.R Kd.string 9 wc w.heap.size (fun k_ => some k_ ≠ ((.slice Ao12 t110.length co12) : Value).ownBlock) u5 x5_2) ∧ Aside0 (Below w.heap.size w wc))
                  case first =>
                    have H := HC16.out
                    clear HC16
                    by_cases c17 : 0 ≤ x6_2
                    · rw [if_pos c17] at H
                      have c17b0 : decide (0 ≤ x6_2) = true := decide_eq_true c17
                      clear c17
                      (first | rw [c17b0] | (simp only [i64_w, i32_w]; rw [c17b0]) | skip)
                      by_cases c18 : x6_2 < (t110.length : Int)
                      · rw [if_pos c18] at H
                        have c18b0 : decide (x6_2 < (t110.length : Int)) = true := decide_eq_true c18
                        clear c18
                        by_cases c19 : (rdOf ByteArray.empty t110 x6_2).toList = ([46, 46] : List UInt8)
                        · rw [if_pos c19] at H
                          have c19b0 : ((rdOf ByteArray.empty t110 x6_2).toList == ([46, 46] : List UInt8)) = true := beq_iff_eq.mpr c19
                          have c19b1 : ((rdOf ByteArray.empty t110 x6_2).toList != ([46, 46] : List UInt8)) = false := bne_eq_false_iff_eq.mpr c19
                          clear c19
                          by_cases c20 : (x5_2.length : Int) > 0
                          · rw [if_pos c20] at H
                            have c20b0 : decide (0 < (x5_2.length : Int)) = true := decide_eq_true c20
                            have c20b1 : decide (0 < x5_2.length) = true := decide_eq_true (by omega)
                            clear c20
                            obtain ⟨ji21, hji21⟩ : ∃ j_ : Int, (wrap64 ((x5_2.length : Int) - 1)) = j_ := ⟨_, rfl⟩
                            replace H : (if 0 ≤ (ji21) then (if (ji21) < (x5_2.length : Int) then (graftbedref01_Clean.j3 kj10 x3_1 t110 x5_2 x6_2 ((rdOf ByteArray.empty x5_2 (ji21)).toList != ([46, 46] : List UInt8))) else (none)) else (none)) = some r := by first | (rw [hji21] at H; exact H) | (simp only [hji21] at H ⊢; exact H)
                            have hji21w : (IntKind.i64.wrap ((x5_2.length : Int) - 1)) = ji21 := (i64_w _).trans hji21
                            by_cases c22 : 0 ≤ (ji21)
                            · rw [if_pos c22] at H
                              have c22b0 : decide (0 ≤ (ji21)) = true := decide_eq_true c22
                              clear c22
                              by_cases c23 : (ji21) < (x5_2.length : Int)
                              · rw [if_pos c23] at H
                                have c23b0 : decide ((ji21) < (x5_2.length : Int)) = true := decide_eq_true c23
                                clear c23
                                have H' := Aside0.mk H
                                clear H
                                have p118 : 0 ≤ (x6_2 : Int) := of_decide_eq_true (by first | (with_reducible assumption) | assumption)
                                have q118 : x6_2 < (t110.length : Int) := of_decide_eq_true (by first | (with_reducible assumption) | assumption)
                                obtain ⟨ad118, e118, hx118_0⟩ := Kd.at_string (Kd.R_reads' HO_4.out).2.2 x6_2 p118 q118
                                cases e118
                                replace p118 := eq_true p118
                                replace q118 := eq_true q118
                                obtain ⟨Ao24, co24, eo24⟩ := Kd.R_slice HO_5.out
                                subst eo24
                                have p119 : 0 ≤ ((ji21) : Int) := of_decide_eq_true (by first | (with_reducible assumption) | assumption)
                                have q119 : (ji21) < (x5_2.length : Int) := of_decide_eq_true (by first | (with_reducible assumption) | assumption)
                                obtain ⟨ad119, e119, hx119_0⟩ := Kd.at_string (Kd.R_reads' HO_5.out).2.2 (ji21) p119 q119
                                cases e119
                                replace p119 := eq_true p119
                                replace q119 := eq_true q119
                                go_wp2
                                go_meet
                                case rel => exact ⟨_, (((rdOf ByteArray.empty x5_2 (ji21)).toList != ([46, 46] : List UInt8))), (by first | rfl | (simp; done) | (simp only [← hji21] <;> (first | rfl | simp)) | (simp [*]; done)), H', ⟨by have := HJ1.out; have := HK2.out; have := HJ10.out; first | omega | exact Nat.le_refl _⟩, ⟨by (with_reducible repeat (first | apply Kd.R_alloc | apply Kd.R_drewN | apply Kd.R_drew)); first | exact HO_4.out | (have e_ := HO_4.out; simp only [own_any] at e_ ⊢; exact e_)⟩, ⟨by (with_reducible repeat (first | apply Kd.R_alloc | apply Kd.R_drewN | apply Kd.R_drew)); first | exact HO_5.out | (have e_ := HO_5.out; simp only [own_any] at e_ ⊢; exact e_)⟩, ⟨by repeat (first | (with_reducible first | exact HB.out | apply below_alloc | apply pw_below_drewN | apply below_drew1) | exact HB.out)⟩⟩
                              · rw [if_neg c23] at H
                                exact absurd H (by simp)
                            · rw [if_neg c22] at H
                              exact absurd H (by simp)
                          · rw [if_neg c20] at H
                            have c20b0 : decide (0 < (x5_2.length : Int)) = false := decide_eq_false c20
                            have c20b1 : decide (0 < x5_2.length) = false := decide_eq_false (by omega)
                            clear c20
                            have H' := Aside0.mk H
                            clear H
                            have p118 : 0 ≤ (x6_2 : Int) := of_decide_eq_true (by first | (with_reducible assumption) | assumption)
                            have q118 : x6_2 < (t110.length : Int) := of_decide_eq_true (by first | (with_reducible assumption) | assumption)
                            obtain ⟨ad118, e118, hx118_0⟩ := Kd.at_string (Kd.R_reads' HO_4.out).2.2 x6_2 p118 q118
                            cases e118
                            replace p118 := eq_true p118
                            replace q118 := eq_true q118
                            obtain ⟨Ao25, co25, eo25⟩ := Kd.R_slice HO_5.out
                            subst eo25
                            go_wp2
                            go_meet
                            case rel => exact ⟨_, (false), (by first | rfl | (simp; done) | (simp [*]; done)), H', ⟨by have := HJ1.out; have := HK2.out; have := HJ10.out; first | omega | exact Nat.le_refl _⟩, ⟨by (with_reducible repeat (first | apply Kd.R_alloc | apply Kd.R_drewN | apply Kd.R_drew)); first | exact HO_4.out | (have e_ := HO_4.out; simp only [own_any] at e_ ⊢; exact e_)⟩, ⟨by (with_reducible repeat (first | apply Kd.R_alloc | apply Kd.R_drewN | apply Kd.R_drew)); first | exact HO_5.out | (have e_ := HO_5.out; simp only [own_any] at e_ ⊢; exact e_)⟩, ⟨by repeat (first | (with_reducible first | exact HB.out | apply below_alloc | apply pw_below_drewN | apply below_drew1) | exact HB.out)⟩⟩
                        · rw [if_neg c19] at H
                          have c19b0 : ((rdOf ByteArray.empty t110 x6_2).toList == ([46, 46] : List UInt8)) = false := beq_eq_false_iff_ne.mpr c19
                          have c19b1 : ((rdOf ByteArray.empty t110 x6_2).toList != ([46, 46] : List UInt8)) = true := bne_iff_ne.mpr c19
                          have H' := Aside0.mk H
                          clear H
                          have p118 : 0 ≤ (x6_2 : Int) := of_decide_eq_true (by first | (with_reducible assumption) | assumption)
                          have q118 : x6_2 < (t110.length : Int) := of_decide_eq_true (by first | (with_reducible assumption) | assumption)
                          obtain ⟨ad118, e118, hx118_0⟩ := Kd.at_string (Kd.R_reads' HO_4.out).2.2 x6_2 p118 q118
                          cases e118
                          replace p118 := eq_true p118
                          replace q118 := eq_true q118
                          go_wp2
                          go_meet
                          case rel => exact ⟨_, (false), (by first | rfl | (simp; done) | (simp [*]; done)), H', ⟨by have := HJ1.out; have := HK2.out; have := HJ10.out; first | omega | exact Nat.le_refl _⟩, ⟨by (with_reducible repeat (first | apply Kd.R_alloc | apply Kd.R_drewN | apply Kd.R_drew)); first | exact HO_4.out | (have e_ := HO_4.out; simp only [own_any] at e_ ⊢; exact e_)⟩, ⟨by (with_reducible repeat (first | apply Kd.R_alloc | apply Kd.R_drewN | apply Kd.R_drew)); first | exact HO_5.out | (have e_ := HO_5.out; simp only [own_any] at e_ ⊢; exact e_)⟩, ⟨by repeat (first | (with_reducible first | exact HB.out | apply below_alloc | apply pw_below_drewN | apply below_drew1) | exact HB.out)⟩⟩
                      · rw [if_neg c18] at H
                        exact absurd H (by simp)
                    · rw [if_neg c17] at H
                      exact absurd H (by simp)
                  case rest =>
                    clear HC16
                    try clear c1
                    try clear p1
                    try clear q1
                    try clear hx1
                    try clear c2
                    try clear p2
                    try clear c3
                    try clear c3b0
                    try clear c3b1
                    try clear c4
                    try clear c4b0
                    try clear c4b1
                    try clear p5
                    try clear q5
                    try clear hx5
                    try clear qi5
                    try clear p6
                    try clear c10
                    try clear c10b0
                    try clear p11
                    try clear q11
                    try clear hx11
                    try clear c13
                    try clear c13b0
                    try clear c14
                    try clear c14b0
                    try clear c14b1
                    try clear c15
                    try clear c17
                    try clear c17b0
                    try clear c18
                    try clear c18b0
                    try clear c19
                    try clear c19b0
                    try clear c19b1
                    try clear c20
                    try clear c20b0
                    try clear c20b1
                    try clear c22
                    try clear c22b0
                    try clear c23
                    try clear c23b0
                    try clear hx116_0
                    try clear hx117_0
                    try clear hx118_0
                    try clear hx119_0
                    try clear p1
                    try clear p11
                    try clear p116
                    try clear p117
                    try clear p118
                    try clear p119
                    try clear p2
                    try clear p5
                    try clear q1
                    try clear q11
                    try clear q116
                    try clear q117
                    try clear q118
                    try clear q119
                    try clear q5
                    obtain ⟨kq, x46_15, rfl, HA, HJ15, HO_4, HO_5, HB⟩ := hcut
                    cases kq with
                    | zero => exact absurd HA.out (by simp [graftbedref01_Clean.j3])
                    | succ kj15 =>
                      have H := HA.out
                      clear HA
                      simp only [graftbedref01_Clean.j3] at H
                      by_cases c26 : x46_15 = true
                      · subst c26
                        have H1 : (if 0 ≤ (wrap64 ((x5_2.length : Int) - 1)) then (if (wrap64 ((x5_2.length : Int) - 1)) ≤ (x5_2.length : Int) then (graftbedref01_Clean.l0 kj15 x3_1 t110 (x5_2.take ((wrap64 ((x5_2.length : Int) - 1)) : Int).toNat) (wrap64 (x6_2 + 1))) else (none)) else (none)) = some r := by rw [if_pos rfl] at H; exact H
                        clear H
                        have H := H1
                        clear H1
                        obtain ⟨ji27, hji27⟩ : ∃ j_ : Int, (wrap64 ((x5_2.length : Int) - 1)) = j_ := ⟨_, rfl⟩
                        replace H : (if 0 ≤ (ji27) then (if (ji27) ≤ (x5_2.length : Int) then (graftbedref01_Clean.l0 kj15 x3_1 t110 (x5_2.take ((ji27) : Int).toNat) (wrap64 (x6_2 + 1))) else (none)) else (none)) = some r := by first | (rw [hji27] at H; exact H) | (simp only [hji27] at H ⊢; exact H)
                        have hji27w : (IntKind.i64.wrap ((x5_2.length : Int) - 1)) = ji27 := (i64_w _).trans hji27
                        by_cases c28 : 0 ≤ (ji27)
                        · rw [if_pos c28] at H
                          have c28b0 := eq_true c28
                          have c28b1 : decide (0 ≤ (ji27)) = true := decide_eq_true c28
                          clear c28
                          by_cases c29 : (ji27) ≤ (x5_2.length : Int)
                          · rw [if_pos c29] at H
                            have c29b0 := eq_true c29
                            have c29b1 : decide ((ji27) ≤ (x5_2.length : Int)) = true := decide_eq_true c29
                            clear c29
                            obtain ⟨y120, hy120⟩ : ∃ y_ : List ByteArray, y_ = (x5_2.take ((ji27) : Int).toNat) := ⟨_, rfl⟩
                            replace H : (graftbedref01_Clean.l0 kj15 x3_1 t110 y120 (wrap64 (x6_2 + 1))) = some r := by first | (rw [hy120]; with_reducible exact H) | (have H2_ := (Option.bind_some _ _).symm.trans H; rw [hy120]; with_reducible exact H2_) | (have H2_ := (Option.bind_some _ _).symm.trans H; with_reducible exact H2_) | with_reducible exact H | (rw [hy120]; exact H) | exact H
                            have Ny120 := Aside0.mk hy120
                            clear hy120
                            have H' := Aside0.mk H
                            clear H
                            obtain ⟨Ao30, co30, eo30⟩ := Kd.R_slice HO_5.out
                            subst eo30
                            have q31 : ((ji27) : Int) ≤ ((x5_2.length : Int) : Int) := of_decide_eq_true (by first | (with_reducible assumption) | assumption)
                            obtain ⟨i031, hi031, _, hsz31, _⟩ := info_parts info9
                            have hcut31 := cut_to (P := Try.prog) 28 9 .i64 Try.underlying28 hi031 Ao30 x5_2.length co30 (ji27) (of_decide_eq_true (by first | (with_reducible assumption) | assumption)) q31 (Kd.R_reads' HO_5.out).2.1
                            have hr31 := Kd.R_take (m := ((ji27) : Int).toNat) HO_5.out (by omega)
                            have hy31 : y120.length = ((ji27) : Int).toNat := (by rw [Ny120.out, List.length_take]; omega)
                            rw [← Ny120.out] at hr31
                            rw [← hy31] at hr31 hcut31
                            clear hy31 hi031 hsz31 HO_5
                            have HO122 := Aside0.mk hr31
                            clear hr31
                            replace q31 := eq_true q31
                            go_wp2
                            go_roundg kj15
                            case measure => have := HJ1.out; have := HK2.out; have := HJ10.out; have := HJ15.out; omega
                            case rel => exact ⟨(y120), (wrap64 (x6_2 + 1)), (by first | rfl | (simp; done) | (simp [*]; done)), H', ⟨by have := HJ1.out; have := HK2.out; have := HJ10.out; have := HJ15.out; omega⟩, ⟨by (with_reducible repeat (first | apply Kd.R_alloc | apply Kd.R_drewN | apply Kd.R_drew)); first | exact HO_4.out | (have e_ := HO_4.out; simp only [own_any] at e_ ⊢; exact e_)⟩, ⟨by (with_reducible repeat (first | apply Kd.R_alloc | apply Kd.R_drewN | apply Kd.R_drew)); first | exact HO122.out | (have e_ := HO122.out; simp only [own_any] at e_ ⊢; exact e_)⟩, ⟨by repeat (first | (with_reducible first | exact HB.out | apply below_alloc | apply pw_below_drewN | apply below_drew1) | exact HB.out)⟩⟩
                          · rw [if_neg c29] at H
                            exact absurd H (by simp)
                        · rw [if_neg c28] at H
                          exact absurd H (by simp)
                      · replace c26 := Bool.eq_false_iff.mpr c26
                        subst c26
                        have H1 : (if 0 ≤ x6_2 then (if x6_2 < (t110.length : Int) then (if (rdOf ByteArray.empty t110 x6_2).toList = ([46, 46] : List UInt8) then (if x3_1 = true then (graftbedref01_Clean.l0 kj15 x3_1 t110 x5_2 (wrap64 (x6_2 + 1))) else (if x5_2.length < 8796093022208 then (graftbedref01_Clean.l0 kj15 x3_1 t110 (x5_2 ++ [rdOf ByteArray.empty t110 x6_2]) (wrap64 (x6_2 + 1))) else (none))) else (if x5_2.length < 8796093022208 then (graftbedref01_Clean.l0 kj15 x3_1 t110 (x5_2 ++ [rdOf ByteArray.empty t110 x6_2]) (wrap64 (x6_2 + 1))) else (none))) else (none)) else (none)) = some r := by rw [if_neg (show ¬ (false = true) by decide)] at H; exact H
                        clear H
                        have H := H1
                        clear H1
                        by_cases c32 : 0 ≤ x6_2
                        · rw [if_pos c32] at H
                          have c32b0 : decide (0 ≤ x6_2) = true := decide_eq_true c32
                          clear c32
                          by_cases c33 : x6_2 < (t110.length : Int)
                          · rw [if_pos c33] at H
                            have c33b0 : decide (x6_2 < (t110.length : Int)) = true := decide_eq_true c33
                            clear c33
                            by_cases c34 : (rdOf ByteArray.empty t110 x6_2).toList = ([46, 46] : List UInt8)
                            · rw [if_pos c34] at H
                              have c34b0 : ((rdOf ByteArray.empty t110 x6_2).toList == ([46, 46] : List UInt8)) = true := beq_iff_eq.mpr c34
                              have c34b1 : ((rdOf ByteArray.empty t110 x6_2).toList != ([46, 46] : List UInt8)) = false := bne_eq_false_iff_eq.mpr c34
                              clear c34
                              by_cases c35 : x3_1 = true
                              · subst c35
                                have H1 : (graftbedref01_Clean.l0 kj15 true t110 x5_2 (wrap64 (x6_2 + 1))) = some r := by rw [if_pos rfl] at H; exact H
                                clear H
                                have H := H1
                                clear H1
                                have H' := Aside0.mk H
                                clear H
                                have p123 : 0 ≤ (x6_2 : Int) := of_decide_eq_true (by first | (with_reducible assumption) | assumption)
                                have q123 : x6_2 < (t110.length : Int) := of_decide_eq_true (by first | (with_reducible assumption) | assumption)
                                obtain ⟨ad123, e123, hx123_0⟩ := Kd.at_string (Kd.R_reads' HO_4.out).2.2 x6_2 p123 q123
                                cases e123
                                replace p123 := eq_true p123
                                replace q123 := eq_true q123
                                go_wp2
                                go_roundg kj15
                                case measure => have := HJ1.out; have := HK2.out; have := HJ10.out; have := HJ15.out; omega
                                case rel => exact ⟨(x5_2), (wrap64 (x6_2 + 1)), (by first | rfl | (simp; done) | (simp [*]; done)), H', ⟨by have := HJ1.out; have := HK2.out; have := HJ10.out; have := HJ15.out; omega⟩, ⟨by (with_reducible repeat (first | apply Kd.R_alloc | apply Kd.R_drewN | apply Kd.R_drew)); first | exact HO_4.out | (have e_ := HO_4.out; simp only [own_any] at e_ ⊢; exact e_)⟩, ⟨by (with_reducible repeat (first | apply Kd.R_alloc | apply Kd.R_drewN | apply Kd.R_drew)); first | exact HO_5.out | (have e_ := HO_5.out; simp only [own_any] at e_ ⊢; exact e_)⟩, ⟨by repeat (first | (with_reducible first | exact HB.out | apply below_alloc | apply pw_below_drewN | apply below_drew1) | exact HB.out)⟩⟩
                              · replace c35 := Bool.eq_false_iff.mpr c35
                                subst c35
                                have H1 : (if x5_2.length < 8796093022208 then (graftbedref01_Clean.l0 kj15 false t110 (x5_2 ++ [rdOf ByteArray.empty t110 x6_2]) (wrap64 (x6_2 + 1))) else (none)) = some r := by rw [if_neg (show ¬ (false = true) by decide)] at H; exact H
                                clear H
                                have H := H1
                                clear H1
                                by_cases c36 : x5_2.length < 8796093022208
                                · rw [if_pos c36] at H
                                  have LMc36 := Aside0.mk c36
                                  clear c36
                                  obtain ⟨y125, hy125⟩ : ∃ y_ : List ByteArray, y_ = (x5_2 ++ [rdOf ByteArray.empty t110 x6_2]) := ⟨_, rfl⟩
                                  replace H : (graftbedref01_Clean.l0 kj15 false t110 y125 (wrap64 (x6_2 + 1))) = some r := by first | (rw [hy125]; with_reducible exact H) | (have H2_ := (Option.bind_some _ _).symm.trans H; rw [hy125]; with_reducible exact H2_) | (have H2_ := (Option.bind_some _ _).symm.trans H; with_reducible exact H2_) | with_reducible exact H | (rw [hy125]; exact H) | exact H
                                  have Ny125 := Aside0.mk hy125
                                  clear hy125
                                  have H' := Aside0.mk H
                                  clear H
                                  have p123 : 0 ≤ (x6_2 : Int) := of_decide_eq_true (by first | (with_reducible assumption) | assumption)
                                  have q123 : x6_2 < (t110.length : Int) := of_decide_eq_true (by first | (with_reducible assumption) | assumption)
                                  obtain ⟨ad123, e123, hx123_0⟩ := Kd.at_string (Kd.R_reads' HO_4.out).2.2 x6_2 p123 q123
                                  cases e123
                                  replace p123 := eq_true p123
                                  replace q123 := eq_true q123
                                  have p124 : 0 ≤ (x6_2 : Int) := of_decide_eq_true (by first | (with_reducible assumption) | assumption)
                                  have q124 : x6_2 < (t110.length : Int) := of_decide_eq_true (by first | (with_reducible assumption) | assumption)
                                  obtain ⟨ad124, e124, hx124_0⟩ := Kd.at_string (Kd.R_reads' HO_4.out).2.2 x6_2 p124 q124
                                  obtain rfl : ad123 = ad124 := (by injection e124)
                                  replace p124 := eq_true p124
                                  replace q124 := eq_true q124
                                  go_wp2_with (first | ((with_reducible refine gate_builtin (b := .append) (xs := #[.tmp 26, .tmp 31]) rfl ?_); (try (refine gate_guard (by rfl) ?_; dsimp only)); at_builtin; refine Kd.R_append Kd.string (w0 := w) w.heap.size rfl (.tmp 26) (.tmp 31) 28 9 (.string ⟨#[]⟩) 16 rfl Try.underlying28 info9 rfl (by decide) (by omega) u5 x5_2 (rdOf ByteArray.empty t110 x6_2) [.string (rdOf ByteArray.empty t110 x6_2)] (fun k_ => some k_ ≠ (.slice (some ad123) t110.length co12 : Value).ownBlock) (fun _ => False) rfl rfl ?aP (fun _ hk => hk.elim) ?aF ?aO ?aB ?aS ?aL ?_; (case aP => exact rfl); (case aB => exact (by repeat (first | (with_reducible first | exact HB.out | apply below_alloc | apply pw_below_drewN | apply below_drew1) | exact HB.out))); (case aF => exact (fun k_ hk => Kd.fresh' (Kd.R_lt (by (with_reducible repeat (first | apply Kd.R_alloc | apply Kd.R_drewN | apply Kd.R_drew)); exact HO_4.out)) k_ hk)); (case aO => exact (by (with_reducible repeat (first | apply Kd.R_alloc | apply Kd.R_drewN | apply Kd.R_drew)); exact HO_5.out)); (case aS => exact (below_size (by repeat (first | (with_reducible first | exact HB.out | apply below_alloc | apply pw_below_drewN | apply below_drew1) | exact HB.out)))); (case aL => have := LMc36.out; omega); intro v126 w37 ho hb hg hat; rw [← Ny125.out] at ho; have n0_ := Aside0.mk (Kd.R_after (ok := (fun _ => True)) (by (with_reducible repeat (first | apply Kd.R_alloc | apply Kd.R_drewN | apply Kd.R_drew)); exact Kd.R_mono HO_4.out (fun _ hk => ⟨trivial, hk⟩)) hg hat); have n1_ := Aside0.mk (hb); have n2_ := Aside0.mk (ho); clear HO_4; clear HB; clear HO_5; have HO_4 := n0_; have HB := n1_; have HO127 := n2_; clear n0_ n1_ n2_; clear ho hb hg hat))
                                  go_roundg kj15
                                  case measure => have := HJ1.out; have := HK2.out; have := HJ10.out; have := HJ15.out; omega
                                  case rel => exact ⟨(y125), (wrap64 (x6_2 + 1)), (by first | rfl | (simp; done) | (simp [*]; done)), H', ⟨by have := HJ1.out; have := HK2.out; have := HJ10.out; have := HJ15.out; omega⟩, ⟨by (with_reducible repeat (first | apply Kd.R_alloc | apply Kd.R_drewN | apply Kd.R_drew)); exact Kd.R_mono HO_4.out (fun _ hk => hk.2)⟩, ⟨by (with_reducible repeat (first | apply Kd.R_alloc | apply Kd.R_drewN | apply Kd.R_drew)); first | exact HO127.out | (have e_ := HO127.out; simp only [own_any] at e_ ⊢; exact e_)⟩, ⟨by repeat (first | (with_reducible first | exact HB.out | apply below_alloc | apply pw_below_drewN | apply below_drew1) | exact HB.out)⟩⟩
                                · rw [if_neg c36] at H
                                  exact absurd H (by simp)
                            · rw [if_neg c34] at H
                              have c34b0 : ((rdOf ByteArray.empty t110 x6_2).toList == ([46, 46] : List UInt8)) = false := beq_eq_false_iff_ne.mpr c34
                              have c34b1 : ((rdOf ByteArray.empty t110 x6_2).toList != ([46, 46] : List UInt8)) = true := bne_iff_ne.mpr c34
                              by_cases c38 : x5_2.length < 8796093022208
                              · rw [if_pos c38] at H
                                have LMc38 := Aside0.mk c38
                                clear c38
                                obtain ⟨y129, hy129⟩ : ∃ y_ : List ByteArray, y_ = (x5_2 ++ [rdOf ByteArray.empty t110 x6_2]) := ⟨_, rfl⟩
                                replace H : (graftbedref01_Clean.l0 kj15 x3_1 t110 y129 (wrap64 (x6_2 + 1))) = some r := by first | (rw [hy129]; with_reducible exact H) | (have H2_ := (Option.bind_some _ _).symm.trans H; rw [hy129]; with_reducible exact H2_) | (have H2_ := (Option.bind_some _ _).symm.trans H; with_reducible exact H2_) | with_reducible exact H | (rw [hy129]; exact H) | exact H
                                have Ny129 := Aside0.mk hy129
                                clear hy129
                                have H' := Aside0.mk H
                                clear H
                                have p123 : 0 ≤ (x6_2 : Int) := of_decide_eq_true (by first | (with_reducible assumption) | assumption)
                                have q123 : x6_2 < (t110.length : Int) := of_decide_eq_true (by first | (with_reducible assumption) | assumption)
                                obtain ⟨ad123, e123, hx123_0⟩ := Kd.at_string (Kd.R_reads' HO_4.out).2.2 x6_2 p123 q123
                                cases e123
                                replace p123 := eq_true p123
                                replace q123 := eq_true q123
                                have p128 : 0 ≤ (x6_2 : Int) := of_decide_eq_true (by first | (with_reducible assumption) | assumption)
                                have q128 : x6_2 < (t110.length : Int) := of_decide_eq_true (by first | (with_reducible assumption) | assumption)
                                obtain ⟨ad128, e128, hx128_0⟩ := Kd.at_string (Kd.R_reads' HO_4.out).2.2 x6_2 p128 q128
                                obtain rfl : ad123 = ad128 := (by injection e128)
                                replace p128 := eq_true p128
                                replace q128 := eq_true q128
                                go_wp2_with (first | ((with_reducible refine gate_builtin (b := .append) (xs := #[.tmp 26, .tmp 31]) rfl ?_); (try (refine gate_guard (by rfl) ?_; dsimp only)); at_builtin; refine Kd.R_append Kd.string (w0 := w) w.heap.size rfl (.tmp 26) (.tmp 31) 28 9 (.string ⟨#[]⟩) 16 rfl Try.underlying28 info9 rfl (by decide) (by omega) u5 x5_2 (rdOf ByteArray.empty t110 x6_2) [.string (rdOf ByteArray.empty t110 x6_2)] (fun k_ => some k_ ≠ (.slice (some ad123) t110.length co12 : Value).ownBlock) (fun _ => False) rfl rfl ?aP (fun _ hk => hk.elim) ?aF ?aO ?aB ?aS ?aL ?_; (case aP => exact rfl); (case aB => exact (by repeat (first | (with_reducible first | exact HB.out | apply below_alloc | apply pw_below_drewN | apply below_drew1) | exact HB.out))); (case aF => exact (fun k_ hk => Kd.fresh' (Kd.R_lt (by (with_reducible repeat (first | apply Kd.R_alloc | apply Kd.R_drewN | apply Kd.R_drew)); exact HO_4.out)) k_ hk)); (case aO => exact (by (with_reducible repeat (first | apply Kd.R_alloc | apply Kd.R_drewN | apply Kd.R_drew)); exact HO_5.out)); (case aS => exact (below_size (by repeat (first | (with_reducible first | exact HB.out | apply below_alloc | apply pw_below_drewN | apply below_drew1) | exact HB.out)))); (case aL => have := LMc38.out; omega); intro v130 w39 ho hb hg hat; rw [← Ny129.out] at ho; have n0_ := Aside0.mk (Kd.R_after (ok := (fun _ => True)) (by (with_reducible repeat (first | apply Kd.R_alloc | apply Kd.R_drewN | apply Kd.R_drew)); exact Kd.R_mono HO_4.out (fun _ hk => ⟨trivial, hk⟩)) hg hat); have n1_ := Aside0.mk (hb); have n2_ := Aside0.mk (ho); clear HO_4; clear HB; clear HO_5; have HO_4 := n0_; have HB := n1_; have HO131 := n2_; clear n0_ n1_ n2_; clear ho hb hg hat))
                                go_roundg kj15
                                case measure => have := HJ1.out; have := HK2.out; have := HJ10.out; have := HJ15.out; omega
                                case rel => exact ⟨(y129), (wrap64 (x6_2 + 1)), (by first | rfl | (simp; done) | (simp [*]; done)), H', ⟨by have := HJ1.out; have := HK2.out; have := HJ10.out; have := HJ15.out; omega⟩, ⟨by (with_reducible repeat (first | apply Kd.R_alloc | apply Kd.R_drewN | apply Kd.R_drew)); exact Kd.R_mono HO_4.out (fun _ hk => hk.2)⟩, ⟨by (with_reducible repeat (first | apply Kd.R_alloc | apply Kd.R_drewN | apply Kd.R_drew)); first | exact HO131.out | (have e_ := HO131.out; simp only [own_any] at e_ ⊢; exact e_)⟩, ⟨by repeat (first | (with_reducible first | exact HB.out | apply below_alloc | apply pw_below_drewN | apply below_drew1) | exact HB.out)⟩⟩
                              · rw [if_neg c38] at H
                                exact absurd H (by simp)
                          · rw [if_neg c33] at H
                            exact absurd H (by simp)
                        · rw [if_neg c32] at H
                          exact absurd H (by simp)
          · rw [if_neg c10] at H
            have c10b0 : decide (x6_2 < (t110.length : Int)) = false := decide_eq_false c10
            clear c10
            have HC40 := Aside0.mk H
            clear H
            obtain ⟨Ao41, co41, eo41⟩ := Kd.R_slice HO_4.out
            subst eo41
            go_upto_if 80 with (fail)
            go_cut [7] (fun v7 wc => ∃ (kq : Nat) (x7_39 : ByteArray), v7 = .string x7_39 ∧ Aside0 (graftbedref01_Clean.j4 kq x5_2 x7_39 = some r) ∧ Aside0 (kq ≤ k2) ∧ Aside0 (Kd.R Kd.string 9 wc w.heap.size (fun _ => True) u5 x5_2) ∧ Aside0 (Below w.heap.size w wc))
            case first =>
              have H := HC40.out
              clear HC40
              by_cases c42 : x3_1 = true
              · subst c42
                have H1 : (graftbedref01_Clean.j4 k2 x5_2 (⟨#[47]⟩ : ByteArray)) = some r := by rw [if_pos rfl] at H; exact H
                clear H
                have H := H1
                clear H1
                have H' := Aside0.mk H
                clear H
                go_wp2
                go_meet
                case rel => exact ⟨_, ((⟨#[47]⟩ : ByteArray)), (by first | rfl | (simp; done) | (simp [*]; done)), H', ⟨by have := HJ1.out; have := HK2.out; first | omega | exact Nat.le_refl _⟩, ⟨by (with_reducible repeat (first | apply Kd.R_alloc | apply Kd.R_drewN | apply Kd.R_drew)); exact Kd.R_mono HO_5.out (fun _ hk => trivial)⟩, ⟨by repeat (first | (with_reducible first | exact HB.out | apply below_alloc | apply pw_below_drewN | apply below_drew1) | exact HB.out)⟩⟩
              · replace c42 := Bool.eq_false_iff.mpr c42
                subst c42
                have H1 : (graftbedref01_Clean.j4 k2 x5_2 (⟨#[]⟩ : ByteArray)) = some r := by rw [if_neg (show ¬ (false = true) by decide)] at H; exact H
                clear H
                have H := H1
                clear H1
                have H' := Aside0.mk H
                clear H
                go_wp2
                go_meet
                case rel => exact ⟨_, ((⟨#[]⟩ : ByteArray)), (by first | rfl | (simp; done) | (simp [*]; done)), H', ⟨by have := HJ1.out; have := HK2.out; first | omega | exact Nat.le_refl _⟩, ⟨by (with_reducible repeat (first | apply Kd.R_alloc | apply Kd.R_drewN | apply Kd.R_drew)); exact Kd.R_mono HO_5.out (fun _ hk => trivial)⟩, ⟨by repeat (first | (with_reducible first | exact HB.out | apply below_alloc | apply pw_below_drewN | apply below_drew1) | exact HB.out)⟩⟩
            case rest =>
              clear HC40
              try clear c1
              try clear p1
              try clear q1
              try clear hx1
              try clear c2
              try clear p2
              try clear c3
              try clear c3b0
              try clear c3b1
              try clear q3
              try clear c4
              try clear c4b0
              try clear c4b1
              try clear p5
              try clear q5
              try clear hx5
              try clear qi5
              try clear p6
              try clear c10
              try clear c10b0
              try clear p11
              try clear q11
              try clear hx11
              try clear p12
              try clear q12
              try clear hx12
              try clear c13
              try clear c13b0
              try clear c14
              try clear c14b0
              try clear c14b1
              try clear c15
              try clear c17
              try clear c17b0
              try clear c18
              try clear c18b0
              try clear c19
              try clear c19b0
              try clear c19b1
              try clear c20
              try clear c20b0
              try clear c20b1
              try clear c22
              try clear c22b0
              try clear c23
              try clear c23b0
              try clear c26
              try clear c28
              try clear c28b0
              try clear c28b1
              try clear c29
              try clear c29b0
              try clear c29b1
              try clear q31
              try clear c32
              try clear c32b0
              try clear c33
              try clear c33b0
              try clear c34
              try clear c34b0
              try clear c34b1
              try clear c35
              try clear c36
              try clear c38
              try clear c42
              try clear hx116_0
              try clear hx117_0
              try clear hx118_0
              try clear hx119_0
              try clear hx123_0
              try clear hx124_0
              try clear hx128_0
              try clear p1
              try clear p11
              try clear p116
              try clear p117
              try clear p118
              try clear p119
              try clear p123
              try clear p124
              try clear p128
              try clear p2
              try clear p5
              try clear p6
              try clear q1
              try clear q11
              try clear q116
              try clear q117
              try clear q118
              try clear q119
              try clear q123
              try clear q124
              try clear q128
              try clear q31
              try clear q5
              obtain ⟨kq, x7_39, rfl, HA, HJ39, HO_5, HB⟩ := hcut
              cases kq with
              | zero => exact absurd HA.out (by simp [graftbedref01_Clean.j4])
              | succ kj39 =>
                have H := HA.out
                clear HA
                simp only [graftbedref01_Clean.j4] at H
                have H' := Aside0.mk H
                clear H
                go_wp2
                go_loopg [7, 8] kj39 (fun kq v7 v8 w' => ∃ (x7_4 : ByteArray) (x8_4 : Int), v7 = .string x7_4 ∧ v8 = .int .i64 x8_4 ∧ Aside0 (graftbedref01_Clean.l1 kq x5_2 x7_4 x8_4 = some r) ∧ Aside0 (kq ≤ kj39) ∧ Aside0 (Kd.R Kd.string 9 w' w.heap.size (fun _ => True) u5 x5_2) ∧ Aside0 (Below w.heap.size w w'))
                case atStart => exact ⟨(x7_39), (0), (by first | rfl | (simp; done) | (simp [*]; done)), (by first | rfl | (simp; done) | (simp [*]; done)), H', ⟨Nat.le_refl _⟩, ⟨by (with_reducible repeat (first | apply Kd.R_alloc | apply Kd.R_drewN | apply Kd.R_drew)); first | exact HO_5.out | (have e_ := HO_5.out; simp only [own_any] at e_ ⊢; exact e_)⟩, ⟨by repeat (first | (with_reducible first | exact HB.out | apply below_alloc | apply pw_below_drewN | apply below_drew1) | exact HB.out)⟩⟩
                case round =>
                  clear H'
                  try clear c1
                  try clear p1
                  try clear q1
                  try clear hx1
                  try clear c2
                  try clear p2
                  try clear c3
                  try clear c3b0
                  try clear c3b1
                  try clear q3
                  try clear c4
                  try clear c4b0
                  try clear c4b1
                  try clear p5
                  try clear q5
                  try clear hx5
                  try clear qi5
                  try clear p6
                  try clear c10
                  try clear c10b0
                  try clear p11
                  try clear q11
                  try clear hx11
                  try clear p12
                  try clear q12
                  try clear hx12
                  try clear c13
                  try clear c13b0
                  try clear c14
                  try clear c14b0
                  try clear c14b1
                  try clear c15
                  try clear c17
                  try clear c17b0
                  try clear c18
                  try clear c18b0
                  try clear c19
                  try clear c19b0
                  try clear c19b1
                  try clear c20
                  try clear c20b0
                  try clear c20b1
                  try clear c22
                  try clear c22b0
                  try clear c23
                  try clear c23b0
                  try clear c26
                  try clear c28
                  try clear c28b0
                  try clear c28b1
                  try clear c29
                  try clear c29b0
                  try clear c29b1
                  try clear q31
                  try clear c32
                  try clear c32b0
                  try clear c33
                  try clear c33b0
                  try clear c34
                  try clear c34b0
                  try clear c34b1
                  try clear c35
                  try clear c36
                  try clear c38
                  try clear c42
                  try clear hx116_0
                  try clear hx117_0
                  try clear hx118_0
                  try clear hx119_0
                  try clear hx123_0
                  try clear hx124_0
                  try clear hx128_0
                  try clear p1
                  try clear p11
                  try clear p116
                  try clear p117
                  try clear p118
                  try clear p119
                  try clear p12
                  try clear p123
                  try clear p124
                  try clear p128
                  try clear p2
                  try clear p5
                  try clear p6
                  try clear q1
                  try clear q11
                  try clear q116
                  try clear q117
                  try clear q118
                  try clear q119
                  try clear q12
                  try clear q123
                  try clear q124
                  try clear q128
                  try clear q3
                  try clear q31
                  try clear q5
                  obtain ⟨x7_4, x8_4, rfl, rfl, HA, HK4, HO_5, HB⟩ := hrel
                  cases gk with
                  | zero => exact absurd HA.out (by simp [graftbedref01_Clean.l1])
                  | succ k4 =>
                    have H := HA.out
                    clear HA
                    simp only [graftbedref01_Clean.l1] at H
                    by_cases c43 : x8_4 < (x5_2.length : Int)
                    · rw [if_pos c43] at H
                      have c43b0 : decide (x8_4 < (x5_2.length : Int)) = true := decide_eq_true c43
                      clear c43
                      by_cases c44 : x8_4 > 0
                      · rw [if_pos c44] at H
                        have c44b0 : decide (0 < x8_4) = true := decide_eq_true c44
                        clear c44
                        by_cases c45 : x7_4.size + 1 ≤ 9223372036854775807
                        · rw [if_pos c45] at H
                          have c45b0 := eq_true c45
                          have c45b1 : decide (x7_4.size + 1 ≤ 9223372036854775807) = true := decide_eq_true c45
                          try have c45b2 : (9223372036854775807 < x7_4.size + 1) = False := eq_false (Nat.not_lt.2 c45)
                          have c45b7 := c45
                          try simp only [ByteArray.size_append, StrOrd.size_slash] at c45b7
                          have c45b8 := eq_false (Nat.not_lt.2 c45b7)
                          by_cases c46 : 0 ≤ x8_4
                          · rw [if_pos c46] at H
                            have c46b0 : decide (0 ≤ x8_4) = true := decide_eq_true c46
                            clear c46
                            by_cases c47 : (x7_4 ++ (⟨#[47]⟩ : ByteArray)).size + (rdOf ByteArray.empty x5_2 x8_4).size ≤ 9223372036854775807
                            · rw [if_pos c47] at H
                              have c47b0 := eq_true c47
                              have c47b1 : decide ((x7_4 ++ (⟨#[47]⟩ : ByteArray)).size + (rdOf ByteArray.empty x5_2 x8_4).size ≤ 9223372036854775807) = true := decide_eq_true c47
                              try have c47b2 : (9223372036854775807 < (x7_4 ++ (⟨#[47]⟩ : ByteArray)).size + (rdOf ByteArray.empty x5_2 x8_4).size) = False := eq_false (Nat.not_lt.2 c47)
                              have c47b7 := c47
                              try simp only [ByteArray.size_append, StrOrd.size_slash] at c47b7
                              have c47b8 := eq_false (Nat.not_lt.2 c47b7)
                              have H' := Aside0.mk H
                              clear H
                              obtain ⟨Ao48, co48, eo48⟩ := Kd.R_slice HO_5.out
                              subst eo48
                              have p132 : 0 ≤ (x8_4 : Int) := of_decide_eq_true (by first | (with_reducible assumption) | assumption)
                              have q132 : x8_4 < (x5_2.length : Int) := of_decide_eq_true (by first | (with_reducible assumption) | assumption)
                              obtain ⟨ad132, e132, hx132_0⟩ := Kd.at_string (Kd.R_reads' HO_5.out).2.2 x8_4 p132 q132
                              cases e132
                              replace p132 := eq_true p132
                              replace q132 := eq_true q132
                              go_wp2
                              go_roundg k4
                              case measure => have := HJ1.out; have := HK2.out; have := HJ39.out; have := HK4.out; omega
                              case rel => exact ⟨((x7_4 ++ (⟨#[47]⟩ : ByteArray)) ++ (rdOf ByteArray.empty x5_2 x8_4)), (wrap64 (x8_4 + 1)), (by first | rfl | (simp; done) | (simp [*]; done)), (by first | rfl | (simp; done) | (simp [*]; done)), H', ⟨by have := HJ1.out; have := HK2.out; have := HJ39.out; have := HK4.out; omega⟩, ⟨by (with_reducible repeat (first | apply Kd.R_alloc | apply Kd.R_drewN | apply Kd.R_drew)); first | exact HO_5.out | (have e_ := HO_5.out; simp only [own_any] at e_ ⊢; exact e_)⟩, ⟨by repeat (first | (with_reducible first | exact HB.out | apply below_alloc | apply pw_below_drewN | apply below_drew1) | exact HB.out)⟩⟩
                            · rw [if_neg c47] at H
                              exact absurd H (by simp)
                          · rw [if_neg c46] at H
                            exact absurd H (by simp)
                        · rw [if_neg c45] at H
                          exact absurd H (by simp)
                      · rw [if_neg c44] at H
                        have c44b0 : decide (0 < x8_4) = false := decide_eq_false c44
                        clear c44
                        by_cases c49 : 0 ≤ x8_4
                        · rw [if_pos c49] at H
                          have c49b0 : decide (0 ≤ x8_4) = true := decide_eq_true c49
                          clear c49
                          by_cases c50 : x7_4.size + (rdOf ByteArray.empty x5_2 x8_4).size ≤ 9223372036854775807
                          · rw [if_pos c50] at H
                            have c50b0 := eq_true c50
                            have c50b1 : decide (x7_4.size + (rdOf ByteArray.empty x5_2 x8_4).size ≤ 9223372036854775807) = true := decide_eq_true c50
                            try have c50b2 : (9223372036854775807 < x7_4.size + (rdOf ByteArray.empty x5_2 x8_4).size) = False := eq_false (Nat.not_lt.2 c50)
                            have c50b7 := c50
                            try simp only [ByteArray.size_append, StrOrd.size_slash] at c50b7
                            have c50b8 := eq_false (Nat.not_lt.2 c50b7)
                            have H' := Aside0.mk H
                            clear H
                            obtain ⟨Ao51, co51, eo51⟩ := Kd.R_slice HO_5.out
                            subst eo51
                            have p133 : 0 ≤ (x8_4 : Int) := of_decide_eq_true (by first | (with_reducible assumption) | assumption)
                            have q133 : x8_4 < (x5_2.length : Int) := of_decide_eq_true (by first | (with_reducible assumption) | assumption)
                            obtain ⟨ad133, e133, hx133_0⟩ := Kd.at_string (Kd.R_reads' HO_5.out).2.2 x8_4 p133 q133
                            cases e133
                            replace p133 := eq_true p133
                            replace q133 := eq_true q133
                            go_wp2
                            go_roundg k4
                            case measure => have := HJ1.out; have := HK2.out; have := HJ39.out; have := HK4.out; omega
                            case rel => exact ⟨(x7_4 ++ (rdOf ByteArray.empty x5_2 x8_4)), (wrap64 (x8_4 + 1)), (by first | rfl | (simp; done) | (simp [*]; done)), (by first | rfl | (simp; done) | (simp [*]; done)), H', ⟨by have := HJ1.out; have := HK2.out; have := HJ39.out; have := HK4.out; omega⟩, ⟨by (with_reducible repeat (first | apply Kd.R_alloc | apply Kd.R_drewN | apply Kd.R_drew)); first | exact HO_5.out | (have e_ := HO_5.out; simp only [own_any] at e_ ⊢; exact e_)⟩, ⟨by repeat (first | (with_reducible first | exact HB.out | apply below_alloc | apply pw_below_drewN | apply below_drew1) | exact HB.out)⟩⟩
                          · rw [if_neg c50] at H
                            exact absurd H (by simp)
                        · rw [if_neg c49] at H
                          exact absurd H (by simp)
                    · rw [if_neg c43] at H
                      have c43b0 : decide (x8_4 < (x5_2.length : Int)) = false := decide_eq_false c43
                      clear c43
                      by_cases c52 : x7_4.toList = ([] : List UInt8)
                      · rw [if_pos c52] at H
                        have c52b0 : (x7_4.toList == ([] : List UInt8)) = true := beq_iff_eq.mpr c52
                        have c52b1 : (x7_4.toList != ([] : List UInt8)) = false := bne_eq_false_iff_eq.mpr c52
                        clear c52
                        obtain rfl := Option.some.inj H
                        obtain ⟨Ao53, co53, eo53⟩ := Kd.R_slice HO_5.out
                        subst eo53
                        go_wp2
                        go_ret
                        exact ⟨by first | rfl | (simp [errW_none, errW_some] <;> rfl) | (simp [*, errW_none, errW_some] <;> rfl), by repeat (first | (with_reducible first | exact HB.out | apply below_alloc | apply pw_below_drewN | apply below_drew1) | exact HB.out)⟩
                      · rw [if_neg c52] at H
                        have c52b0 : (x7_4.toList == ([] : List UInt8)) = false := beq_eq_false_iff_ne.mpr c52
                        have c52b1 : (x7_4.toList != ([] : List UInt8)) = true := bne_iff_ne.mpr c52
                        obtain rfl := Option.some.inj H
                        obtain ⟨Ao54, co54, eo54⟩ := Kd.R_slice HO_5.out
                        subst eo54
                        go_wp2
                        go_ret
                        exact ⟨by first | rfl | (simp [errW_none, errW_some] <;> rfl) | (simp [*, errW_none, errW_some] <;> rfl), by repeat (first | (with_reducible first | exact HB.out | apply below_alloc | apply pw_below_drewN | apply below_drew1) | exact HB.out)⟩

end Go.Proofs.Ythiecbkkbiejjaa.PPathsCleans
