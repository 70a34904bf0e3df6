/- Printed parts, put together. -/
import Derived.Test.YtmocfgghccmdgaaMpa
-- by hprint.py (wip/): the kit's print over contracts proved by hand; a text of this session
namespace Go.Proofs.Ytmocfgghccmdgaa.PTr
open Go.RowKit Go.Proofs.YtmocfgghccmdgaaW.PrintWords Go.Proofs.YtmocfgghccmdgaaW.PrintLast Go.Proofs.YtmocfgghccmdgaaW.PrintMore
attribute [local go_sem] max2_int min2_int max_two min_two max_three min_three max_four min_four   -- for this text's walks alone
set_option linter.unusedVariables false
set_option linter.unusedSimpArgs false

/-! ### graftbedref02_Drop: function 34 -/
def graftbedref02_Drop.l0 : Nat → List (S24) → ByteArray → List (S24) → Int → Option ((List (S24)) × Int)
  | 0, _, _, _, _ => none
  | k + 1, x0, x1, x6, x7 => if x7 < (x0.length : Int) then (if 0 ≤ x7 then (if ((rd_T24 x0 x7).f0).toList = x1.toList then (graftbedref02_Drop.l0 k x0 x1 x6 (wrap64 (x7 + 1))) else (if x6.length < 4398046511104 then (graftbedref02_Drop.l0 k x0 x1 (x6 ++ [(⟨(rd_T24 x0 x7).f0, (rd_T24 x0 x7).f1⟩ : S24)]) (wrap64 (x7 + 1))) else (none))) else (none)) else (if (x6.length : Int) = (x0.length : Int) then (some (([] : List (S24)), 3)) else (some (x6, 0)))
def graftbedref02_Drop.f (k : Nat) (l0 : List (S24)) (a1 : ByteArray) : Option ((List (S24)) × Int) := graftbedref02_Drop.l0 k l0 a1 (([] : List (S24))) 0
theorem graftbedref02_Drop.mono_l : ∀ k, (∀ y0 y1 y2 y3, LeO (graftbedref02_Drop.l0 k y0 y1 y2 y3) (graftbedref02_Drop.l0 (k + 1) y0 y1 y2 y3))
  | 0 => fun _ _ _ _ r h => by simp [graftbedref02_Drop.l0] at h
  | k + 1 => by
    have ih0 := graftbedref02_Drop.mono_l k
    · intro y0 y1 y2 y3
      unfold graftbedref02_Drop.l0
      repeat' first
      | (with_reducible exact ih0 _ _ _ _)
      | (with_reducible exact LeO.refl _)
      | (with_reducible exact LeO.none _)
      | (with_reducible refine LeO.ite ?_ ?_)
      | (with_reducible refine LeO.bind ?_ (fun _ => ?_))
      | exact ih0 _ _ _ _
      | exact LeO.none _
      | refine LeO.ite ?_ ?_
      | refine LeO.bind ?_ (fun _ => ?_)
theorem graftbedref02_Drop.mono : ∀ a0 a1 k, LeO (graftbedref02_Drop.f k a0 a1) (graftbedref02_Drop.f (k + 1) a0 a1) := by
  intro a0 a1 k
  have ih0 := graftbedref02_Drop.mono_l k
  unfold graftbedref02_Drop.f
  repeat' first
      | (with_reducible exact ih0 _ _ _ _)
      | (with_reducible exact LeO.refl _)
      | (with_reducible exact LeO.none _)
      | (with_reducible refine LeO.ite ?_ ?_)
      | (with_reducible refine LeO.bind ?_ (fun _ => ?_))
      | exact ih0 _ _ _ _
      | exact LeO.none _
      | refine LeO.ite ?_ ?_
      | refine LeO.bind ?_ (fun _ => ?_)
set_option maxHeartbeats 8000000 in
set_option maxRecDepth 100000 in
theorem graftbedref02_Drop.calls (k : Nat) (A0 : Option Addr) (c0 : Nat) (l0 : List (S24)) (a1 : ByteArray) (r1 : List (S24)) (r2 : Int) (w : World) (hr0 : Kd.C k24 w A0 l0.length l0) (hc0 : l0.length ≤ c0) (h : graftbedref02_Drop.f k l0 a1 = some (r1, r2)) :
    Calls Try.prog 34 #[.slice A0 l0.length c0, .string a1] w fun e w' => ∃ v0_ : Value, e = .returned (.tuple #[v0_, .int .i64 r2]) ∧ Kd.R k24 24 w' w.heap.size (fun _ => True) v0_ r1 ∧ Below w.heap.size w w' := by
  have hu24 := Try.underlying24
  have HR0 := Aside0.mk hr0
  have HC0 := Aside0.mk hc0
  clear hr0 hc0
  have HB := Aside0.mk (Below.refl w.heap.size w)
  have H : (graftbedref02_Drop.l0 k l0 a1 (([] : List (S24))) 0) = some (r1, r2) := h
  clear h
  obtain ⟨y259, hy259⟩ : ∃ y_ : List (S24), y_ = (([] : List (S24))) := ⟨_, rfl⟩
  replace H : (graftbedref02_Drop.l0 k l0 a1 y259 0) = some (r1, r2) := by first | (rw [hy259]; with_reducible exact H) | (have H2_ := (Option.bind_some _ _).symm.trans H; rw [hy259]; with_reducible exact H2_) | (have H2_ := (Option.bind_some _ _).symm.trans H; with_reducible exact H2_) | with_reducible exact H | (rw [hy259]; exact H) | exact H
  have Ny259 := Aside0.mk hy259
  clear hy259
  have H' := Aside0.mk H
  clear H
  go_enter Try.func34, Try.ntmps34
  go_wp2_with (first | ((with_reducible refine gate_dst (N := 8) rfl ?_); refine Kd.R_lit k24 _ 24 ?hg (N := 8) ?hd (xs := ([] : List (S24))) (inner := []) (ok := fun _ => True) (okp := fun _ => True) ?hr ?hp (fun _ hk => hk) trivial (Below.refl _ _) (Nat.le_refl _) (by simp) ?_; (case hd => rfl); (case hg => rfl); (case hr => first | (go_simp; done) | (go_simp; rfl)); (case hp => exact (Reps.none _ _)); intro v260 w3 ho4 hb hg_ hnew_; clear hg_ hnew_; (first | rw [← Ny259.out] at ho4 | (simp only [Int.reduceToNat] at ho4; rw [← Ny259.out] at ho4)); have n0_ := Aside0.mk (Kd.R_lower ho4 (below_size (by repeat (first | (with_reducible first | exact HB.out | apply below_alloc | apply pw_below_drewN | apply below_drew1) | exact HB.out)))); have n1_ := Aside0.mk (below_step (by repeat (first | (with_reducible first | exact HB.out | apply below_alloc | apply pw_below_drewN | apply below_drew1) | exact HB.out)) hb); clear HB; have HO261 := n0_; have HB := n1_; clear n0_ n1_; clear hb ho4))
  go_loopg [6, 7] k (fun kq v6 v7 w' => ∃ (x6_1 : List (S24)) (x7_1 : Int), v7 = .int .i64 x7_1 ∧ Aside0 (graftbedref02_Drop.l0 kq l0 a1 x6_1 x7_1 = some (r1, r2)) ∧ Aside0 (kq ≤ k) ∧ Aside0 (Kd.R k24 24 w' w.heap.size (fun _ => True) v6 x6_1) ∧ Aside0 (Below w.heap.size w w'))
  case atStart => exact ⟨(y259), (0), (by first | rfl | (simp; done) | (simp [*]; done)), H', ⟨Nat.le_refl _⟩, ⟨by (with_reducible repeat (first | apply Kd.R_alloc | apply Kd.R_drewN | apply Kd.R_drew)); first | exact HO261.out | (have e_ := HO261.out; simp only [StrOrd.own_any] at e_ ⊢; exact e_)⟩, ⟨by repeat (first | (with_reducible first | exact HB.out | apply below_alloc | apply pw_below_drewN | apply below_drew1) | exact HB.out)⟩⟩
  case round =>
    clear H'
    try clear p2
    try clear c3
    obtain ⟨x6_1, x7_1, rfl, HA, HK1, HO_6, HB⟩ := hrel
    cases gk with
    | zero => exact absurd HA.out (by simp [graftbedref02_Drop.l0])
    | succ k1 =>
      have H := HA.out
      clear HA
      simp only [graftbedref02_Drop.l0] at H
      by_cases c5 : x7_1 < (l0.length : Int)
      · rw [if_pos c5] at H
        have c5b0 : decide (x7_1 < (l0.length : Int)) = true := decide_eq_true c5
        clear c5
        by_cases c6 : 0 ≤ x7_1
        · rw [if_pos c6] at H
          have c6b0 : decide (0 ≤ x7_1) = true := decide_eq_true c6
          clear c6
          by_cases c7 : ((rd_T24 l0 x7_1).f0).toList = a1.toList
          · rw [if_pos c7] at H
            have c7b0 : (((rd_T24 l0 x7_1).f0).toList == a1.toList) = true := beq_iff_eq.mpr c7
            have c7b1 : (((rd_T24 l0 x7_1).f0).toList != a1.toList) = false := bne_eq_false_iff_eq.mpr c7
            clear c7
            have H' := Aside0.mk H
            clear H
            have p262 : 0 ≤ (x7_1 : Int) := of_decide_eq_true (by first | (with_reducible assumption) | assumption)
            have q262 : x7_1 < (l0.length : Int) := of_decide_eq_true (by first | (with_reducible assumption) | assumption)
            obtain ⟨ad262, e262, hx262_0, hx262_1⟩ := at_T24 HR0.out x7_1 p262 q262
            cases e262
            replace hx262_0 := (HB.out.cell (World.block_lt_of_cell? w _ hx262_0)).trans hx262_0
            replace hx262_1 := (HB.out.cell (World.block_lt_of_cell? w _ hx262_1)).trans hx262_1
            replace p262 := eq_true p262
            replace q262 := eq_true q262
            go_wp2
            go_roundg k1
            case measure => have := HK1.out; omega
            case rel => exact ⟨(x6_1), (wrap64 (x7_1 + 1)), (by first | rfl | (simp; done) | (simp [*]; done)), H', ⟨by have := HK1.out; omega⟩, ⟨by (with_reducible repeat (first | apply Kd.R_alloc | apply Kd.R_drewN | apply Kd.R_drew)); first | exact HO_6.out | (have e_ := HO_6.out; simp only [StrOrd.own_any] at e_ ⊢; exact e_)⟩, ⟨by repeat (first | (with_reducible first | exact HB.out | apply below_alloc | apply pw_below_drewN | apply below_drew1) | exact HB.out)⟩⟩
          · rw [if_neg c7] at H
            have c7b0 : (((rd_T24 l0 x7_1).f0).toList == a1.toList) = false := beq_eq_false_iff_ne.mpr c7
            have c7b1 : (((rd_T24 l0 x7_1).f0).toList != a1.toList) = true := bne_iff_ne.mpr c7
            by_cases c8 : x6_1.length < 4398046511104
            · rw [if_pos c8] at H
              have LMc8 := Aside0.mk c8
              clear c8
              obtain ⟨y264, hy264⟩ : ∃ y_ : List (S24), y_ = (x6_1 ++ [(⟨(rd_T24 l0 x7_1).f0, (rd_T24 l0 x7_1).f1⟩ : S24)]) := ⟨_, rfl⟩
              replace H : (graftbedref02_Drop.l0 k1 l0 a1 y264 (wrap64 (x7_1 + 1))) = some (r1, r2) := by first | (rw [hy264]; with_reducible exact H) | (have H2_ := (Option.bind_some _ _).symm.trans H; rw [hy264]; with_reducible exact H2_) | (have H2_ := (Option.bind_some _ _).symm.trans H; with_reducible exact H2_) | with_reducible exact H | (rw [hy264]; exact H) | exact H
              have Ny264 := Aside0.mk hy264
              clear hy264
              have H' := Aside0.mk H
              clear H
              have p262 : 0 ≤ (x7_1 : Int) := of_decide_eq_true (by first | (with_reducible assumption) | assumption)
              have q262 : x7_1 < (l0.length : Int) := of_decide_eq_true (by first | (with_reducible assumption) | assumption)
              obtain ⟨ad262, e262, hx262_0, hx262_1⟩ := at_T24 HR0.out x7_1 p262 q262
              cases e262
              replace hx262_0 := (HB.out.cell (World.block_lt_of_cell? w _ hx262_0)).trans hx262_0
              replace hx262_1 := (HB.out.cell (World.block_lt_of_cell? w _ hx262_1)).trans hx262_1
              replace p262 := eq_true p262
              replace q262 := eq_true q262
              have p263 : 0 ≤ (x7_1 : Int) := of_decide_eq_true (by first | (with_reducible assumption) | assumption)
              have q263 : x7_1 < (l0.length : Int) := of_decide_eq_true (by first | (with_reducible assumption) | assumption)
              obtain ⟨ad263, e263, hx263_0, hx263_1⟩ := at_T24 HR0.out x7_1 p263 q263
              obtain rfl : ad262 = ad263 := (by injection e263)
              replace hx263_0 := (HB.out.cell (World.block_lt_of_cell? w _ hx263_0)).trans hx263_0
              replace hx263_1 := (HB.out.cell (World.block_lt_of_cell? w _ hx263_1)).trans hx263_1
              replace p263 := eq_true p263
              replace q263 := eq_true q263
              go_wp2_with (first | ((with_reducible refine gate_builtin (b := .append) (xs := #[.tmp 22, .tmp 27]) rfl ?_); at_builtin; refine Kd.R_append k24 (w0 := w) w.heap.size rfl (.tmp 22) (.tmp 27) 22 24 (.agg #[(.string ⟨#[]⟩), (.string ⟨#[]⟩)]) 32 rfl Try.underlying22 info24 rfl (by decide) (by omega) u6 x6_1 (⟨(rd_T24 l0 x7_1).f0, (rd_T24 l0 x7_1).f1⟩ : S24) [.string ((rd_T24 l0 x7_1).f0), .string ((rd_T24 l0 x7_1).f1)] (fun _ => True) (fun _ => False) rfl rfl ?aP (fun _ hk => hk.elim) ?aF ?aO ?aB ?aS ?aL ?_; (case aP => exact k24_mkM _ _ _ (⟨(rd_T24 l0 x7_1).f0, (rd_T24 l0 x7_1).f1⟩ : S24)); (case aB => exact (by repeat (first | (with_reducible first | exact HB.out | apply below_alloc | apply pw_below_drewN | apply below_drew1) | exact HB.out))); (case aF => exact (fun _ _ => trivial)); (case aO => exact (by (with_reducible repeat (first | apply Kd.R_alloc | apply Kd.R_drewN | apply Kd.R_drew)); exact HO_6.out)); (case aS => exact (below_size (by repeat (first | (with_reducible first | exact HB.out | apply below_alloc | apply pw_below_drewN | apply below_drew1) | exact HB.out)))); (case aL => have := LMc8.out; omega); intro v265 w9 ho hb hg hat; rw [← Ny264.out] at ho; have n0_ := Aside0.mk (hb); have n1_ := Aside0.mk (ho); clear HB; clear HO_6; have HB := n0_; have HO266 := n1_; clear n0_ n1_; clear ho hb hg hat))
              go_roundg k1
              case measure => have := HK1.out; omega
              case rel => exact ⟨(y264), (wrap64 (x7_1 + 1)), (by first | rfl | (simp; done) | (simp [*]; done)), H', ⟨by have := HK1.out; omega⟩, ⟨by (with_reducible repeat (first | apply Kd.R_alloc | apply Kd.R_drewN | apply Kd.R_drew)); first | exact HO266.out | (have e_ := HO266.out; simp only [StrOrd.own_any] at e_ ⊢; exact e_)⟩, ⟨by repeat (first | (with_reducible first | exact HB.out | apply below_alloc | apply pw_below_drewN | apply below_drew1) | exact HB.out)⟩⟩
            · rw [if_neg c8] at H
              exact absurd H (by simp)
        · rw [if_neg c6] at H
          exact absurd H (by simp)
      · rw [if_neg c5] at H
        have c5b0 : decide (x7_1 < (l0.length : Int)) = false := decide_eq_false c5
        clear c5
        by_cases c10 : (x6_1.length : Int) = (l0.length : Int)
        · rw [if_pos c10] at H
          have c10b0 : ((x6_1.length : Int) == (l0.length : Int)) = true := beq_iff_eq.mpr c10
          have c10b1 : ((x6_1.length : Int) != (l0.length : Int)) = false := bne_eq_false_iff_eq.mpr c10
          have c10b2 : (x6_1.length == l0.length) = true := by first | simpa using c10 | (simp at c10 ⊢; omega)
          clear c10
          simp only [Option.some.injEq, Prod.mk.injEq] at H
          obtain ⟨rfl, rfl⟩ := H
          obtain ⟨Ao11, co11, eo11⟩ := Kd.R_slice HO_6.out
          subst eo11
          go_wp2
          go_ret2
          exact ⟨_, by first | rfl | (simp [errW_none, errW_some] <;> rfl) | (simp [*, errW_none, errW_some] <;> rfl), by first | exact Kd.R_nil _ _ _ _ _ | exact Kd.N_nil _ _ _ _ _ | exact Kd.V_nil _ _ _ _ _ | exact Kd.Q_nil _ _ _ _ _ | exact Kd.S_nil _ _ _ _ _, by repeat (first | (with_reducible first | exact HB.out | apply below_alloc | apply pw_below_drewN | apply below_drew1) | exact HB.out)⟩
        · rw [if_neg c10] at H
          have c10b0 : ((x6_1.length : Int) == (l0.length : Int)) = false := beq_eq_false_iff_ne.mpr c10
          have c10b1 : ((x6_1.length : Int) != (l0.length : Int)) = true := bne_iff_ne.mpr c10
          have c10b2 : (x6_1.length == l0.length) = false := by first | simpa using c10 | (simp at c10 ⊢; omega)
          simp only [Option.some.injEq, Prod.mk.injEq] at H
          obtain ⟨rfl, rfl⟩ := H
          obtain ⟨Ao12, co12, eo12⟩ := Kd.R_slice HO_6.out
          subst eo12
          go_wp2
          go_ret2
          exact ⟨_, by first | rfl | (simp [errW_none, errW_some] <;> rfl) | (simp [*, errW_none, errW_some] <;> rfl), by (with_reducible repeat (first | apply Kd.R_alloc | apply Kd.R_drewN | apply Kd.R_drew)); exact HO_6.out, by repeat (first | (with_reducible first | exact HB.out | apply below_alloc | apply pw_below_drewN | apply below_drew1) | exact HB.out)⟩

end Go.Proofs.Ytmocfgghccmdgaa.PTr
