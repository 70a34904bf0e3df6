/- Printed parts, put together. -/
import Derived.Test.YtjndccjpjknbkaaDoorMpa
import Derived.Test.YtjndccjpjknbkaaDoorMpb
-- by hprint.py (wip/): the kit's print over contracts proved by hand; a text of this session
namespace Go.Proofs.YtjndccjpjknbkaaDoor.PEx
open Go.RowKit Go.Proofs.YtjndccjpjknbkaaDoorW.PrintWords Go.Proofs.YtjndccjpjknbkaaDoorW.PrintLast Go.Proofs.YtjndccjpjknbkaaDoorW.PrintMore
attribute [local go_sem] max2_int min2_int max_two min_two max_three min_three max_four min_four   -- for this text's walks alone
set_option linter.unusedVariables false
set_option linter.unusedSimpArgs false

/-! ### graftbedref12_whole: function 37 -/
mutual
def graftbedref12_whole.j0 : Nat → List (S61) → Int → Bool → Int → ByteArray → Int → Int → Option (Int × Int)
  | 0, _, _, _, _, _, _, _ => none
  | k + 1, x0, x1, x66, x115000, x115001, x115002, x115003 => if x66 = true then (if x115001.toList = ([] : List UInt8) then (if x115003 = (wrap64 (x1 - 1)) then (graftbedref12_whole.j1 k x0 x1 (decide (x1 > 1)) x115000 x115001 x115002 x115003) else (graftbedref12_whole.j1 k x0 x1 false x115000 x115001 x115002 x115003)) else (graftbedref12_whole.j1 k x0 x1 false x115000 x115001 x115002 x115003)) else (some ((-1), 0))
def graftbedref12_whole.j1 : Nat → List (S61) → Int → Bool → Int → ByteArray → Int → Int → Option (Int × Int)
  | 0, _, _, _, _, _, _, _ => none
  | k + 1, x0, x1, x82, x115000, x115001, x115002, x115003 => if x82 = true then ((graftbedref12_whole.f k x0 (wrap64 (x1 - 1))).bind fun bt118 => (if bt118.1 > 0 then (if x115002 = (wrap64 (bt118.1 - 1)) then ((graftbedref12_whole.f k x0 (wrap64 (bt118.1 - 1))).bind fun bt120 => (some (bt120.1, wrap64 ((mx bt118.2 bt120.2) + 1)))) else (some ((-1), 0))) else (some ((-1), 0)))) else (some ((-1), 0))
def graftbedref12_whole.f : Nat → List (S61) → Int → Option (Int × Int)
  | 0, _, _ => none
  | k + 1, l0, a1 => if 0 ≤ a1 then (if a1 < (l0.length : Int) then (if ((rd_T61 l0 a1).f0) = 0 then ((graftbedref12_Tag.f k ((rd_T61 l0 a1).f1)).bind fun t115 => (if t115 = true then (if ((rd_T61 l0 a1).f2) = 0 then (if ((rd_T61 l0 a1).f3) = 0 then (some (a1, 1)) else (some ((-1), 0))) else (some ((-1), 0))) else (some ((-1), 0)))) else (if ((rd_T61 l0 a1).f0) = 1 then (if ((rd_T61 l0 a1).f1).toList = ([] : List UInt8) then (if ((rd_T61 l0 a1).f3) = 0 then (if ((rd_T61 l0 a1).f2) = (wrap64 (a1 - 1)) then (if a1 > 0 then ((graftbedref12_whole.f k l0 (wrap64 (a1 - 1))).bind fun bt116 => (some (bt116.1, wrap64 (bt116.2 + 1)))) else (some ((-1), 0))) else (some ((-1), 0))) else (some ((-1), 0))) else (some ((-1), 0))) else (if ((rd_T61 l0 a1).f0) = 2 then (graftbedref12_whole.j0 k l0 a1 (((rd_T61 l0 a1).f0) == 2) ((rd_T61 l0 a1).f0) ((rd_T61 l0 a1).f1) ((rd_T61 l0 a1).f2) ((rd_T61 l0 a1).f3)) else (graftbedref12_whole.j0 k l0 a1 (((rd_T61 l0 a1).f0) == 3) ((rd_T61 l0 a1).f0) ((rd_T61 l0 a1).f1) ((rd_T61 l0 a1).f2) ((rd_T61 l0 a1).f3))))) else (none)) else (none)
end
theorem graftbedref12_whole.mono_l : ∀ k, (∀ y0 y1, LeO (graftbedref12_whole.f k y0 y1) (graftbedref12_whole.f (k + 1) y0 y1)) ∧ (∀ y0 y1 y2 y3 y4 y5 y6, LeO (graftbedref12_whole.j0 k y0 y1 y2 y3 y4 y5 y6) (graftbedref12_whole.j0 (k + 1) y0 y1 y2 y3 y4 y5 y6)) ∧ (∀ y0 y1 y2 y3 y4 y5 y6, LeO (graftbedref12_whole.j1 k y0 y1 y2 y3 y4 y5 y6) (graftbedref12_whole.j1 (k + 1) y0 y1 y2 y3 y4 y5 y6))
  | 0 => ⟨fun _ _ r h => by simp [graftbedref12_whole.f] at h, fun _ _ _ _ _ _ _ r h => by simp [graftbedref12_whole.j0] at h, fun _ _ _ _ _ _ _ r h => by simp [graftbedref12_whole.j1] at h⟩
  | k + 1 => by
    obtain ⟨ih0, ih1, ih2⟩ := graftbedref12_whole.mono_l k
    refine ⟨?_, ?_, ?_⟩
    · intro y0 y1
      unfold graftbedref12_whole.f
      repeat' first
      | (with_reducible exact ih0 _ _)
      | (with_reducible exact ih1 _ _ _ _ _ _ _)
      | (with_reducible exact ih2 _ _ _ _ _ _ _)
      | (with_reducible exact graftbedref12_Tag.mono _ _)
      | (with_reducible exact LeO.refl _)
      | (with_reducible exact LeO.none _)
      | (with_reducible refine LeO.ite ?_ ?_)
      | (with_reducible refine LeO.bind ?_ (fun _ => ?_))
      | exact ih0 _ _
      | exact ih1 _ _ _ _ _ _ _
      | exact ih2 _ _ _ _ _ _ _
      | exact graftbedref12_Tag.mono _ _
      | exact LeO.none _
      | refine LeO.ite ?_ ?_
      | refine LeO.bind ?_ (fun _ => ?_)
    · intro y0 y1 y2 y3 y4 y5 y6
      unfold graftbedref12_whole.j0
      repeat' first
      | (with_reducible exact ih0 _ _)
      | (with_reducible exact ih1 _ _ _ _ _ _ _)
      | (with_reducible exact ih2 _ _ _ _ _ _ _)
      | (with_reducible exact graftbedref12_Tag.mono _ _)
      | (with_reducible exact LeO.refl _)
      | (with_reducible exact LeO.none _)
      | (with_reducible refine LeO.ite ?_ ?_)
      | (with_reducible refine LeO.bind ?_ (fun _ => ?_))
      | exact ih0 _ _
      | exact ih1 _ _ _ _ _ _ _
      | exact ih2 _ _ _ _ _ _ _
      | exact graftbedref12_Tag.mono _ _
      | exact LeO.none _
      | refine LeO.ite ?_ ?_
      | refine LeO.bind ?_ (fun _ => ?_)
    · intro y0 y1 y2 y3 y4 y5 y6
      unfold graftbedref12_whole.j1
      repeat' first
      | (with_reducible exact ih0 _ _)
      | (with_reducible exact ih1 _ _ _ _ _ _ _)
      | (with_reducible exact ih2 _ _ _ _ _ _ _)
      | (with_reducible exact graftbedref12_Tag.mono _ _)
      | (with_reducible exact LeO.refl _)
      | (with_reducible exact LeO.none _)
      | (with_reducible refine LeO.ite ?_ ?_)
      | (with_reducible refine LeO.bind ?_ (fun _ => ?_))
      | exact ih0 _ _
      | exact ih1 _ _ _ _ _ _ _
      | exact ih2 _ _ _ _ _ _ _
      | exact graftbedref12_Tag.mono _ _
      | exact LeO.none _
      | refine LeO.ite ?_ ?_
      | refine LeO.bind ?_ (fun _ => ?_)
theorem graftbedref12_whole.mono : ∀ a0 a1 k, LeO (graftbedref12_whole.f k a0 a1) (graftbedref12_whole.f (k + 1) a0 a1) := by
  intro a0 a1 k
  obtain ⟨ih0, ih1, ih2⟩ := graftbedref12_whole.mono_l k
  exact ih0 a0 a1
set_option maxHeartbeats 8000000 in
set_option maxRecDepth 100000 in
theorem graftbedref12_whole.calls (k : Nat) : ∀ (A0 : Option Addr) (c0 : Nat) (l0 : List (S61)) (a1 : Int) (r1 : Int) (r2 : Int) (w : World) (hr0 : Kd.C k61 w A0 l0.length l0) (hc0 : l0.length ≤ c0) (h : graftbedref12_whole.f k l0 a1 = some (r1, r2)),
    Calls Tryd.prog 37 #[.slice A0 l0.length c0, .int .i64 a1] w fun e w' => e = .returned (.tuple #[.int .i64 r1, .int .i64 r2]) ∧ Below w.heap.size w w' := by
  induction k using Nat.strongRecOn with
  | _ k ih =>
  intro A0 c0 l0 a1 r1 r2 w hr0 hc0 h
  cases k with
  | zero => exact absurd h (by simp [graftbedref12_whole.f])
  | succ k =>
  simp only [graftbedref12_whole.f] at h
  have hu61 := Tryd.underlying61
  have HR0 := Aside0.mk hr0
  have HC0 := Aside0.mk hc0
  clear hr0 hc0
  have HB := Aside0.mk (Below.refl w.heap.size w)
  have H : (if 0 ≤ a1 then (if a1 < (l0.length : Int) then (if ((rd_T61 l0 a1).f0) = 0 then ((graftbedref12_Tag.f k ((rd_T61 l0 a1).f1)).bind fun t115 => (if t115 = true then (if ((rd_T61 l0 a1).f2) = 0 then (if ((rd_T61 l0 a1).f3) = 0 then (some (a1, 1)) else (some ((-1), 0))) else (some ((-1), 0))) else (some ((-1), 0)))) else (if ((rd_T61 l0 a1).f0) = 1 then (if ((rd_T61 l0 a1).f1).toList = ([] : List UInt8) then (if ((rd_T61 l0 a1).f3) = 0 then (if ((rd_T61 l0 a1).f2) = (wrap64 (a1 - 1)) then (if a1 > 0 then ((graftbedref12_whole.f k l0 (wrap64 (a1 - 1))).bind fun bt116 => (some (bt116.1, wrap64 (bt116.2 + 1)))) else (some ((-1), 0))) else (some ((-1), 0))) else (some ((-1), 0))) else (some ((-1), 0))) else (if ((rd_T61 l0 a1).f0) = 2 then (graftbedref12_whole.j0 k l0 a1 (((rd_T61 l0 a1).f0) == 2) ((rd_T61 l0 a1).f0) ((rd_T61 l0 a1).f1) ((rd_T61 l0 a1).f2) ((rd_T61 l0 a1).f3)) else (graftbedref12_whole.j0 k l0 a1 (((rd_T61 l0 a1).f0) == 3) ((rd_T61 l0 a1).f0) ((rd_T61 l0 a1).f1) ((rd_T61 l0 a1).f2) ((rd_T61 l0 a1).f3))))) else (none)) else (none)) = some (r1, r2) := h
  clear h
  by_cases c3 : 0 ≤ a1
  · rw [if_pos c3] at H
    have c3b0 : decide (0 ≤ a1) = true := decide_eq_true c3
    clear c3
    by_cases c4 : a1 < (l0.length : Int)
    · rw [if_pos c4] at H
      have c4b0 : decide (a1 < (l0.length : Int)) = true := decide_eq_true c4
      clear c4
      by_cases c5 : ((rd_T61 l0 a1).f0) = 0
      · rw [if_pos c5] at H
        have c5b0 : (((rd_T61 l0 a1).f0) == 0) = true := beq_iff_eq.mpr c5
        have c5b1 : (((rd_T61 l0 a1).f0) != 0) = false := bne_eq_false_iff_eq.mpr c5
        clear c5
        replace H := Option.bind_eq_some_iff.mp H
        obtain ⟨t115, A60, H⟩ := H
        replace H : (if t115 = true then (if ((rd_T61 l0 a1).f2) = 0 then (if ((rd_T61 l0 a1).f3) = 0 then (some (a1, 1)) else (some ((-1), 0))) else (some ((-1), 0))) else (some ((-1), 0))) = some (r1, r2) := H
        have A6 := Aside0.mk A60
        clear A60
        by_cases c7 : t115 = true
        · subst c7
          have H1 : (if ((rd_T61 l0 a1).f2) = 0 then (if ((rd_T61 l0 a1).f3) = 0 then (some (a1, 1)) else (some ((-1), 0))) else (some ((-1), 0))) = some (r1, r2) := by rw [if_pos rfl] at H; exact H
          clear H
          have H := H1
          clear H1
          by_cases c8 : ((rd_T61 l0 a1).f2) = 0
          · rw [if_pos c8] at H
            have c8b0 : (((rd_T61 l0 a1).f2) == 0) = true := beq_iff_eq.mpr c8
            have c8b1 : (((rd_T61 l0 a1).f2) != 0) = false := bne_eq_false_iff_eq.mpr c8
            clear c8
            by_cases c9 : ((rd_T61 l0 a1).f3) = 0
            · rw [if_pos c9] at H
              have c9b0 : (((rd_T61 l0 a1).f3) == 0) = true := beq_iff_eq.mpr c9
              have c9b1 : (((rd_T61 l0 a1).f3) != 0) = false := bne_eq_false_iff_eq.mpr c9
              clear c9
              simp only [Option.some.injEq, Prod.mk.injEq] at H
              obtain ⟨rfl, rfl⟩ := H
              have p113 : 0 ≤ (a1 : Int) := of_decide_eq_true (by first | (with_reducible assumption) | assumption)
              have q113 : a1 < (l0.length : Int) := of_decide_eq_true (by first | (with_reducible assumption) | assumption)
              obtain ⟨ad113, e113, hx113_0, hx113_1, hx113_2, hx113_3⟩ := at_T61 HR0.out a1 p113 q113
              cases e113
              replace p113 := eq_true p113
              replace q113 := eq_true q113
              go_enter Tryd.func37, Tryd.ntmps37
              go_wp2_with (first | ((with_reducible refine gate_dst (N := 6) rfl ?_); refine box_event ?hg (N := 6) ?hd (cs := #[.int .i64 0, .string (⟨#[]⟩ : ByteArray), .int .i64 0, .int .i64 0]) (t := 61) ?hr ?_; (case hd => rfl); (case hg => rfl); (case hr => first | (go_simp; done) | (go_simp; rfl)); intro gb114 hg w10 hbox hb; have n0_ := Aside0.mk (below_step (by repeat (first | (with_reducible first | exact HB.out | apply below_alloc | apply pw_below_drewN | apply below_drew1) | exact HB.out)) hb); have n1_ := Aside0.mk (hbox); have n2_ := Aside0.mk ((by rw [hg]; exact (below_size (by repeat (first | (with_reducible first | exact HB.out | apply below_alloc | apply pw_below_drewN | apply below_drew1) | exact HB.out))) : w.heap.size ≤ gb114)); have n3_ := Aside0.mk ((by rw [hg]; exact (below_size (by repeat (first | (with_reducible first | exact HB.out | apply below_alloc | apply pw_below_drewN | apply below_drew1) | exact HB.out))) : w.heap.size ≤ gb114)); clear HB; have HB := n0_; have BK114 := n1_; have GW114 := n2_; have GE114 := n3_; clear n0_ n1_ n2_ n3_; clear hb hbox hg; have hcz11_0 : w10.cell? ⟨gb114, 0, none⟩ = some (.int .i64 0) := (blk_cell BK114.out 0).trans rfl; have hcz11_1 : w10.cell? ⟨gb114, 1, none⟩ = some (.string (⟨#[]⟩ : ByteArray)) := (blk_cell BK114.out 1).trans rfl; have hcz11_2 : w10.cell? ⟨gb114, 2, none⟩ = some (.int .i64 0) := (blk_cell BK114.out 2).trans rfl; have hcz11_3 : w10.cell? ⟨gb114, 3, none⟩ = some (.int .i64 0) := (blk_cell BK114.out 3).trans rfl; have hfz11_0 := blk_frozen BK114.out 0; have hfz11_1 := blk_frozen BK114.out 1; have hfz11_2 := blk_frozen BK114.out 2; have hfz11_3 := blk_frozen BK114.out 3) | ((with_reducible refine gate_callee (f := 53) rfl ?_); refine goesL_ (some 23) rfl rfl Tryd.func53 (by kernel_rfl) rfl #[.string ((rd_T61 l0 a1).f1)] rfl (by (try simp only [List.map_toArray, List.map_cons, List.map_nil]); first | done | rfl | (simp only [List.length_drop, List.length_take]; rfl) | (simp only [ByteArray.size_extract, Nat.min_self]; done) | (simp only [ByteArray.size_append, StrMore.size_lit, List.length_cons, List.length_nil, Nat.zero_add, Nat.reduceAdd] <;> rfl)) ?_; (with_reducible refine (graftbedref12_Tag.calls k ((rd_T61 l0 a1).f1) true _ A6.out).mono ?_); rintro e w' ⟨rfl, ⟨nd, rfl⟩⟩; refine ⟨_, rfl, ?_⟩))
              go_ret2
              exact ⟨by first | rfl | (simp [errW_none, errW_some] <;> rfl) | (simp [*, errW_none, errW_some] <;> rfl) | (exfalso; simp only [decide_eq_true_eq, decide_eq_false_iff_not, beq_iff_eq, beq_eq_false_iff_ne] at *; first | contradiction | omega), by repeat (first | (with_reducible first | exact HB.out | apply below_alloc | apply pw_below_drewN | apply below_drew1 | refine below_set ?_ GE114.out) | exact HB.out)⟩
            · rw [if_neg c9] at H
              have c9b0 : (((rd_T61 l0 a1).f3) == 0) = false := beq_eq_false_iff_ne.mpr c9
              have c9b1 : (((rd_T61 l0 a1).f3) != 0) = true := bne_iff_ne.mpr c9
              simp only [Option.some.injEq, Prod.mk.injEq] at H
              obtain ⟨rfl, rfl⟩ := H
              have p113 : 0 ≤ (a1 : Int) := of_decide_eq_true (by first | (with_reducible assumption) | assumption)
              have q113 : a1 < (l0.length : Int) := of_decide_eq_true (by first | (with_reducible assumption) | assumption)
              obtain ⟨ad113, e113, hx113_0, hx113_1, hx113_2, hx113_3⟩ := at_T61 HR0.out a1 p113 q113
              cases e113
              replace p113 := eq_true p113
              replace q113 := eq_true q113
              go_enter Tryd.func37, Tryd.ntmps37
              go_wp2_with (first | ((with_reducible refine gate_dst (N := 6) rfl ?_); refine box_event ?hg (N := 6) ?hd (cs := #[.int .i64 0, .string (⟨#[]⟩ : ByteArray), .int .i64 0, .int .i64 0]) (t := 61) ?hr ?_; (case hd => rfl); (case hg => rfl); (case hr => first | (go_simp; done) | (go_simp; rfl)); intro gb114 hg w12 hbox hb; have n0_ := Aside0.mk (below_step (by repeat (first | (with_reducible first | exact HB.out | apply below_alloc | apply pw_below_drewN | apply below_drew1) | exact HB.out)) hb); have n1_ := Aside0.mk (hbox); have n2_ := Aside0.mk ((by rw [hg]; exact (below_size (by repeat (first | (with_reducible first | exact HB.out | apply below_alloc | apply pw_below_drewN | apply below_drew1) | exact HB.out))) : w.heap.size ≤ gb114)); have n3_ := Aside0.mk ((by rw [hg]; exact (below_size (by repeat (first | (with_reducible first | exact HB.out | apply below_alloc | apply pw_below_drewN | apply below_drew1) | exact HB.out))) : w.heap.size ≤ gb114)); clear HB; have HB := n0_; have BK114 := n1_; have GW114 := n2_; have GE114 := n3_; clear n0_ n1_ n2_ n3_; clear hb hbox hg; have hcz13_0 : w12.cell? ⟨gb114, 0, none⟩ = some (.int .i64 0) := (blk_cell BK114.out 0).trans rfl; have hcz13_1 : w12.cell? ⟨gb114, 1, none⟩ = some (.string (⟨#[]⟩ : ByteArray)) := (blk_cell BK114.out 1).trans rfl; have hcz13_2 : w12.cell? ⟨gb114, 2, none⟩ = some (.int .i64 0) := (blk_cell BK114.out 2).trans rfl; have hcz13_3 : w12.cell? ⟨gb114, 3, none⟩ = some (.int .i64 0) := (blk_cell BK114.out 3).trans rfl; have hfz13_0 := blk_frozen BK114.out 0; have hfz13_1 := blk_frozen BK114.out 1; have hfz13_2 := blk_frozen BK114.out 2; have hfz13_3 := blk_frozen BK114.out 3) | ((with_reducible refine gate_callee (f := 53) rfl ?_); refine goesL_ (some 23) rfl rfl Tryd.func53 (by kernel_rfl) rfl #[.string ((rd_T61 l0 a1).f1)] rfl (by (try simp only [List.map_toArray, List.map_cons, List.map_nil]); first | done | rfl | (simp only [List.length_drop, List.length_take]; rfl) | (simp only [ByteArray.size_extract, Nat.min_self]; done) | (simp only [ByteArray.size_append, StrMore.size_lit, List.length_cons, List.length_nil, Nat.zero_add, Nat.reduceAdd] <;> rfl)) ?_; (with_reducible refine (graftbedref12_Tag.calls k ((rd_T61 l0 a1).f1) true _ A6.out).mono ?_); rintro e w' ⟨rfl, ⟨nd, rfl⟩⟩; refine ⟨_, rfl, ?_⟩))
              go_ret2
              exact ⟨by first | rfl | (simp [errW_none, errW_some] <;> rfl) | (simp [*, errW_none, errW_some] <;> rfl) | (exfalso; simp only [decide_eq_true_eq, decide_eq_false_iff_not, beq_iff_eq, beq_eq_false_iff_ne] at *; first | contradiction | omega), by repeat (first | (with_reducible first | exact HB.out | apply below_alloc | apply pw_below_drewN | apply below_drew1 | refine below_set ?_ GE114.out) | exact HB.out)⟩
          · rw [if_neg c8] at H
            have c8b0 : (((rd_T61 l0 a1).f2) == 0) = false := beq_eq_false_iff_ne.mpr c8
            have c8b1 : (((rd_T61 l0 a1).f2) != 0) = true := bne_iff_ne.mpr c8
            simp only [Option.some.injEq, Prod.mk.injEq] at H
            obtain ⟨rfl, rfl⟩ := H
            have p113 : 0 ≤ (a1 : Int) := of_decide_eq_true (by first | (with_reducible assumption) | assumption)
            have q113 : a1 < (l0.length : Int) := of_decide_eq_true (by first | (with_reducible assumption) | assumption)
            obtain ⟨ad113, e113, hx113_0, hx113_1, hx113_2, hx113_3⟩ := at_T61 HR0.out a1 p113 q113
            cases e113
            replace p113 := eq_true p113
            replace q113 := eq_true q113
            go_enter Tryd.func37, Tryd.ntmps37
            go_wp2_with (first | ((with_reducible refine gate_dst (N := 6) rfl ?_); refine box_event ?hg (N := 6) ?hd (cs := #[.int .i64 0, .string (⟨#[]⟩ : ByteArray), .int .i64 0, .int .i64 0]) (t := 61) ?hr ?_; (case hd => rfl); (case hg => rfl); (case hr => first | (go_simp; done) | (go_simp; rfl)); intro gb114 hg w14 hbox hb; have n0_ := Aside0.mk (below_step (by repeat (first | (with_reducible first | exact HB.out | apply below_alloc | apply pw_below_drewN | apply below_drew1) | exact HB.out)) hb); have n1_ := Aside0.mk (hbox); have n2_ := Aside0.mk ((by rw [hg]; exact (below_size (by repeat (first | (with_reducible first | exact HB.out | apply below_alloc | apply pw_below_drewN | apply below_drew1) | exact HB.out))) : w.heap.size ≤ gb114)); have n3_ := Aside0.mk ((by rw [hg]; exact (below_size (by repeat (first | (with_reducible first | exact HB.out | apply below_alloc | apply pw_below_drewN | apply below_drew1) | exact HB.out))) : w.heap.size ≤ gb114)); clear HB; have HB := n0_; have BK114 := n1_; have GW114 := n2_; have GE114 := n3_; clear n0_ n1_ n2_ n3_; clear hb hbox hg; have hcz15_0 : w14.cell? ⟨gb114, 0, none⟩ = some (.int .i64 0) := (blk_cell BK114.out 0).trans rfl; have hcz15_1 : w14.cell? ⟨gb114, 1, none⟩ = some (.string (⟨#[]⟩ : ByteArray)) := (blk_cell BK114.out 1).trans rfl; have hcz15_2 : w14.cell? ⟨gb114, 2, none⟩ = some (.int .i64 0) := (blk_cell BK114.out 2).trans rfl; have hcz15_3 : w14.cell? ⟨gb114, 3, none⟩ = some (.int .i64 0) := (blk_cell BK114.out 3).trans rfl; have hfz15_0 := blk_frozen BK114.out 0; have hfz15_1 := blk_frozen BK114.out 1; have hfz15_2 := blk_frozen BK114.out 2; have hfz15_3 := blk_frozen BK114.out 3) | ((with_reducible refine gate_callee (f := 53) rfl ?_); refine goesL_ (some 23) rfl rfl Tryd.func53 (by kernel_rfl) rfl #[.string ((rd_T61 l0 a1).f1)] rfl (by (try simp only [List.map_toArray, List.map_cons, List.map_nil]); first | done | rfl | (simp only [List.length_drop, List.length_take]; rfl) | (simp only [ByteArray.size_extract, Nat.min_self]; done) | (simp only [ByteArray.size_append, StrMore.size_lit, List.length_cons, List.length_nil, Nat.zero_add, Nat.reduceAdd] <;> rfl)) ?_; (with_reducible refine (graftbedref12_Tag.calls k ((rd_T61 l0 a1).f1) true _ A6.out).mono ?_); rintro e w' ⟨rfl, ⟨nd, rfl⟩⟩; refine ⟨_, rfl, ?_⟩))
            go_ret2
            exact ⟨by first | rfl | (simp [errW_none, errW_some] <;> rfl) | (simp [*, errW_none, errW_some] <;> rfl) | (exfalso; simp only [decide_eq_true_eq, decide_eq_false_iff_not, beq_iff_eq, beq_eq_false_iff_ne] at *; first | contradiction | omega), by repeat (first | (with_reducible first | exact HB.out | apply below_alloc | apply pw_below_drewN | apply below_drew1 | refine below_set ?_ GE114.out) | exact HB.out)⟩
        · replace c7 := Bool.eq_false_iff.mpr c7
          subst c7
          have H1 : (some ((-1), 0)) = some (r1, r2) := by rw [if_neg (show ¬ (false = true) by decide)] at H; exact H
          clear H
          have H := H1
          clear H1
          simp only [Option.some.injEq, Prod.mk.injEq] at H
          obtain ⟨rfl, rfl⟩ := H
          have p113 : 0 ≤ (a1 : Int) := of_decide_eq_true (by first | (with_reducible assumption) | assumption)
          have q113 : a1 < (l0.length : Int) := of_decide_eq_true (by first | (with_reducible assumption) | assumption)
          obtain ⟨ad113, e113, hx113_0, hx113_1, hx113_2, hx113_3⟩ := at_T61 HR0.out a1 p113 q113
          cases e113
          replace p113 := eq_true p113
          replace q113 := eq_true q113
          go_enter Tryd.func37, Tryd.ntmps37
          go_wp2_with (first | ((with_reducible refine gate_dst (N := 6) rfl ?_); refine box_event ?hg (N := 6) ?hd (cs := #[.int .i64 0, .string (⟨#[]⟩ : ByteArray), .int .i64 0, .int .i64 0]) (t := 61) ?hr ?_; (case hd => rfl); (case hg => rfl); (case hr => first | (go_simp; done) | (go_simp; rfl)); intro gb114 hg w16 hbox hb; have n0_ := Aside0.mk (below_step (by repeat (first | (with_reducible first | exact HB.out | apply below_alloc | apply pw_below_drewN | apply below_drew1) | exact HB.out)) hb); have n1_ := Aside0.mk (hbox); have n2_ := Aside0.mk ((by rw [hg]; exact (below_size (by repeat (first | (with_reducible first | exact HB.out | apply below_alloc | apply pw_below_drewN | apply below_drew1) | exact HB.out))) : w.heap.size ≤ gb114)); have n3_ := Aside0.mk ((by rw [hg]; exact (below_size (by repeat (first | (with_reducible first | exact HB.out | apply below_alloc | apply pw_below_drewN | apply below_drew1) | exact HB.out))) : w.heap.size ≤ gb114)); clear HB; have HB := n0_; have BK114 := n1_; have GW114 := n2_; have GE114 := n3_; clear n0_ n1_ n2_ n3_; clear hb hbox hg; have hcz17_0 : w16.cell? ⟨gb114, 0, none⟩ = some (.int .i64 0) := (blk_cell BK114.out 0).trans rfl; have hcz17_1 : w16.cell? ⟨gb114, 1, none⟩ = some (.string (⟨#[]⟩ : ByteArray)) := (blk_cell BK114.out 1).trans rfl; have hcz17_2 : w16.cell? ⟨gb114, 2, none⟩ = some (.int .i64 0) := (blk_cell BK114.out 2).trans rfl; have hcz17_3 : w16.cell? ⟨gb114, 3, none⟩ = some (.int .i64 0) := (blk_cell BK114.out 3).trans rfl; have hfz17_0 := blk_frozen BK114.out 0; have hfz17_1 := blk_frozen BK114.out 1; have hfz17_2 := blk_frozen BK114.out 2; have hfz17_3 := blk_frozen BK114.out 3) | ((with_reducible refine gate_callee (f := 53) rfl ?_); refine goesL_ (some 23) rfl rfl Tryd.func53 (by kernel_rfl) rfl #[.string ((rd_T61 l0 a1).f1)] rfl (by (try simp only [List.map_toArray, List.map_cons, List.map_nil]); first | done | rfl | (simp only [List.length_drop, List.length_take]; rfl) | (simp only [ByteArray.size_extract, Nat.min_self]; done) | (simp only [ByteArray.size_append, StrMore.size_lit, List.length_cons, List.length_nil, Nat.zero_add, Nat.reduceAdd] <;> rfl)) ?_; (with_reducible refine (graftbedref12_Tag.calls k ((rd_T61 l0 a1).f1) false _ A6.out).mono ?_); rintro e w' ⟨rfl, ⟨nd, rfl⟩⟩; refine ⟨_, rfl, ?_⟩))
          go_ret2
          exact ⟨by first | rfl | (simp [errW_none, errW_some] <;> rfl) | (simp [*, errW_none, errW_some] <;> rfl) | (exfalso; simp only [decide_eq_true_eq, decide_eq_false_iff_not, beq_iff_eq, beq_eq_false_iff_ne] at *; first | contradiction | omega), by repeat (first | (with_reducible first | exact HB.out | apply below_alloc | apply pw_below_drewN | apply below_drew1 | refine below_set ?_ GE114.out) | exact HB.out)⟩
      · rw [if_neg c5] at H
        have c5b0 : (((rd_T61 l0 a1).f0) == 0) = false := beq_eq_false_iff_ne.mpr c5
        have c5b1 : (((rd_T61 l0 a1).f0) != 0) = true := bne_iff_ne.mpr c5
        by_cases c18 : ((rd_T61 l0 a1).f0) = 1
        · rw [if_pos c18] at H
          have c18b0 : (((rd_T61 l0 a1).f0) == 1) = true := beq_iff_eq.mpr c18
          have c18b1 : (((rd_T61 l0 a1).f0) != 1) = false := bne_eq_false_iff_eq.mpr c18
          clear c18
          by_cases c19 : ((rd_T61 l0 a1).f1).toList = ([] : List UInt8)
          · rw [if_pos c19] at H
            have c19b0 : (((rd_T61 l0 a1).f1).toList == ([] : List UInt8)) = true := beq_iff_eq.mpr c19
            have c19b1 : (((rd_T61 l0 a1).f1).toList != ([] : List UInt8)) = false := bne_eq_false_iff_eq.mpr c19
            have c19b5 : ((rd_T61 l0 a1).f1).toList.isEmpty = true := by
              have e_ := c19b1
              revert e_
              cases ((rd_T61 l0 a1).f1).toList <;> simp
            clear c19
            by_cases c20 : ((rd_T61 l0 a1).f3) = 0
            · rw [if_pos c20] at H
              have c20b0 : (((rd_T61 l0 a1).f3) == 0) = true := beq_iff_eq.mpr c20
              have c20b1 : (((rd_T61 l0 a1).f3) != 0) = false := bne_eq_false_iff_eq.mpr c20
              clear c20
              by_cases c21 : ((rd_T61 l0 a1).f2) = (wrap64 (a1 - 1))
              · rw [if_pos c21] at H
                have c21b0 : (((rd_T61 l0 a1).f2) == (wrap64 (a1 - 1))) = true := beq_iff_eq.mpr c21
                have c21b1 : (((rd_T61 l0 a1).f2) != (wrap64 (a1 - 1))) = false := bne_eq_false_iff_eq.mpr c21
                clear c21
                by_cases c22 : a1 > 0
                · rw [if_pos c22] at H
                  have c22b0 : decide (0 < a1) = true := decide_eq_true c22
                  clear c22
                  replace H := Option.bind_eq_some_iff.mp H
                  obtain ⟨⟨t116, t117⟩, A230, H⟩ := H
                  replace H : (some (t116, wrap64 (t117 + 1))) = some (r1, r2) := H
                  have A23 := Aside0.mk A230
                  clear A230
                  simp only [Option.some.injEq, Prod.mk.injEq] at H
                  obtain ⟨rfl, rfl⟩ := H
                  have p113 : 0 ≤ (a1 : Int) := of_decide_eq_true (by first | (with_reducible assumption) | assumption)
                  have q113 : a1 < (l0.length : Int) := of_decide_eq_true (by first | (with_reducible assumption) | assumption)
                  obtain ⟨ad113, e113, hx113_0, hx113_1, hx113_2, hx113_3⟩ := at_T61 HR0.out a1 p113 q113
                  cases e113
                  replace p113 := eq_true p113
                  replace q113 := eq_true q113
                  go_enter Tryd.func37, Tryd.ntmps37
                  go_wp2_with (first | ((with_reducible refine gate_dst (N := 6) rfl ?_); refine box_event ?hg (N := 6) ?hd (cs := #[.int .i64 0, .string (⟨#[]⟩ : ByteArray), .int .i64 0, .int .i64 0]) (t := 61) ?hr ?_; (case hd => rfl); (case hg => rfl); (case hr => first | (go_simp; done) | (go_simp; rfl)); intro gb114 hg w24 hbox hb; have n0_ := Aside0.mk (below_step (by repeat (first | (with_reducible first | exact HB.out | apply below_alloc | apply pw_below_drewN | apply below_drew1) | exact HB.out)) hb); have n1_ := Aside0.mk (hbox); have n2_ := Aside0.mk ((by rw [hg]; exact (below_size (by repeat (first | (with_reducible first | exact HB.out | apply below_alloc | apply pw_below_drewN | apply below_drew1) | exact HB.out))) : w.heap.size ≤ gb114)); have n3_ := Aside0.mk ((by rw [hg]; exact (below_size (by repeat (first | (with_reducible first | exact HB.out | apply below_alloc | apply pw_below_drewN | apply below_drew1) | exact HB.out))) : w.heap.size ≤ gb114)); clear HB; have HB := n0_; have BK114 := n1_; have GW114 := n2_; have GE114 := n3_; clear n0_ n1_ n2_ n3_; clear hb hbox hg; have hcz25_0 : w24.cell? ⟨gb114, 0, none⟩ = some (.int .i64 0) := (blk_cell BK114.out 0).trans rfl; have hcz25_1 : w24.cell? ⟨gb114, 1, none⟩ = some (.string (⟨#[]⟩ : ByteArray)) := (blk_cell BK114.out 1).trans rfl; have hcz25_2 : w24.cell? ⟨gb114, 2, none⟩ = some (.int .i64 0) := (blk_cell BK114.out 2).trans rfl; have hcz25_3 : w24.cell? ⟨gb114, 3, none⟩ = some (.int .i64 0) := (blk_cell BK114.out 3).trans rfl; have hfz25_0 := blk_frozen BK114.out 0; have hfz25_1 := blk_frozen BK114.out 1; have hfz25_2 := blk_frozen BK114.out 2; have hfz25_3 := blk_frozen BK114.out 3) | ((with_reducible refine gate_callee (f := 37) rfl ?_); refine goesL_ (some 60) rfl rfl Tryd.func37 (by kernel_rfl) rfl #[.slice (some ad113) l0.length c0, .int .i64 (wrap64 (a1 - 1))] rfl (by (try simp only [List.map_toArray, List.map_cons, List.map_nil]); first | done | rfl | (simp only [List.length_drop, List.length_take]; rfl) | (simp only [ByteArray.size_extract, Nat.min_self]; done) | (simp only [ByteArray.size_append, StrMore.size_lit, List.length_cons, List.length_nil, Nat.zero_add, Nat.reduceAdd] <;> rfl)) ?_; (with_reducible refine (ih k (by omega) _ _ l0 (wrap64 (a1 - 1)) t116 t117 _ ?side1 ?side2 A23.out).mono ?_); (case side1 => exact Kd.C_below HR0.out (by repeat (first | (with_reducible first | exact HB.out | apply below_alloc | apply pw_below_drewN | apply below_drew1 | refine below_set ?_ GE114.out) | exact HB.out))); (case side2 => exact HC0.out); rintro e w26 ⟨rfl, hb⟩; refine ⟨_, rfl, ?_⟩; have n0_ := Aside0.mk (blk_below (g := gb114) (o := .cells #[.int .i64 ((rd_T61 l0 a1).f0), .string ((rd_T61 l0 a1).f1), .int .i64 ((rd_T61 l0 a1).f2), .int .i64 ((rd_T61 l0 a1).f3)] 61 (0, 0)) (by (with_reducible repeat (first | refine blk_drewN ?_ _ | refine blk_drew ?_ | refine blk_alloc ?_ _)); refine blk_put (cs := #[.int .i64 ((rd_T61 l0 a1).f0), .string ((rd_T61 l0 a1).f1), .int .i64 ((rd_T61 l0 a1).f2), .int .i64 0]) ?_ 3 _ rfl; (with_reducible repeat (first | refine blk_drewN ?_ _ | refine blk_drew ?_ | refine blk_alloc ?_ _)); refine blk_put (cs := #[.int .i64 ((rd_T61 l0 a1).f0), .string ((rd_T61 l0 a1).f1), .int .i64 0, .int .i64 0]) ?_ 2 _ rfl; (with_reducible repeat (first | refine blk_drewN ?_ _ | refine blk_drew ?_ | refine blk_alloc ?_ _)); refine blk_put (cs := #[.int .i64 ((rd_T61 l0 a1).f0), .string (⟨#[]⟩ : ByteArray), .int .i64 0, .int .i64 0]) ?_ 1 _ rfl; (with_reducible repeat (first | refine blk_drewN ?_ _ | refine blk_drew ?_ | refine blk_alloc ?_ _)); refine blk_put (cs := #[.int .i64 0, .string (⟨#[]⟩ : ByteArray), .int .i64 0, .int .i64 0]) ?_ 0 _ rfl; (with_reducible repeat (first | refine blk_drewN ?_ _ | refine blk_drew ?_ | refine blk_alloc ?_ _)); exact BK114.out) hb); have n1_ := Aside0.mk (below_step (by repeat (first | (with_reducible first | exact HB.out | apply below_alloc | apply pw_below_drewN | apply below_drew1 | refine below_set ?_ GE114.out) | exact HB.out)) hb); clear BK114; clear HB; have BK114 := n0_; have HB := n1_; clear n0_ n1_; (try clear hb); (try clear hb2); (try clear hk); (try clear hi)))
                  go_ret2
                  exact ⟨by first | rfl | (simp [errW_none, errW_some] <;> rfl) | (simp [*, errW_none, errW_some] <;> rfl) | (exfalso; simp only [decide_eq_true_eq, decide_eq_false_iff_not, beq_iff_eq, beq_eq_false_iff_ne] at *; first | contradiction | omega), by repeat (first | (with_reducible first | exact HB.out | apply below_alloc | apply pw_below_drewN | apply below_drew1 | refine below_set ?_ GE114.out) | exact HB.out)⟩
                · rw [if_neg c22] at H
                  have c22b0 : decide (0 < a1) = false := decide_eq_false c22
                  clear c22
                  simp only [Option.some.injEq, Prod.mk.injEq] at H
                  obtain ⟨rfl, rfl⟩ := H
                  have p113 : 0 ≤ (a1 : Int) := of_decide_eq_true (by first | (with_reducible assumption) | assumption)
                  have q113 : a1 < (l0.length : Int) := of_decide_eq_true (by first | (with_reducible assumption) | assumption)
                  obtain ⟨ad113, e113, hx113_0, hx113_1, hx113_2, hx113_3⟩ := at_T61 HR0.out a1 p113 q113
                  cases e113
                  replace p113 := eq_true p113
                  replace q113 := eq_true q113
                  go_enter Tryd.func37, Tryd.ntmps37
                  go_wp2_with (first | ((with_reducible refine gate_dst (N := 6) rfl ?_); refine box_event ?hg (N := 6) ?hd (cs := #[.int .i64 0, .string (⟨#[]⟩ : ByteArray), .int .i64 0, .int .i64 0]) (t := 61) ?hr ?_; (case hd => rfl); (case hg => rfl); (case hr => first | (go_simp; done) | (go_simp; rfl)); intro gb114 hg w27 hbox hb; have n0_ := Aside0.mk (below_step (by repeat (first | (with_reducible first | exact HB.out | apply below_alloc | apply pw_below_drewN | apply below_drew1) | exact HB.out)) hb); have n1_ := Aside0.mk (hbox); have n2_ := Aside0.mk ((by rw [hg]; exact (below_size (by repeat (first | (with_reducible first | exact HB.out | apply below_alloc | apply pw_below_drewN | apply below_drew1) | exact HB.out))) : w.heap.size ≤ gb114)); have n3_ := Aside0.mk ((by rw [hg]; exact (below_size (by repeat (first | (with_reducible first | exact HB.out | apply below_alloc | apply pw_below_drewN | apply below_drew1) | exact HB.out))) : w.heap.size ≤ gb114)); clear HB; have HB := n0_; have BK114 := n1_; have GW114 := n2_; have GE114 := n3_; clear n0_ n1_ n2_ n3_; clear hb hbox hg; have hcz28_0 : w27.cell? ⟨gb114, 0, none⟩ = some (.int .i64 0) := (blk_cell BK114.out 0).trans rfl; have hcz28_1 : w27.cell? ⟨gb114, 1, none⟩ = some (.string (⟨#[]⟩ : ByteArray)) := (blk_cell BK114.out 1).trans rfl; have hcz28_2 : w27.cell? ⟨gb114, 2, none⟩ = some (.int .i64 0) := (blk_cell BK114.out 2).trans rfl; have hcz28_3 : w27.cell? ⟨gb114, 3, none⟩ = some (.int .i64 0) := (blk_cell BK114.out 3).trans rfl; have hfz28_0 := blk_frozen BK114.out 0; have hfz28_1 := blk_frozen BK114.out 1; have hfz28_2 := blk_frozen BK114.out 2; have hfz28_3 := blk_frozen BK114.out 3))
                  go_ret2
                  exact ⟨by first | rfl | (simp [errW_none, errW_some] <;> rfl) | (simp [*, errW_none, errW_some] <;> rfl) | (exfalso; simp only [decide_eq_true_eq, decide_eq_false_iff_not, beq_iff_eq, beq_eq_false_iff_ne] at *; first | contradiction | omega), by repeat (first | (with_reducible first | exact HB.out | apply below_alloc | apply pw_below_drewN | apply below_drew1 | refine below_set ?_ GE114.out) | exact HB.out)⟩
              · rw [if_neg c21] at H
                have c21b0 : (((rd_T61 l0 a1).f2) == (wrap64 (a1 - 1))) = false := beq_eq_false_iff_ne.mpr c21
                have c21b1 : (((rd_T61 l0 a1).f2) != (wrap64 (a1 - 1))) = true := bne_iff_ne.mpr c21
                simp only [Option.some.injEq, Prod.mk.injEq] at H
                obtain ⟨rfl, rfl⟩ := H
                have p113 : 0 ≤ (a1 : Int) := of_decide_eq_true (by first | (with_reducible assumption) | assumption)
                have q113 : a1 < (l0.length : Int) := of_decide_eq_true (by first | (with_reducible assumption) | assumption)
                obtain ⟨ad113, e113, hx113_0, hx113_1, hx113_2, hx113_3⟩ := at_T61 HR0.out a1 p113 q113
                cases e113
                replace p113 := eq_true p113
                replace q113 := eq_true q113
                go_enter Tryd.func37, Tryd.ntmps37
                go_wp2_with (first | ((with_reducible refine gate_dst (N := 6) rfl ?_); refine box_event ?hg (N := 6) ?hd (cs := #[.int .i64 0, .string (⟨#[]⟩ : ByteArray), .int .i64 0, .int .i64 0]) (t := 61) ?hr ?_; (case hd => rfl); (case hg => rfl); (case hr => first | (go_simp; done) | (go_simp; rfl)); intro gb114 hg w29 hbox hb; have n0_ := Aside0.mk (below_step (by repeat (first | (with_reducible first | exact HB.out | apply below_alloc | apply pw_below_drewN | apply below_drew1) | exact HB.out)) hb); have n1_ := Aside0.mk (hbox); have n2_ := Aside0.mk ((by rw [hg]; exact (below_size (by repeat (first | (with_reducible first | exact HB.out | apply below_alloc | apply pw_below_drewN | apply below_drew1) | exact HB.out))) : w.heap.size ≤ gb114)); have n3_ := Aside0.mk ((by rw [hg]; exact (below_size (by repeat (first | (with_reducible first | exact HB.out | apply below_alloc | apply pw_below_drewN | apply below_drew1) | exact HB.out))) : w.heap.size ≤ gb114)); clear HB; have HB := n0_; have BK114 := n1_; have GW114 := n2_; have GE114 := n3_; clear n0_ n1_ n2_ n3_; clear hb hbox hg; have hcz30_0 : w29.cell? ⟨gb114, 0, none⟩ = some (.int .i64 0) := (blk_cell BK114.out 0).trans rfl; have hcz30_1 : w29.cell? ⟨gb114, 1, none⟩ = some (.string (⟨#[]⟩ : ByteArray)) := (blk_cell BK114.out 1).trans rfl; have hcz30_2 : w29.cell? ⟨gb114, 2, none⟩ = some (.int .i64 0) := (blk_cell BK114.out 2).trans rfl; have hcz30_3 : w29.cell? ⟨gb114, 3, none⟩ = some (.int .i64 0) := (blk_cell BK114.out 3).trans rfl; have hfz30_0 := blk_frozen BK114.out 0; have hfz30_1 := blk_frozen BK114.out 1; have hfz30_2 := blk_frozen BK114.out 2; have hfz30_3 := blk_frozen BK114.out 3))
                go_ret2
                exact ⟨by first | rfl | (simp [errW_none, errW_some] <;> rfl) | (simp [*, errW_none, errW_some] <;> rfl) | (exfalso; simp only [decide_eq_true_eq, decide_eq_false_iff_not, beq_iff_eq, beq_eq_false_iff_ne] at *; first | contradiction | omega), by repeat (first | (with_reducible first | exact HB.out | apply below_alloc | apply pw_below_drewN | apply below_drew1 | refine below_set ?_ GE114.out) | exact HB.out)⟩
            · rw [if_neg c20] at H
              have c20b0 : (((rd_T61 l0 a1).f3) == 0) = false := beq_eq_false_iff_ne.mpr c20
              have c20b1 : (((rd_T61 l0 a1).f3) != 0) = true := bne_iff_ne.mpr c20
              simp only [Option.some.injEq, Prod.mk.injEq] at H
              obtain ⟨rfl, rfl⟩ := H
              have p113 : 0 ≤ (a1 : Int) := of_decide_eq_true (by first | (with_reducible assumption) | assumption)
              have q113 : a1 < (l0.length : Int) := of_decide_eq_true (by first | (with_reducible assumption) | assumption)
              obtain ⟨ad113, e113, hx113_0, hx113_1, hx113_2, hx113_3⟩ := at_T61 HR0.out a1 p113 q113
              cases e113
              replace p113 := eq_true p113
              replace q113 := eq_true q113
              go_enter Tryd.func37, Tryd.ntmps37
              go_wp2_with (first | ((with_reducible refine gate_dst (N := 6) rfl ?_); refine box_event ?hg (N := 6) ?hd (cs := #[.int .i64 0, .string (⟨#[]⟩ : ByteArray), .int .i64 0, .int .i64 0]) (t := 61) ?hr ?_; (case hd => rfl); (case hg => rfl); (case hr => first | (go_simp; done) | (go_simp; rfl)); intro gb114 hg w31 hbox hb; have n0_ := Aside0.mk (below_step (by repeat (first | (with_reducible first | exact HB.out | apply below_alloc | apply pw_below_drewN | apply below_drew1) | exact HB.out)) hb); have n1_ := Aside0.mk (hbox); have n2_ := Aside0.mk ((by rw [hg]; exact (below_size (by repeat (first | (with_reducible first | exact HB.out | apply below_alloc | apply pw_below_drewN | apply below_drew1) | exact HB.out))) : w.heap.size ≤ gb114)); have n3_ := Aside0.mk ((by rw [hg]; exact (below_size (by repeat (first | (with_reducible first | exact HB.out | apply below_alloc | apply pw_below_drewN | apply below_drew1) | exact HB.out))) : w.heap.size ≤ gb114)); clear HB; have HB := n0_; have BK114 := n1_; have GW114 := n2_; have GE114 := n3_; clear n0_ n1_ n2_ n3_; clear hb hbox hg; have hcz32_0 : w31.cell? ⟨gb114, 0, none⟩ = some (.int .i64 0) := (blk_cell BK114.out 0).trans rfl; have hcz32_1 : w31.cell? ⟨gb114, 1, none⟩ = some (.string (⟨#[]⟩ : ByteArray)) := (blk_cell BK114.out 1).trans rfl; have hcz32_2 : w31.cell? ⟨gb114, 2, none⟩ = some (.int .i64 0) := (blk_cell BK114.out 2).trans rfl; have hcz32_3 : w31.cell? ⟨gb114, 3, none⟩ = some (.int .i64 0) := (blk_cell BK114.out 3).trans rfl; have hfz32_0 := blk_frozen BK114.out 0; have hfz32_1 := blk_frozen BK114.out 1; have hfz32_2 := blk_frozen BK114.out 2; have hfz32_3 := blk_frozen BK114.out 3))
              go_ret2
              exact ⟨by first | rfl | (simp [errW_none, errW_some] <;> rfl) | (simp [*, errW_none, errW_some] <;> rfl) | (exfalso; simp only [decide_eq_true_eq, decide_eq_false_iff_not, beq_iff_eq, beq_eq_false_iff_ne] at *; first | contradiction | omega), by repeat (first | (with_reducible first | exact HB.out | apply below_alloc | apply pw_below_drewN | apply below_drew1 | refine below_set ?_ GE114.out) | exact HB.out)⟩
          · rw [if_neg c19] at H
            have c19b0 : (((rd_T61 l0 a1).f1).toList == ([] : List UInt8)) = false := beq_eq_false_iff_ne.mpr c19
            have c19b1 : (((rd_T61 l0 a1).f1).toList != ([] : List UInt8)) = true := bne_iff_ne.mpr c19
            have c19b5 : ((rd_T61 l0 a1).f1).toList.isEmpty = false := by
              have e_ := c19b1
              revert e_
              cases ((rd_T61 l0 a1).f1).toList <;> simp
            simp only [Option.some.injEq, Prod.mk.injEq] at H
            obtain ⟨rfl, rfl⟩ := H
            have p113 : 0 ≤ (a1 : Int) := of_decide_eq_true (by first | (with_reducible assumption) | assumption)
            have q113 : a1 < (l0.length : Int) := of_decide_eq_true (by first | (with_reducible assumption) | assumption)
            obtain ⟨ad113, e113, hx113_0, hx113_1, hx113_2, hx113_3⟩ := at_T61 HR0.out a1 p113 q113
            cases e113
            replace p113 := eq_true p113
            replace q113 := eq_true q113
            go_enter Tryd.func37, Tryd.ntmps37
            go_wp2_with (first | ((with_reducible refine gate_dst (N := 6) rfl ?_); refine box_event ?hg (N := 6) ?hd (cs := #[.int .i64 0, .string (⟨#[]⟩ : ByteArray), .int .i64 0, .int .i64 0]) (t := 61) ?hr ?_; (case hd => rfl); (case hg => rfl); (case hr => first | (go_simp; done) | (go_simp; rfl)); intro gb114 hg w33 hbox hb; have n0_ := Aside0.mk (below_step (by repeat (first | (with_reducible first | exact HB.out | apply below_alloc | apply pw_below_drewN | apply below_drew1) | exact HB.out)) hb); have n1_ := Aside0.mk (hbox); have n2_ := Aside0.mk ((by rw [hg]; exact (below_size (by repeat (first | (with_reducible first | exact HB.out | apply below_alloc | apply pw_below_drewN | apply below_drew1) | exact HB.out))) : w.heap.size ≤ gb114)); have n3_ := Aside0.mk ((by rw [hg]; exact (below_size (by repeat (first | (with_reducible first | exact HB.out | apply below_alloc | apply pw_below_drewN | apply below_drew1) | exact HB.out))) : w.heap.size ≤ gb114)); clear HB; have HB := n0_; have BK114 := n1_; have GW114 := n2_; have GE114 := n3_; clear n0_ n1_ n2_ n3_; clear hb hbox hg; have hcz34_0 : w33.cell? ⟨gb114, 0, none⟩ = some (.int .i64 0) := (blk_cell BK114.out 0).trans rfl; have hcz34_1 : w33.cell? ⟨gb114, 1, none⟩ = some (.string (⟨#[]⟩ : ByteArray)) := (blk_cell BK114.out 1).trans rfl; have hcz34_2 : w33.cell? ⟨gb114, 2, none⟩ = some (.int .i64 0) := (blk_cell BK114.out 2).trans rfl; have hcz34_3 : w33.cell? ⟨gb114, 3, none⟩ = some (.int .i64 0) := (blk_cell BK114.out 3).trans rfl; have hfz34_0 := blk_frozen BK114.out 0; have hfz34_1 := blk_frozen BK114.out 1; have hfz34_2 := blk_frozen BK114.out 2; have hfz34_3 := blk_frozen BK114.out 3))
            go_ret2
            exact ⟨by first | rfl | (simp [errW_none, errW_some] <;> rfl) | (simp [*, errW_none, errW_some] <;> rfl) | (exfalso; simp only [decide_eq_true_eq, decide_eq_false_iff_not, beq_iff_eq, beq_eq_false_iff_ne] at *; first | contradiction | omega), by repeat (first | (with_reducible first | exact HB.out | apply below_alloc | apply pw_below_drewN | apply below_drew1 | refine below_set ?_ GE114.out) | exact HB.out)⟩
        · rw [if_neg c18] at H
          have c18b0 : (((rd_T61 l0 a1).f0) == 1) = false := beq_eq_false_iff_ne.mpr c18
          have c18b1 : (((rd_T61 l0 a1).f0) != 1) = true := bne_iff_ne.mpr c18
          have HC35 := Aside0.mk H
          clear H
          have p113 : 0 ≤ (a1 : Int) := of_decide_eq_true (by first | (with_reducible assumption) | assumption)
          have q113 : a1 < (l0.length : Int) := of_decide_eq_true (by first | (with_reducible assumption) | assumption)
          obtain ⟨ad113, e113, hx113_0, hx113_1, hx113_2, hx113_3⟩ := at_T61 HR0.out a1 p113 q113
          cases e113
          replace p113 := eq_true p113
          replace q113 := eq_true q113
          go_enter Tryd.func37, Tryd.ntmps37
          go_upto_if 66 with (first | ((with_reducible refine gate_dst (N := 6) rfl ?_); refine box_event ?hg (N := 6) ?hd (cs := #[.int .i64 0, .string (⟨#[]⟩ : ByteArray), .int .i64 0, .int .i64 0]) (t := 61) ?hr ?_; (case hd => rfl); (case hg => rfl); (case hr => first | (go_simp; done) | (go_simp; rfl)); intro gb114 hg w36 hbox hb; have n0_ := Aside0.mk (below_step (by repeat (first | (with_reducible first | exact HB.out | apply below_alloc | apply pw_below_drewN | apply below_drew1) | exact HB.out)) hb); have n1_ := Aside0.mk (hbox); have n2_ := Aside0.mk ((by rw [hg]; exact (below_size (by repeat (first | (with_reducible first | exact HB.out | apply below_alloc | apply pw_below_drewN | apply below_drew1) | exact HB.out))) : w.heap.size ≤ gb114)); have n3_ := Aside0.mk ((by rw [hg]; exact (below_size (by repeat (first | (with_reducible first | exact HB.out | apply below_alloc | apply pw_below_drewN | apply below_drew1) | exact HB.out))) : w.heap.size ≤ gb114)); clear HB; have HB := n0_; have BK114 := n1_; have GW114 := n2_; have GE114 := n3_; clear n0_ n1_ n2_ n3_; clear hb hbox hg; have hcz37_0 : w36.cell? ⟨gb114, 0, none⟩ = some (.int .i64 0) := (blk_cell BK114.out 0).trans rfl; have hcz37_1 : w36.cell? ⟨gb114, 1, none⟩ = some (.string (⟨#[]⟩ : ByteArray)) := (blk_cell BK114.out 1).trans rfl; have hcz37_2 : w36.cell? ⟨gb114, 2, none⟩ = some (.int .i64 0) := (blk_cell BK114.out 2).trans rfl; have hcz37_3 : w36.cell? ⟨gb114, 3, none⟩ = some (.int .i64 0) := (blk_cell BK114.out 3).trans rfl; have hfz37_0 := blk_frozen BK114.out 0; have hfz37_1 := blk_frozen BK114.out 1; have hfz37_2 := blk_frozen BK114.out 2; have hfz37_3 := blk_frozen BK114.out 3))
          (try simp only [Act.put, List.setIfInBounds_toArray, List.set_cons_zero, List.set_cons_succ])
          go_cut [66] (fun v66 wc => ∃ (kq : Nat) (x66_34 : Bool), v66 = .bool x66_34 ∧ Aside0 (graftbedref12_whole.j0 kq l0 a1 x66_34 ((rd_T61 l0 a1).f0) ((rd_T61 l0 a1).f1) ((rd_T61 l0 a1).f2) ((rd_T61 l0 a1).f3) = some (r1, r2)) ∧ Aside0 (kq ≤ k) ∧ Aside0 (wc.heap[gb114]? = some (.cells #[.int .i64 ((rd_T61 l0 a1).f0), .string ((rd_T61 l0 a1).f1), .int .i64 ((rd_T61 l0 a1).f2), .int .i64 ((rd_T61 l0 a1).f3)] 61 (0, 0))) ∧ Aside0 (Below w.heap.size w wc))
          case first =>
            have H := HC35.out
            clear HC35
            by_cases c38 : ((rd_T61 l0 a1).f0) = 2
            · rw [if_pos c38] at H
              have c38b0 : (((rd_T61 l0 a1).f0) == 2) = true := beq_iff_eq.mpr c38
              have c38b1 : (((rd_T61 l0 a1).f0) != 2) = false := bne_eq_false_iff_eq.mpr c38
              clear c38
              (first | rw [c38b0] | (simp only [i64_w, i32_w]; rw [c38b0]) | skip)
              have H' := Aside0.mk H
              clear H
              go_wp2
              go_meet
              case rel => exact ⟨_, ((((rd_T61 l0 a1).f0) == 2)), (by first | rfl | (simp; done) | (simp [*]; done)), H', ⟨by first | omega | exact Nat.le_refl _⟩, ⟨by (with_reducible repeat (first | refine blk_drewN ?_ _ | refine blk_drew ?_ | refine blk_alloc ?_ _)); refine blk_put (cs := #[.int .i64 ((rd_T61 l0 a1).f0), .string ((rd_T61 l0 a1).f1), .int .i64 ((rd_T61 l0 a1).f2), .int .i64 0]) ?_ 3 _ rfl; (with_reducible repeat (first | refine blk_drewN ?_ _ | refine blk_drew ?_ | refine blk_alloc ?_ _)); refine blk_put (cs := #[.int .i64 ((rd_T61 l0 a1).f0), .string ((rd_T61 l0 a1).f1), .int .i64 0, .int .i64 0]) ?_ 2 _ rfl; (with_reducible repeat (first | refine blk_drewN ?_ _ | refine blk_drew ?_ | refine blk_alloc ?_ _)); refine blk_put (cs := #[.int .i64 ((rd_T61 l0 a1).f0), .string (⟨#[]⟩ : ByteArray), .int .i64 0, .int .i64 0]) ?_ 1 _ rfl; (with_reducible repeat (first | refine blk_drewN ?_ _ | refine blk_drew ?_ | refine blk_alloc ?_ _)); refine blk_put (cs := #[.int .i64 0, .string (⟨#[]⟩ : ByteArray), .int .i64 0, .int .i64 0]) ?_ 0 _ rfl; (with_reducible repeat (first | refine blk_drewN ?_ _ | refine blk_drew ?_ | refine blk_alloc ?_ _)); exact BK114.out⟩, ⟨by repeat (first | (with_reducible first | exact HB.out | apply below_alloc | apply pw_below_drewN | apply below_drew1 | refine below_set ?_ GE114.out) | exact HB.out)⟩⟩
            · rw [if_neg c38] at H
              have c38b0 : (((rd_T61 l0 a1).f0) == 2) = false := beq_eq_false_iff_ne.mpr c38
              have c38b1 : (((rd_T61 l0 a1).f0) != 2) = true := bne_iff_ne.mpr c38
              (first | rw [c38b0] | (simp only [i64_w, i32_w]; rw [c38b0]) | skip)
              have H' := Aside0.mk H
              clear H
              go_wp2
              go_meet
              case rel => exact ⟨_, ((((rd_T61 l0 a1).f0) == 3)), (by first | rfl | (simp; done) | (simp [*]; done)), H', ⟨by first | omega | exact Nat.le_refl _⟩, ⟨by (with_reducible repeat (first | refine blk_drewN ?_ _ | refine blk_drew ?_ | refine blk_alloc ?_ _)); refine blk_put (cs := #[.int .i64 ((rd_T61 l0 a1).f0), .string ((rd_T61 l0 a1).f1), .int .i64 ((rd_T61 l0 a1).f2), .int .i64 0]) ?_ 3 _ rfl; (with_reducible repeat (first | refine blk_drewN ?_ _ | refine blk_drew ?_ | refine blk_alloc ?_ _)); refine blk_put (cs := #[.int .i64 ((rd_T61 l0 a1).f0), .string ((rd_T61 l0 a1).f1), .int .i64 0, .int .i64 0]) ?_ 2 _ rfl; (with_reducible repeat (first | refine blk_drewN ?_ _ | refine blk_drew ?_ | refine blk_alloc ?_ _)); refine blk_put (cs := #[.int .i64 ((rd_T61 l0 a1).f0), .string (⟨#[]⟩ : ByteArray), .int .i64 0, .int .i64 0]) ?_ 1 _ rfl; (with_reducible repeat (first | refine blk_drewN ?_ _ | refine blk_drew ?_ | refine blk_alloc ?_ _)); refine blk_put (cs := #[.int .i64 0, .string (⟨#[]⟩ : ByteArray), .int .i64 0, .int .i64 0]) ?_ 0 _ rfl; (with_reducible repeat (first | refine blk_drewN ?_ _ | refine blk_drew ?_ | refine blk_alloc ?_ _)); exact BK114.out⟩, ⟨by repeat (first | (with_reducible first | exact HB.out | apply below_alloc | apply pw_below_drewN | apply below_drew1 | refine below_set ?_ GE114.out) | exact HB.out)⟩⟩
          case rest =>
            clear HC35
            try clear c1
            try clear p1
            try clear q1
            try clear hx1
            try clear c2
            try clear p2
            try clear c3
            try clear c3b0
            try clear c4
            try clear c4b0
            try clear c5
            try clear c5b0
            try clear c5b1
            try clear p6
            try clear c7
            try clear c8
            try clear c8b0
            try clear c8b1
            try clear c9
            try clear c9b0
            try clear c9b1
            try clear p11
            try clear q11
            try clear hx11
            try clear c18
            try clear c18b0
            try clear c18b1
            try clear c19
            try clear c19b0
            try clear c19b1
            try clear c20
            try clear c20b0
            try clear c20b1
            try clear c21
            try clear c21b0
            try clear c21b1
            try clear c22
            try clear c22b0
            try clear c37
            try clear c38
            try clear c38b0
            try clear c38b1
            try clear hcz11_0
            try clear hcz11_1
            try clear hcz11_2
            try clear hcz11_3
            try clear hcz13_0
            try clear hcz13_1
            try clear hcz13_2
            try clear hcz13_3
            try clear hcz15_0
            try clear hcz15_1
            try clear hcz15_2
            try clear hcz15_3
            try clear hcz17_0
            try clear hcz17_1
            try clear hcz17_2
            try clear hcz17_3
            try clear hcz25_0
            try clear hcz25_1
            try clear hcz25_2
            try clear hcz25_3
            try clear hcz28_0
            try clear hcz28_1
            try clear hcz28_2
            try clear hcz28_3
            try clear hcz30_0
            try clear hcz30_1
            try clear hcz30_2
            try clear hcz30_3
            try clear hcz32_0
            try clear hcz32_1
            try clear hcz32_2
            try clear hcz32_3
            try clear hcz34_0
            try clear hcz34_1
            try clear hcz34_2
            try clear hcz34_3
            try clear hcz37_0
            try clear hcz37_1
            try clear hcz37_2
            try clear hcz37_3
            try clear hfz11_0
            try clear hfz11_1
            try clear hfz11_2
            try clear hfz11_3
            try clear hfz13_0
            try clear hfz13_1
            try clear hfz13_2
            try clear hfz13_3
            try clear hfz15_0
            try clear hfz15_1
            try clear hfz15_2
            try clear hfz15_3
            try clear hfz17_0
            try clear hfz17_1
            try clear hfz17_2
            try clear hfz17_3
            try clear hfz25_0
            try clear hfz25_1
            try clear hfz25_2
            try clear hfz25_3
            try clear hfz28_0
            try clear hfz28_1
            try clear hfz28_2
            try clear hfz28_3
            try clear hfz30_0
            try clear hfz30_1
            try clear hfz30_2
            try clear hfz30_3
            try clear hfz32_0
            try clear hfz32_1
            try clear hfz32_2
            try clear hfz32_3
            try clear hfz34_0
            try clear hfz34_1
            try clear hfz34_2
            try clear hfz34_3
            try clear hfz37_0
            try clear hfz37_1
            try clear hfz37_2
            try clear hfz37_3
            try clear hx113_0
            try clear hx113_1
            try clear hx113_2
            try clear hx113_3
            try clear p113
            try clear q113
            obtain ⟨kq, x66_34, rfl, HA, HJ34, BK114, HB⟩ := hcut
            cases kq with
            | zero => exact absurd HA.out (by simp [graftbedref12_whole.j0])
            | succ kj34 =>
              have H := HA.out
              clear HA
              simp only [graftbedref12_whole.j0] at H
              by_cases c39 : x66_34 = true
              · subst c39
                have H1 : (if ((rd_T61 l0 a1).f1).toList = ([] : List UInt8) then (if ((rd_T61 l0 a1).f3) = (wrap64 (a1 - 1)) then (graftbedref12_whole.j1 kj34 l0 a1 (decide (a1 > 1)) ((rd_T61 l0 a1).f0) ((rd_T61 l0 a1).f1) ((rd_T61 l0 a1).f2) ((rd_T61 l0 a1).f3)) else (graftbedref12_whole.j1 kj34 l0 a1 false ((rd_T61 l0 a1).f0) ((rd_T61 l0 a1).f1) ((rd_T61 l0 a1).f2) ((rd_T61 l0 a1).f3))) else (graftbedref12_whole.j1 kj34 l0 a1 false ((rd_T61 l0 a1).f0) ((rd_T61 l0 a1).f1) ((rd_T61 l0 a1).f2) ((rd_T61 l0 a1).f3))) = some (r1, r2) := by rw [if_pos rfl] at H; exact H
                clear H
                have H := H1
                clear H1
                have HC40 := Aside0.mk H
                clear H
                go_upto_region 12 with (fail)
                go_cut [82] (fun v82 wc => ∃ (kq : Nat) (x82_39 : Bool), v82 = .bool x82_39 ∧ Aside0 (graftbedref12_whole.j1 kq l0 a1 x82_39 ((rd_T61 l0 a1).f0) ((rd_T61 l0 a1).f1) ((rd_T61 l0 a1).f2) ((rd_T61 l0 a1).f3) = some (r1, r2)) ∧ Aside0 (kq ≤ kj34) ∧ Aside0 (wc.heap[gb114]? = some (.cells #[.int .i64 ((rd_T61 l0 a1).f0), .string ((rd_T61 l0 a1).f1), .int .i64 ((rd_T61 l0 a1).f2), .int .i64 ((rd_T61 l0 a1).f3)] 61 (0, 0))) ∧ Aside0 (Below w.heap.size w wc))
                case first =>
                  have H := HC40.out
                  clear HC40
                  by_cases c41 : ((rd_T61 l0 a1).f1).toList = ([] : List UInt8)
                  · rw [if_pos c41] at H
                    have c41b0 : (((rd_T61 l0 a1).f1).toList == ([] : List UInt8)) = true := beq_iff_eq.mpr c41
                    have c41b1 : (((rd_T61 l0 a1).f1).toList != ([] : List UInt8)) = false := bne_eq_false_iff_eq.mpr c41
                    have c41b5 : ((rd_T61 l0 a1).f1).toList.isEmpty = true := by
                      have e_ := c41b1
                      revert e_
                      cases ((rd_T61 l0 a1).f1).toList <;> simp
                    clear c41
                    (first | rw [c41b0] | (simp only [i64_w, i32_w]; rw [c41b0]) | rw [c41b5] | skip)
                    by_cases c42 : ((rd_T61 l0 a1).f3) = (wrap64 (a1 - 1))
                    · rw [if_pos c42] at H
                      have c42b0 : (((rd_T61 l0 a1).f3) == (wrap64 (a1 - 1))) = true := beq_iff_eq.mpr c42
                      have c42b1 : (((rd_T61 l0 a1).f3) != (wrap64 (a1 - 1))) = false := bne_eq_false_iff_eq.mpr c42
                      clear c42
                      have H' := Aside0.mk H
                      clear H
                      have hcz43_0 : wc.cell? ⟨gb114, 0, none⟩ = some (.int .i64 ((rd_T61 l0 a1).f0)) := (blk_cell BK114.out 0).trans rfl
                      have hcz43_1 : wc.cell? ⟨gb114, 1, none⟩ = some (.string ((rd_T61 l0 a1).f1)) := (blk_cell BK114.out 1).trans rfl
                      have hcz43_2 : wc.cell? ⟨gb114, 2, none⟩ = some (.int .i64 ((rd_T61 l0 a1).f2)) := (blk_cell BK114.out 2).trans rfl
                      have hcz43_3 : wc.cell? ⟨gb114, 3, none⟩ = some (.int .i64 ((rd_T61 l0 a1).f3)) := (blk_cell BK114.out 3).trans rfl
                      have hfz43_0 := blk_frozen BK114.out 0
                      have hfz43_1 := blk_frozen BK114.out 1
                      have hfz43_2 := blk_frozen BK114.out 2
                      have hfz43_3 := blk_frozen BK114.out 3
                      go_wp2
                      go_meet
                      case rel => exact ⟨_, (decide (a1 > 1)), (by first | rfl | (simp; done) | (simp [*]; done)), H', ⟨by have := HJ34.out; first | omega | exact Nat.le_refl _⟩, ⟨by (with_reducible repeat (first | refine blk_drewN ?_ _ | refine blk_drew ?_ | refine blk_alloc ?_ _)); exact BK114.out⟩, ⟨by repeat (first | (with_reducible first | exact HB.out | apply below_alloc | apply pw_below_drewN | apply below_drew1 | refine below_set ?_ GE114.out) | exact HB.out)⟩⟩
                    · rw [if_neg c42] at H
                      have c42b0 : (((rd_T61 l0 a1).f3) == (wrap64 (a1 - 1))) = false := beq_eq_false_iff_ne.mpr c42
                      have c42b1 : (((rd_T61 l0 a1).f3) != (wrap64 (a1 - 1))) = true := bne_iff_ne.mpr c42
                      have H' := Aside0.mk H
                      clear H
                      have hcz44_0 : wc.cell? ⟨gb114, 0, none⟩ = some (.int .i64 ((rd_T61 l0 a1).f0)) := (blk_cell BK114.out 0).trans rfl
                      have hcz44_1 : wc.cell? ⟨gb114, 1, none⟩ = some (.string ((rd_T61 l0 a1).f1)) := (blk_cell BK114.out 1).trans rfl
                      have hcz44_2 : wc.cell? ⟨gb114, 2, none⟩ = some (.int .i64 ((rd_T61 l0 a1).f2)) := (blk_cell BK114.out 2).trans rfl
                      have hcz44_3 : wc.cell? ⟨gb114, 3, none⟩ = some (.int .i64 ((rd_T61 l0 a1).f3)) := (blk_cell BK114.out 3).trans rfl
                      have hfz44_0 := blk_frozen BK114.out 0
                      have hfz44_1 := blk_frozen BK114.out 1
                      have hfz44_2 := blk_frozen BK114.out 2
                      have hfz44_3 := blk_frozen BK114.out 3
                      go_wp2
                      go_meet
                      case rel => exact ⟨_, (false), (by first | rfl | (simp; done) | (simp [*]; done)), H', ⟨by have := HJ34.out; first | omega | exact Nat.le_refl _⟩, ⟨by (with_reducible repeat (first | refine blk_drewN ?_ _ | refine blk_drew ?_ | refine blk_alloc ?_ _)); exact BK114.out⟩, ⟨by repeat (first | (with_reducible first | exact HB.out | apply below_alloc | apply pw_below_drewN | apply below_drew1 | refine below_set ?_ GE114.out) | exact HB.out)⟩⟩
                  · rw [if_neg c41] at H
                    have c41b0 : (((rd_T61 l0 a1).f1).toList == ([] : List UInt8)) = false := beq_eq_false_iff_ne.mpr c41
                    have c41b1 : (((rd_T61 l0 a1).f1).toList != ([] : List UInt8)) = true := bne_iff_ne.mpr c41
                    have c41b5 : ((rd_T61 l0 a1).f1).toList.isEmpty = false := by
                      have e_ := c41b1
                      revert e_
                      cases ((rd_T61 l0 a1).f1).toList <;> simp
                    (first | rw [c41b0] | (simp only [i64_w, i32_w]; rw [c41b0]) | rw [c41b5] | skip)
                    have H' := Aside0.mk H
                    clear H
                    have hcz45_0 : wc.cell? ⟨gb114, 0, none⟩ = some (.int .i64 ((rd_T61 l0 a1).f0)) := (blk_cell BK114.out 0).trans rfl
                    have hcz45_1 : wc.cell? ⟨gb114, 1, none⟩ = some (.string ((rd_T61 l0 a1).f1)) := (blk_cell BK114.out 1).trans rfl
                    have hcz45_2 : wc.cell? ⟨gb114, 2, none⟩ = some (.int .i64 ((rd_T61 l0 a1).f2)) := (blk_cell BK114.out 2).trans rfl
                    have hcz45_3 : wc.cell? ⟨gb114, 3, none⟩ = some (.int .i64 ((rd_T61 l0 a1).f3)) := (blk_cell BK114.out 3).trans rfl
                    have hfz45_0 := blk_frozen BK114.out 0
                    have hfz45_1 := blk_frozen BK114.out 1
                    have hfz45_2 := blk_frozen BK114.out 2
                    have hfz45_3 := blk_frozen BK114.out 3
                    go_wp2
                    go_meet
                    case rel => exact ⟨_, (false), (by first | rfl | (simp; done) | (simp [*]; done)), H', ⟨by have := HJ34.out; first | omega | exact Nat.le_refl _⟩, ⟨by (with_reducible repeat (first | refine blk_drewN ?_ _ | refine blk_drew ?_ | refine blk_alloc ?_ _)); exact BK114.out⟩, ⟨by repeat (first | (with_reducible first | exact HB.out | apply below_alloc | apply pw_below_drewN | apply below_drew1 | refine below_set ?_ GE114.out) | exact HB.out)⟩⟩
                case rest =>
                  clear HC40
                  try clear c1
                  try clear p1
                  try clear q1
                  try clear hx1
                  try clear c2
                  try clear p2
                  try clear c3
                  try clear c3b0
                  try clear c4
                  try clear c4b0
                  try clear c5
                  try clear c5b0
                  try clear c5b1
                  try clear p6
                  try clear c7
                  try clear c8
                  try clear c8b0
                  try clear c8b1
                  try clear c9
                  try clear c9b0
                  try clear c9b1
                  try clear p11
                  try clear q11
                  try clear hx11
                  try clear c18
                  try clear c18b0
                  try clear c18b1
                  try clear c19
                  try clear c19b0
                  try clear c19b1
                  try clear c20
                  try clear c20b0
                  try clear c20b1
                  try clear c21
                  try clear c21b0
                  try clear c21b1
                  try clear c22
                  try clear c22b0
                  try clear c37
                  try clear c38
                  try clear c38b0
                  try clear c38b1
                  try clear c39
                  try clear c41
                  try clear c41b0
                  try clear c41b1
                  try clear c42
                  try clear c42b0
                  try clear c42b1
                  try clear hcz11_0
                  try clear hcz11_1
                  try clear hcz11_2
                  try clear hcz11_3
                  try clear hcz13_0
                  try clear hcz13_1
                  try clear hcz13_2
                  try clear hcz13_3
                  try clear hcz15_0
                  try clear hcz15_1
                  try clear hcz15_2
                  try clear hcz15_3
                  try clear hcz17_0
                  try clear hcz17_1
                  try clear hcz17_2
                  try clear hcz17_3
                  try clear hcz25_0
                  try clear hcz25_1
                  try clear hcz25_2
                  try clear hcz25_3
                  try clear hcz28_0
                  try clear hcz28_1
                  try clear hcz28_2
                  try clear hcz28_3
                  try clear hcz30_0
                  try clear hcz30_1
                  try clear hcz30_2
                  try clear hcz30_3
                  try clear hcz32_0
                  try clear hcz32_1
                  try clear hcz32_2
                  try clear hcz32_3
                  try clear hcz34_0
                  try clear hcz34_1
                  try clear hcz34_2
                  try clear hcz34_3
                  try clear hcz37_0
                  try clear hcz37_1
                  try clear hcz37_2
                  try clear hcz37_3
                  try clear hcz43_0
                  try clear hcz43_1
                  try clear hcz43_2
                  try clear hcz43_3
                  try clear hcz44_0
                  try clear hcz44_1
                  try clear hcz44_2
                  try clear hcz44_3
                  try clear hcz45_0
                  try clear hcz45_1
                  try clear hcz45_2
                  try clear hcz45_3
                  try clear hfz11_0
                  try clear hfz11_1
                  try clear hfz11_2
                  try clear hfz11_3
                  try clear hfz13_0
                  try clear hfz13_1
                  try clear hfz13_2
                  try clear hfz13_3
                  try clear hfz15_0
                  try clear hfz15_1
                  try clear hfz15_2
                  try clear hfz15_3
                  try clear hfz17_0
                  try clear hfz17_1
                  try clear hfz17_2
                  try clear hfz17_3
                  try clear hfz25_0
                  try clear hfz25_1
                  try clear hfz25_2
                  try clear hfz25_3
                  try clear hfz28_0
                  try clear hfz28_1
                  try clear hfz28_2
                  try clear hfz28_3
                  try clear hfz30_0
                  try clear hfz30_1
                  try clear hfz30_2
                  try clear hfz30_3
                  try clear hfz32_0
                  try clear hfz32_1
                  try clear hfz32_2
                  try clear hfz32_3
                  try clear hfz34_0
                  try clear hfz34_1
                  try clear hfz34_2
                  try clear hfz34_3
                  try clear hfz37_0
                  try clear hfz37_1
                  try clear hfz37_2
                  try clear hfz37_3
                  try clear hfz43_0
                  try clear hfz43_1
                  try clear hfz43_2
                  try clear hfz43_3
                  try clear hfz44_0
                  try clear hfz44_1
                  try clear hfz44_2
                  try clear hfz44_3
                  try clear hfz45_0
                  try clear hfz45_1
                  try clear hfz45_2
                  try clear hfz45_3
                  try clear hx113_0
                  try clear hx113_1
                  try clear hx113_2
                  try clear hx113_3
                  try clear p1
                  try clear p11
                  try clear p113
                  try clear p2
                  try clear p6
                  try clear q1
                  try clear q11
                  try clear q113
                  obtain ⟨kq, x82_39, rfl, HA, HJ39, BK114, HB⟩ := hcut
                  cases kq with
                  | zero => exact absurd HA.out (by simp [graftbedref12_whole.j1])
                  | succ kj39 =>
                    have H := HA.out
                    clear HA
                    simp only [graftbedref12_whole.j1] at H
                    by_cases c46 : x82_39 = true
                    · subst c46
                      have H1 : ((graftbedref12_whole.f kj39 l0 (wrap64 (a1 - 1))).bind fun bt118 => (if bt118.1 > 0 then (if ((rd_T61 l0 a1).f2) = (wrap64 (bt118.1 - 1)) then ((graftbedref12_whole.f kj39 l0 (wrap64 (bt118.1 - 1))).bind fun bt120 => (some (bt120.1, wrap64 ((mx bt118.2 bt120.2) + 1)))) else (some ((-1), 0))) else (some ((-1), 0)))) = some (r1, r2) := by rw [if_pos rfl] at H; exact H
                      clear H
                      have H := H1
                      clear H1
                      replace H := Option.bind_eq_some_iff.mp H
                      obtain ⟨⟨t118, t119⟩, A470, H⟩ := H
                      replace H : (if t118 > 0 then (if ((rd_T61 l0 a1).f2) = (wrap64 (t118 - 1)) then ((graftbedref12_whole.f kj39 l0 (wrap64 (t118 - 1))).bind fun bt120 => (some (bt120.1, wrap64 ((mx t119 bt120.2) + 1)))) else (some ((-1), 0))) else (some ((-1), 0))) = some (r1, r2) := H
                      have A47 := Aside0.mk A470
                      clear A470
                      by_cases c48 : t118 > 0
                      · rw [if_pos c48] at H
                        have c48b0 : decide (0 < t118) = true := decide_eq_true c48
                        clear c48
                        by_cases c49 : ((rd_T61 l0 a1).f2) = (wrap64 (t118 - 1))
                        · rw [if_pos c49] at H
                          have c49b0 : (((rd_T61 l0 a1).f2) == (wrap64 (t118 - 1))) = true := beq_iff_eq.mpr c49
                          have c49b1 : (((rd_T61 l0 a1).f2) != (wrap64 (t118 - 1))) = false := bne_eq_false_iff_eq.mpr c49
                          clear c49
                          replace H := Option.bind_eq_some_iff.mp H
                          obtain ⟨⟨t120, t121⟩, A500, H⟩ := H
                          replace H : (some (t120, wrap64 ((mx t119 t121) + 1))) = some (r1, r2) := H
                          have A50 := Aside0.mk A500
                          clear A500
                          obtain ⟨ji51, hji51⟩ : ∃ j_ : Int, (mx t119 t121) = j_ := ⟨_, rfl⟩
                          replace H : (some (t120, wrap64 ((ji51) + 1))) = some (r1, r2) := by first | (rw [hji51] at H; exact H) | (simp only [hji51] at H ⊢; exact H)
                          (try rw [hji51] at A47)
                          (try rw [hji51] at A50)
                          have hji51_ : (if t119 < t121 then t121 else t119) = ji51 := hji51
                          simp only [Option.some.injEq, Prod.mk.injEq] at H
                          obtain ⟨rfl, rfl⟩ := H
                          go_wp2_with (first | ((with_reducible refine gate_callee (f := 37) rfl ?_); refine goesL_ (some 87) rfl rfl Tryd.func37 (by kernel_rfl) rfl #[.slice (some ad113) l0.length c0, .int .i64 (wrap64 (a1 - 1))] rfl (by (try simp only [List.map_toArray, List.map_cons, List.map_nil]); first | done | rfl | (simp only [List.length_drop, List.length_take]; rfl) | (simp only [ByteArray.size_extract, Nat.min_self]; done) | (simp only [ByteArray.size_append, StrMore.size_lit, List.length_cons, List.length_nil, Nat.zero_add, Nat.reduceAdd] <;> rfl)) ?_; (with_reducible refine (ih kj39 (by have := HJ34.out; have := HJ39.out; omega) _ _ l0 (wrap64 (a1 - 1)) t118 t119 _ ?side1 ?side2 A47.out).mono ?_); (case side1 => repeat (first | exact (Kd.C_below HR0.out HB.out) | (with_reducible refine Kd.C_alloc ?_ _) | (with_reducible refine Kd.C_drewN ?_ _) | (with_reducible refine Kd.C_drew ?_))); (case side2 => exact HC0.out); rintro e w52 ⟨rfl, hb⟩; refine ⟨_, rfl, ?_⟩; have n0_ := Aside0.mk (blk_below (g := gb114) (o := .cells #[.int .i64 ((rd_T61 l0 a1).f0), .string ((rd_T61 l0 a1).f1), .int .i64 ((rd_T61 l0 a1).f2), .int .i64 ((rd_T61 l0 a1).f3)] 61 (0, 0)) (by (with_reducible repeat (first | refine blk_drewN ?_ _ | refine blk_drew ?_ | refine blk_alloc ?_ _)); exact BK114.out) hb); have n1_ := Aside0.mk (below_step (by repeat (first | (with_reducible first | exact HB.out | apply below_alloc | apply pw_below_drewN | apply below_drew1 | refine below_set ?_ GE114.out) | exact HB.out)) hb); clear BK114; clear HB; have BK114 := n0_; have HB := n1_; clear n0_ n1_; (try clear hb); (try clear hb2); (try clear hk); (try clear hi); have hcz53_0 : w52.cell? ⟨gb114, 0, none⟩ = some (.int .i64 ((rd_T61 l0 a1).f0)) := (blk_cell BK114.out 0).trans rfl; have hcz53_1 : w52.cell? ⟨gb114, 1, none⟩ = some (.string ((rd_T61 l0 a1).f1)) := (blk_cell BK114.out 1).trans rfl; have hcz53_2 : w52.cell? ⟨gb114, 2, none⟩ = some (.int .i64 ((rd_T61 l0 a1).f2)) := (blk_cell BK114.out 2).trans rfl; have hcz53_3 : w52.cell? ⟨gb114, 3, none⟩ = some (.int .i64 ((rd_T61 l0 a1).f3)) := (blk_cell BK114.out 3).trans rfl; have hfz53_0 := blk_frozen BK114.out 0; have hfz53_1 := blk_frozen BK114.out 1; have hfz53_2 := blk_frozen BK114.out 2; have hfz53_3 := blk_frozen BK114.out 3) | ((with_reducible refine gate_callee (f := 37) rfl ?_); refine goesL_ (some 103) rfl rfl Tryd.func37 (by kernel_rfl) rfl #[.slice (some ad113) l0.length c0, .int .i64 (wrap64 (t118 - 1))] rfl (by (try simp only [List.map_toArray, List.map_cons, List.map_nil]); first | done | rfl | (simp only [List.length_drop, List.length_take]; rfl) | (simp only [ByteArray.size_extract, Nat.min_self]; done) | (simp only [ByteArray.size_append, StrMore.size_lit, List.length_cons, List.length_nil, Nat.zero_add, Nat.reduceAdd] <;> rfl)) ?_; (with_reducible refine (ih kj39 (by have := HJ34.out; have := HJ39.out; omega) _ _ l0 (wrap64 (t118 - 1)) t120 t121 _ ?side1 ?side2 A50.out).mono ?_); (case side1 => repeat (first | exact (Kd.C_below HR0.out HB.out) | (with_reducible refine Kd.C_alloc ?_ _) | (with_reducible refine Kd.C_drewN ?_ _) | (with_reducible refine Kd.C_drew ?_))); (case side2 => exact HC0.out); rintro e w54 ⟨rfl, hb⟩; refine ⟨_, rfl, ?_⟩; have n0_ := Aside0.mk (blk_below (g := gb114) (o := .cells #[.int .i64 ((rd_T61 l0 a1).f0), .string ((rd_T61 l0 a1).f1), .int .i64 ((rd_T61 l0 a1).f2), .int .i64 ((rd_T61 l0 a1).f3)] 61 (0, 0)) (by (with_reducible repeat (first | refine blk_drewN ?_ _ | refine blk_drew ?_ | refine blk_alloc ?_ _)); exact BK114.out) hb); have n1_ := Aside0.mk (below_step (by repeat (first | (with_reducible first | exact HB.out | apply below_alloc | apply pw_below_drewN | apply below_drew1 | refine below_set ?_ GE114.out) | exact HB.out)) hb); clear BK114; clear HB; have BK114 := n0_; have HB := n1_; clear n0_ n1_; (try clear hb); (try clear hb2); (try clear hk); (try clear hi)))
                          go_ret2
                          exact ⟨by first | rfl | (simp [errW_none, errW_some] <;> rfl) | (simp only [← hji51]; first | rfl | (simp [errW_none, errW_some] <;> rfl)) | (simp [*, errW_none, errW_some] <;> rfl), by repeat (first | (with_reducible first | exact HB.out | apply below_alloc | apply pw_below_drewN | apply below_drew1 | refine below_set ?_ GE114.out) | exact HB.out)⟩
                        · rw [if_neg c49] at H
                          have c49b0 : (((rd_T61 l0 a1).f2) == (wrap64 (t118 - 1))) = false := beq_eq_false_iff_ne.mpr c49
                          have c49b1 : (((rd_T61 l0 a1).f2) != (wrap64 (t118 - 1))) = true := bne_iff_ne.mpr c49
                          simp only [Option.some.injEq, Prod.mk.injEq] at H
                          obtain ⟨rfl, rfl⟩ := H
                          go_wp2_with (first | ((with_reducible refine gate_callee (f := 37) rfl ?_); refine goesL_ (some 87) rfl rfl Tryd.func37 (by kernel_rfl) rfl #[.slice (some ad113) l0.length c0, .int .i64 (wrap64 (a1 - 1))] rfl (by (try simp only [List.map_toArray, List.map_cons, List.map_nil]); first | done | rfl | (simp only [List.length_drop, List.length_take]; rfl) | (simp only [ByteArray.size_extract, Nat.min_self]; done) | (simp only [ByteArray.size_append, StrMore.size_lit, List.length_cons, List.length_nil, Nat.zero_add, Nat.reduceAdd] <;> rfl)) ?_; (with_reducible refine (ih kj39 (by have := HJ34.out; have := HJ39.out; omega) _ _ l0 (wrap64 (a1 - 1)) t118 t119 _ ?side1 ?side2 A47.out).mono ?_); (case side1 => repeat (first | exact (Kd.C_below HR0.out HB.out) | (with_reducible refine Kd.C_alloc ?_ _) | (with_reducible refine Kd.C_drewN ?_ _) | (with_reducible refine Kd.C_drew ?_))); (case side2 => exact HC0.out); rintro e w55 ⟨rfl, hb⟩; refine ⟨_, rfl, ?_⟩; have n0_ := Aside0.mk (blk_below (g := gb114) (o := .cells #[.int .i64 ((rd_T61 l0 a1).f0), .string ((rd_T61 l0 a1).f1), .int .i64 ((rd_T61 l0 a1).f2), .int .i64 ((rd_T61 l0 a1).f3)] 61 (0, 0)) (by (with_reducible repeat (first | refine blk_drewN ?_ _ | refine blk_drew ?_ | refine blk_alloc ?_ _)); exact BK114.out) hb); have n1_ := Aside0.mk (below_step (by repeat (first | (with_reducible first | exact HB.out | apply below_alloc | apply pw_below_drewN | apply below_drew1 | refine below_set ?_ GE114.out) | exact HB.out)) hb); clear BK114; clear HB; have BK114 := n0_; have HB := n1_; clear n0_ n1_; (try clear hb); (try clear hb2); (try clear hk); (try clear hi); have hcz56_0 : w55.cell? ⟨gb114, 0, none⟩ = some (.int .i64 ((rd_T61 l0 a1).f0)) := (blk_cell BK114.out 0).trans rfl; have hcz56_1 : w55.cell? ⟨gb114, 1, none⟩ = some (.string ((rd_T61 l0 a1).f1)) := (blk_cell BK114.out 1).trans rfl; have hcz56_2 : w55.cell? ⟨gb114, 2, none⟩ = some (.int .i64 ((rd_T61 l0 a1).f2)) := (blk_cell BK114.out 2).trans rfl; have hcz56_3 : w55.cell? ⟨gb114, 3, none⟩ = some (.int .i64 ((rd_T61 l0 a1).f3)) := (blk_cell BK114.out 3).trans rfl; have hfz56_0 := blk_frozen BK114.out 0; have hfz56_1 := blk_frozen BK114.out 1; have hfz56_2 := blk_frozen BK114.out 2; have hfz56_3 := blk_frozen BK114.out 3))
                          go_ret2
                          exact ⟨by first | rfl | (simp [errW_none, errW_some] <;> rfl) | (simp [*, errW_none, errW_some] <;> rfl) | (exfalso; simp only [decide_eq_true_eq, decide_eq_false_iff_not, beq_iff_eq, beq_eq_false_iff_ne] at *; first | contradiction | omega), by repeat (first | (with_reducible first | exact HB.out | apply below_alloc | apply pw_below_drewN | apply below_drew1 | refine below_set ?_ GE114.out) | exact HB.out)⟩
                      · rw [if_neg c48] at H
                        have c48b0 : decide (0 < t118) = false := decide_eq_false c48
                        clear c48
                        simp only [Option.some.injEq, Prod.mk.injEq] at H
                        obtain ⟨rfl, rfl⟩ := H
                        go_wp2_with (first | ((with_reducible refine gate_callee (f := 37) rfl ?_); refine goesL_ (some 87) rfl rfl Tryd.func37 (by kernel_rfl) rfl #[.slice (some ad113) l0.length c0, .int .i64 (wrap64 (a1 - 1))] rfl (by (try simp only [List.map_toArray, List.map_cons, List.map_nil]); first | done | rfl | (simp only [List.length_drop, List.length_take]; rfl) | (simp only [ByteArray.size_extract, Nat.min_self]; done) | (simp only [ByteArray.size_append, StrMore.size_lit, List.length_cons, List.length_nil, Nat.zero_add, Nat.reduceAdd] <;> rfl)) ?_; (with_reducible refine (ih kj39 (by have := HJ34.out; have := HJ39.out; omega) _ _ l0 (wrap64 (a1 - 1)) t118 t119 _ ?side1 ?side2 A47.out).mono ?_); (case side1 => repeat (first | exact (Kd.C_below HR0.out HB.out) | (with_reducible refine Kd.C_alloc ?_ _) | (with_reducible refine Kd.C_drewN ?_ _) | (with_reducible refine Kd.C_drew ?_))); (case side2 => exact HC0.out); rintro e w57 ⟨rfl, hb⟩; refine ⟨_, rfl, ?_⟩; have n0_ := Aside0.mk (blk_below (g := gb114) (o := .cells #[.int .i64 ((rd_T61 l0 a1).f0), .string ((rd_T61 l0 a1).f1), .int .i64 ((rd_T61 l0 a1).f2), .int .i64 ((rd_T61 l0 a1).f3)] 61 (0, 0)) (by (with_reducible repeat (first | refine blk_drewN ?_ _ | refine blk_drew ?_ | refine blk_alloc ?_ _)); exact BK114.out) hb); have n1_ := Aside0.mk (below_step (by repeat (first | (with_reducible first | exact HB.out | apply below_alloc | apply pw_below_drewN | apply below_drew1 | refine below_set ?_ GE114.out) | exact HB.out)) hb); clear BK114; clear HB; have BK114 := n0_; have HB := n1_; clear n0_ n1_; (try clear hb); (try clear hb2); (try clear hk); (try clear hi)))
                        go_ret2
                        exact ⟨by first | rfl | (simp [errW_none, errW_some] <;> rfl) | (simp [*, errW_none, errW_some] <;> rfl) | (exfalso; simp only [decide_eq_true_eq, decide_eq_false_iff_not, beq_iff_eq, beq_eq_false_iff_ne] at *; first | contradiction | omega), by repeat (first | (with_reducible first | exact HB.out | apply below_alloc | apply pw_below_drewN | apply below_drew1 | refine below_set ?_ GE114.out) | exact HB.out)⟩
                    · replace c46 := Bool.eq_false_iff.mpr c46
                      subst c46
                      have H1 : (some ((-1), 0)) = some (r1, r2) := by rw [if_neg (show ¬ (false = true) by decide)] at H; exact H
                      clear H
                      have H := H1
                      clear H1
                      simp only [Option.some.injEq, Prod.mk.injEq] at H
                      obtain ⟨rfl, rfl⟩ := H
                      go_wp2
                      go_ret2
                      exact ⟨by first | rfl | (simp [errW_none, errW_some] <;> rfl) | (simp [*, errW_none, errW_some] <;> rfl) | (exfalso; simp only [decide_eq_true_eq, decide_eq_false_iff_not, beq_iff_eq, beq_eq_false_iff_ne] at *; first | contradiction | omega), by repeat (first | (with_reducible first | exact HB.out | apply below_alloc | apply pw_below_drewN | apply below_drew1 | refine below_set ?_ GE114.out) | exact HB.out)⟩
              · replace c39 := Bool.eq_false_iff.mpr c39
                subst c39
                have H1 : (some ((-1), 0)) = some (r1, r2) := by rw [if_neg (show ¬ (false = true) by decide)] at H; exact H
                clear H
                have H := H1
                clear H1
                simp only [Option.some.injEq, Prod.mk.injEq] at H
                obtain ⟨rfl, rfl⟩ := H
                go_wp2
                go_ret2
                exact ⟨by first | rfl | (simp [errW_none, errW_some] <;> rfl) | (simp [*, errW_none, errW_some] <;> rfl) | (exfalso; simp only [decide_eq_true_eq, decide_eq_false_iff_not, beq_iff_eq, beq_eq_false_iff_ne] at *; first | contradiction | omega), by repeat (first | (with_reducible first | exact HB.out | apply below_alloc | apply pw_below_drewN | apply below_drew1 | refine below_set ?_ GE114.out) | exact HB.out)⟩
    · rw [if_neg c4] at H
      exact absurd H (by simp)
  · rw [if_neg c3] at H
    exact absurd H (by simp)

end Go.Proofs.YtjndccjpjknbkaaDoor.PEx

-- by hprint.py (wip/): the kit's print over contracts proved by hand; a text of this session
namespace Go.Proofs.YtjndccjpjknbkaaDoor.PEx
open Go.RowKit Go.Proofs.YtjndccjpjknbkaaDoorW.PrintWords Go.Proofs.YtjndccjpjknbkaaDoorW.PrintLast Go.Proofs.YtjndccjpjknbkaaDoorW.PrintMore
attribute [local go_sem] max2_int min2_int max_two min_two max_three min_three max_four min_four   -- for this text's walks alone
set_option linter.unusedVariables false
set_option linter.unusedSimpArgs false

/-! ### graftbedref12_Check: function 15 -/
def graftbedref12_Check.j0 : Nat → List (S61) → Bool → Option (Int)
  | 0, _, _ => none
  | k + 1, x0, x12 => if x12 = true then (some 120) else ((graftbedref12_whole.f k x0 (wrap64 ((x0.length : Int) - 1))).bind fun bt122 => (if bt122.1 = 0 then (if bt122.2 > 40 then (some 120) else (some 0)) else (some 120)))
def graftbedref12_Check.f (k : Nat) (l0 : List (S61)) : Option (Int) := if (l0.length : Int) < 1 then (graftbedref12_Check.j0 k l0 true) else (graftbedref12_Check.j0 k l0 (decide ((l0.length : Int) > 60)))
theorem graftbedref12_Check.mono_l : ∀ k, (∀ y0 y1, LeO (graftbedref12_Check.j0 k y0 y1) (graftbedref12_Check.j0 (k + 1) y0 y1))
  | 0 => fun _ _ r h => by simp [graftbedref12_Check.j0] at h
  | k + 1 => by
    have ih0 := graftbedref12_Check.mono_l k
    · intro y0 y1
      unfold graftbedref12_Check.j0
      repeat' first
      | (with_reducible exact ih0 _ _)
      | (with_reducible exact graftbedref12_whole.mono _ _ _)
      | (with_reducible exact LeO.refl _)
      | (with_reducible exact LeO.none _)
      | (with_reducible refine LeO.ite ?_ ?_)
      | (with_reducible refine LeO.bind ?_ (fun _ => ?_))
      | exact ih0 _ _
      | exact graftbedref12_whole.mono _ _ _
      | exact LeO.none _
      | refine LeO.ite ?_ ?_
      | refine LeO.bind ?_ (fun _ => ?_)
theorem graftbedref12_Check.mono : ∀ a0 k, LeO (graftbedref12_Check.f k a0) (graftbedref12_Check.f (k + 1) a0) := by
  intro a0 k
  have ih0 := graftbedref12_Check.mono_l k
  unfold graftbedref12_Check.f
  repeat' first
      | (with_reducible exact ih0 _ _)
      | (with_reducible exact graftbedref12_whole.mono _ _ _)
      | (with_reducible exact LeO.refl _)
      | (with_reducible exact LeO.none _)
      | (with_reducible refine LeO.ite ?_ ?_)
      | (with_reducible refine LeO.bind ?_ (fun _ => ?_))
      | exact ih0 _ _
      | exact graftbedref12_whole.mono _ _ _
      | exact LeO.none _
      | refine LeO.ite ?_ ?_
      | refine LeO.bind ?_ (fun _ => ?_)
set_option maxHeartbeats 8000000 in
set_option maxRecDepth 100000 in
theorem graftbedref12_Check.calls (k : Nat) (A0 : Option Addr) (c0 : Nat) (l0 : List (S61)) (r : Int) (w : World) (hr0 : Kd.C k61 w A0 l0.length l0) (hc0 : l0.length ≤ c0) (h : graftbedref12_Check.f k l0 = some r) :
    Calls Tryd.prog 15 #[.slice A0 l0.length c0] w fun e w' => e = .returned (.int .i64 r) ∧ Below w.heap.size w w' := by
  have HR0 := Aside0.mk hr0
  have HC0 := Aside0.mk hc0
  clear hr0 hc0
  have HB := Aside0.mk (Below.refl w.heap.size w)
  have H : (if (l0.length : Int) < 1 then (graftbedref12_Check.j0 k l0 true) else (graftbedref12_Check.j0 k l0 (decide ((l0.length : Int) > 60)))) = some r := h
  clear h
  have HC2 := Aside0.mk H
  clear H
  go_enter Tryd.func15, Tryd.ntmps15
  go_upto_region 1 with (fail)
  go_cut [12] (fun v12 wc => ∃ (kq : Nat) (x12_1 : Bool), v12 = .bool x12_1 ∧ Aside0 (graftbedref12_Check.j0 kq l0 x12_1 = some r) ∧ Aside0 (kq ≤ k) ∧ Aside0 (Below w.heap.size w wc))
  case first =>
    have H := HC2.out
    clear HC2
    by_cases c3 : (l0.length : Int) < 1
    · rw [if_pos c3] at H
      have c3b0 : decide ((l0.length : Int) < 1) = true := decide_eq_true c3
      have c3b1 : decide (l0.length < 1) = true := decide_eq_true (by omega)
      clear c3
      (first | rw [c3b0] | (simp only [i64_w, i32_w]; rw [c3b0]) | skip)
      have H' := Aside0.mk H
      clear H
      go_wp2
      go_meet
      case rel => exact ⟨_, (true), (by first | rfl | (simp; done) | (simp [*]; done)), H', ⟨by first | omega | exact Nat.le_refl _⟩, ⟨by repeat (first | (with_reducible first | exact HB.out | apply below_alloc | apply pw_below_drewN | apply below_drew1) | exact HB.out)⟩⟩
    · rw [if_neg c3] at H
      have c3b0 : decide ((l0.length : Int) < 1) = false := decide_eq_false c3
      have c3b1 : decide (l0.length < 1) = false := decide_eq_false (by omega)
      clear c3
      (first | rw [c3b0] | (simp only [i64_w, i32_w]; rw [c3b0]) | skip)
      have H' := Aside0.mk H
      clear H
      go_wp2
      go_meet
      case rel => exact ⟨_, (decide ((l0.length : Int) > 60)), (by first | rfl | (simp; done) | (simp [*]; done)), H', ⟨by first | omega | exact Nat.le_refl _⟩, ⟨by repeat (first | (with_reducible first | exact HB.out | apply below_alloc | apply pw_below_drewN | apply below_drew1) | exact HB.out)⟩⟩
  case rest =>
    clear HC2
    try clear c1
    try clear p2
    try clear c3
    try clear c3b0
    try clear c3b1
    obtain ⟨kq, x12_1, rfl, HA, HJ1, HB⟩ := hcut
    cases kq with
    | zero => exact absurd HA.out (by simp [graftbedref12_Check.j0])
    | succ kj1 =>
      have H := HA.out
      clear HA
      simp only [graftbedref12_Check.j0] at H
      by_cases c4 : x12_1 = true
      · subst c4
        have H1 : (some 120) = some r := by rw [if_pos rfl] at H; exact H
        clear H
        have H := H1
        clear H1
        obtain rfl := Option.some.inj H
        go_wp2
        go_ret
        exact ⟨by first | rfl | (simp [errW_none, errW_some] <;> rfl) | (simp [*, errW_none, errW_some] <;> rfl) | (exfalso; simp only [decide_eq_true_eq, decide_eq_false_iff_not, beq_iff_eq, beq_eq_false_iff_ne] at *; first | contradiction | omega), by repeat (first | (with_reducible first | exact HB.out | apply below_alloc | apply pw_below_drewN | apply below_drew1) | exact HB.out)⟩
      · replace c4 := Bool.eq_false_iff.mpr c4
        subst c4
        have H1 : ((graftbedref12_whole.f kj1 l0 (wrap64 ((l0.length : Int) - 1))).bind fun bt122 => (if bt122.1 = 0 then (if bt122.2 > 40 then (some 120) else (some 0)) else (some 120))) = some r := by rw [if_neg (show ¬ (false = true) by decide)] at H; exact H
        clear H
        have H := H1
        clear H1
        replace H := Option.bind_eq_some_iff.mp H
        obtain ⟨⟨t122, t123⟩, A50, H⟩ := H
        replace H : (if t122 = 0 then (if t123 > 40 then (some 120) else (some 0)) else (some 120)) = some r := H
        have A5 := Aside0.mk A50
        clear A50
        by_cases c6 : t122 = 0
        · rw [if_pos c6] at H
          have c6b0 : (t122 == 0) = true := beq_iff_eq.mpr c6
          have c6b1 : (t122 != 0) = false := bne_eq_false_iff_eq.mpr c6
          clear c6
          by_cases c7 : t123 > 40
          · rw [if_pos c7] at H
            have c7b0 : decide (40 < t123) = true := decide_eq_true c7
            clear c7
            obtain rfl := Option.some.inj H
            go_wp2_with (first | ((with_reducible refine gate_callee (f := 37) rfl ?_); refine goesL_ (some 18) rfl rfl Tryd.func37 (by kernel_rfl) rfl #[.slice A0 l0.length c0, .int .i64 (wrap64 ((l0.length : Int) - 1))] rfl (by (try simp only [List.map_toArray, List.map_cons, List.map_nil]); first | done | rfl | (simp only [List.length_drop, List.length_take]; rfl) | (simp only [ByteArray.size_extract, Nat.min_self]; done) | (simp only [ByteArray.size_append, StrMore.size_lit, List.length_cons, List.length_nil, Nat.zero_add, Nat.reduceAdd] <;> rfl)) ?_; (with_reducible refine (graftbedref12_whole.calls kj1 _ _ l0 (wrap64 ((l0.length : Int) - 1)) t122 t123 _ ?side1 ?side2 A5.out).mono ?_); (case side1 => repeat (first | exact (Kd.C_below HR0.out HB.out) | (with_reducible refine Kd.C_alloc ?_ _) | (with_reducible refine Kd.C_drewN ?_ _) | (with_reducible refine Kd.C_drew ?_))); (case side2 => exact HC0.out); rintro e w8 ⟨rfl, hb⟩; refine ⟨_, rfl, ?_⟩; have n0_ := Aside0.mk (below_step (by repeat (first | (with_reducible first | exact HB.out | apply below_alloc | apply pw_below_drewN | apply below_drew1) | exact HB.out)) hb); clear HB; have HB := n0_; clear n0_; (try clear hb); (try clear hb2); (try clear hk); (try clear hi)))
            go_ret
            exact ⟨by first | rfl | (simp [errW_none, errW_some] <;> rfl) | (simp [*, errW_none, errW_some] <;> rfl) | (exfalso; simp only [decide_eq_true_eq, decide_eq_false_iff_not, beq_iff_eq, beq_eq_false_iff_ne] at *; first | contradiction | omega), by repeat (first | (with_reducible first | exact HB.out | apply below_alloc | apply pw_below_drewN | apply below_drew1) | exact HB.out)⟩
          · rw [if_neg c7] at H
            have c7b0 : decide (40 < t123) = false := decide_eq_false c7
            clear c7
            obtain rfl := Option.some.inj H
            go_wp2_with (first | ((with_reducible refine gate_callee (f := 37) rfl ?_); refine goesL_ (some 18) rfl rfl Tryd.func37 (by kernel_rfl) rfl #[.slice A0 l0.length c0, .int .i64 (wrap64 ((l0.length : Int) - 1))] rfl (by (try simp only [List.map_toArray, List.map_cons, List.map_nil]); first | done | rfl | (simp only [List.length_drop, List.length_take]; rfl) | (simp only [ByteArray.size_extract, Nat.min_self]; done) | (simp only [ByteArray.size_append, StrMore.size_lit, List.length_cons, List.length_nil, Nat.zero_add, Nat.reduceAdd] <;> rfl)) ?_; (with_reducible refine (graftbedref12_whole.calls kj1 _ _ l0 (wrap64 ((l0.length : Int) - 1)) t122 t123 _ ?side1 ?side2 A5.out).mono ?_); (case side1 => repeat (first | exact (Kd.C_below HR0.out HB.out) | (with_reducible refine Kd.C_alloc ?_ _) | (with_reducible refine Kd.C_drewN ?_ _) | (with_reducible refine Kd.C_drew ?_))); (case side2 => exact HC0.out); rintro e w9 ⟨rfl, hb⟩; refine ⟨_, rfl, ?_⟩; have n0_ := Aside0.mk (below_step (by repeat (first | (with_reducible first | exact HB.out | apply below_alloc | apply pw_below_drewN | apply below_drew1) | exact HB.out)) hb); clear HB; have HB := n0_; clear n0_; (try clear hb); (try clear hb2); (try clear hk); (try clear hi)))
            go_ret
            exact ⟨by first | rfl | (simp [errW_none, errW_some] <;> rfl) | (simp [*, errW_none, errW_some] <;> rfl) | (exfalso; simp only [decide_eq_true_eq, decide_eq_false_iff_not, beq_iff_eq, beq_eq_false_iff_ne] at *; first | contradiction | omega), by repeat (first | (with_reducible first | exact HB.out | apply below_alloc | apply pw_below_drewN | apply below_drew1) | exact HB.out)⟩
        · rw [if_neg c6] at H
          have c6b0 : (t122 == 0) = false := beq_eq_false_iff_ne.mpr c6
          have c6b1 : (t122 != 0) = true := bne_iff_ne.mpr c6
          obtain rfl := Option.some.inj H
          go_wp2_with (first | ((with_reducible refine gate_callee (f := 37) rfl ?_); refine goesL_ (some 18) rfl rfl Tryd.func37 (by kernel_rfl) rfl #[.slice A0 l0.length c0, .int .i64 (wrap64 ((l0.length : Int) - 1))] rfl (by (try simp only [List.map_toArray, List.map_cons, List.map_nil]); first | done | rfl | (simp only [List.length_drop, List.length_take]; rfl) | (simp only [ByteArray.size_extract, Nat.min_self]; done) | (simp only [ByteArray.size_append, StrMore.size_lit, List.length_cons, List.length_nil, Nat.zero_add, Nat.reduceAdd] <;> rfl)) ?_; (with_reducible refine (graftbedref12_whole.calls kj1 _ _ l0 (wrap64 ((l0.length : Int) - 1)) t122 t123 _ ?side1 ?side2 A5.out).mono ?_); (case side1 => repeat (first | exact (Kd.C_below HR0.out HB.out) | (with_reducible refine Kd.C_alloc ?_ _) | (with_reducible refine Kd.C_drewN ?_ _) | (with_reducible refine Kd.C_drew ?_))); (case side2 => exact HC0.out); rintro e w10 ⟨rfl, hb⟩; refine ⟨_, rfl, ?_⟩; have n0_ := Aside0.mk (below_step (by repeat (first | (with_reducible first | exact HB.out | apply below_alloc | apply pw_below_drewN | apply below_drew1) | exact HB.out)) hb); clear HB; have HB := n0_; clear n0_; (try clear hb); (try clear hb2); (try clear hk); (try clear hi)))
          go_ret
          exact ⟨by first | rfl | (simp [errW_none, errW_some] <;> rfl) | (simp [*, errW_none, errW_some] <;> rfl) | (exfalso; simp only [decide_eq_true_eq, decide_eq_false_iff_not, beq_iff_eq, beq_eq_false_iff_ne] at *; first | contradiction | omega), by repeat (first | (with_reducible first | exact HB.out | apply below_alloc | apply pw_below_drewN | apply below_drew1) | exact HB.out)⟩

end Go.Proofs.YtjndccjpjknbkaaDoor.PEx

-- by hprint.py (wip/): the kit's print over contracts proved by hand; a text of this session
namespace Go.Proofs.YtjndccjpjknbkaaDoor.PEx
open Go.RowKit Go.Proofs.YtjndccjpjknbkaaDoorW.PrintWords Go.Proofs.YtjndccjpjknbkaaDoorW.PrintLast Go.Proofs.YtjndccjpjknbkaaDoorW.PrintMore
attribute [local go_sem] max2_int min2_int max_two min_two max_three min_three max_four min_four   -- for this text's walks alone
set_option linter.unusedVariables false
set_option linter.unusedSimpArgs false

/-! ### expr_Any: function 18 -/
def expr_Any.enc (x : S52) : ExNode.Nd := ⟨x.f0, x.f1, x.f2, x.f3⟩
def expr_Any.tagsOk (l0 : List (S52)) : Bool := l0.all fun x => decide (x.f1.size ≤ 4611686018427387904)
def expr_Any.f (l0 : List (S52)) : Option Bool := if expr_Any.tagsOk l0 = true then some (ExSem.anyF (l0.map expr_Any.enc)) else none
theorem expr_Any.tags_of {l0 : List (S52)} (h : expr_Any.tagsOk l0 = true) : ∀ x ∈ l0, (expr_Any.enc x).tag.size ≤ 4611686018427387904 := fun x hx => of_decide_eq_true (List.all_eq_true.1 h x hx)
theorem expr_Any.calls (A0 : Option Addr) (c0 : Nat) (l0 : List (S52)) (r : Bool) (w : World) (hr0 : Kd.C k52 w A0 l0.length l0) (hc0 : l0.length ≤ c0) (h : expr_Any.f l0 = some r) :
    Calls Tryd.prog 18 #[.slice A0 l0.length c0] w fun e w' => e = .returned (.bool r) ∧ Below w.heap.size w w' := by
  unfold expr_Any.f at h
  by_cases h1 : expr_Any.tagsOk l0 = true
  · rw [if_pos h1] at h
    obtain rfl := Option.some.inj h
    exact ExAny.Any_calls k52 rfl expr_Any.enc (fun h => k52_open h) A0 c0 l0 w hr0 (expr_Any.tags_of h1)
  · rw [if_neg h1] at h
    cases h

end Go.Proofs.YtjndccjpjknbkaaDoor.PEx

-- by hprint.py (wip/): the kit's print over contracts proved by hand; a text of this session
namespace Go.Proofs.YtjndccjpjknbkaaDoor.PEx
open Go.RowKit Go.Proofs.YtjndccjpjknbkaaDoorW.PrintWords Go.Proofs.YtjndccjpjknbkaaDoorW.PrintLast Go.Proofs.YtjndccjpjknbkaaDoorW.PrintMore
attribute [local go_sem] max2_int min2_int max_two min_two max_three min_three max_four min_four   -- for this text's walks alone
set_option linter.unusedVariables false
set_option linter.unusedSimpArgs false

/-! ### graftbedlaw12_heavy: function 11 -/
def graftbedlaw12_heavy.l0 : Nat → List (S52) → Int → Option (Bool)
  | 0, _, _ => none
  | k + 1, x0, x3 => if x3 < (x0.length : Int) then (if 0 ≤ x3 then (if (((rd_T52 x0 x3).f1).size : Int) > 100 then (some true) else (graftbedlaw12_heavy.l0 k x0 (wrap64 (x3 + 1)))) else (none)) else (some false)
def graftbedlaw12_heavy.f (k : Nat) (l0 : List (S52)) : Option (Bool) := if (l0.length : Int) > 70 then (some true) else (graftbedlaw12_heavy.l0 k l0 0)
theorem graftbedlaw12_heavy.mono_l : ∀ k, (∀ y0 y1, LeO (graftbedlaw12_heavy.l0 k y0 y1) (graftbedlaw12_heavy.l0 (k + 1) y0 y1))
  | 0 => fun _ _ r h => by simp [graftbedlaw12_heavy.l0] at h
  | k + 1 => by
    have ih0 := graftbedlaw12_heavy.mono_l k
    · intro y0 y1
      unfold graftbedlaw12_heavy.l0
      repeat' first
      | (with_reducible exact ih0 _ _)
      | (with_reducible exact LeO.refl _)
      | (with_reducible exact LeO.none _)
      | (with_reducible refine LeO.ite ?_ ?_)
      | (with_reducible refine LeO.bind ?_ (fun _ => ?_))
      | exact ih0 _ _
      | exact LeO.none _
      | refine LeO.ite ?_ ?_
      | refine LeO.bind ?_ (fun _ => ?_)
theorem graftbedlaw12_heavy.mono : ∀ a0 k, LeO (graftbedlaw12_heavy.f k a0) (graftbedlaw12_heavy.f (k + 1) a0) := by
  intro a0 k
  have ih0 := graftbedlaw12_heavy.mono_l k
  unfold graftbedlaw12_heavy.f
  repeat' first
      | (with_reducible exact ih0 _ _)
      | (with_reducible exact LeO.refl _)
      | (with_reducible exact LeO.none _)
      | (with_reducible refine LeO.ite ?_ ?_)
      | (with_reducible refine LeO.bind ?_ (fun _ => ?_))
      | exact ih0 _ _
      | exact LeO.none _
      | refine LeO.ite ?_ ?_
      | refine LeO.bind ?_ (fun _ => ?_)
set_option maxHeartbeats 8000000 in
set_option maxRecDepth 100000 in
theorem graftbedlaw12_heavy.calls (k : Nat) (A0 : Option Addr) (c0 : Nat) (l0 : List (S52)) (r : Bool) (w : World) (hr0 : Kd.C k52 w A0 l0.length l0) (hc0 : l0.length ≤ c0) (h : graftbedlaw12_heavy.f k l0 = some r) :
    Calls Tryd.prog 11 #[.slice A0 l0.length c0] w fun e w' => e = .returned (.bool r) ∧ Drawn0 w w' := by
  have HR0 := Aside0.mk hr0
  have HC0 := Aside0.mk hc0
  clear hr0 hc0
  have H : (if (l0.length : Int) > 70 then (some true) else (graftbedlaw12_heavy.l0 k l0 0)) = some r := h
  clear h
  by_cases c2 : (l0.length : Int) > 70
  · rw [if_pos c2] at H
    have c2b0 : decide (70 < (l0.length : Int)) = true := decide_eq_true c2
    have c2b1 : decide (70 < l0.length) = true := decide_eq_true (by omega)
    clear c2
    obtain rfl := Option.some.inj H
    go_enter Tryd.func11, Tryd.ntmps11
    go_wp2
    go_ret
    exact ⟨by first | rfl | (simp; done) | (simp [*]; done) | (have ne_ : ∀ l : List UInt8, (l != []) = !l.isEmpty := (fun l => by cases l <;> rfl); simp [ne_]; done), by repeat (first | exact Drawn0.refl _ | apply Drawn0.step)⟩
  · rw [if_neg c2] at H
    have c2b0 : decide (70 < (l0.length : Int)) = false := decide_eq_false c2
    have c2b1 : decide (70 < l0.length) = false := decide_eq_false (by omega)
    clear c2
    have H' := Aside0.mk H
    clear H
    go_enter Tryd.func11, Tryd.ntmps11
    go_wp2
    go_loopg [3] k (fun kq v3 w' => ∃ (x3_1 : Int), v3 = .int .i64 x3_1 ∧ Aside0 (graftbedlaw12_heavy.l0 kq l0 x3_1 = some r) ∧ Aside0 (kq ≤ k) ∧ Drawn0 w w')
    case atStart => exact ⟨(0), (by first | rfl | (simp; done) | (simp [*]; done)), H', ⟨Nat.le_refl _⟩, by repeat (first | exact Drawn0.refl _ | apply Drawn0.step)⟩
    case round =>
      clear H'
      try clear c1
      try clear c2
      try clear c2b0
      try clear c2b1
      try clear p2
      obtain ⟨x3_1, rfl, HA, HK1, ⟨m1, rfl⟩⟩ := hrel
      cases gk with
      | zero => exact absurd HA.out (by simp [graftbedlaw12_heavy.l0])
      | succ k1 =>
        have H := HA.out
        clear HA
        simp only [graftbedlaw12_heavy.l0] at H
        by_cases c3 : x3_1 < (l0.length : Int)
        · rw [if_pos c3] at H
          have c3b0 : decide (x3_1 < (l0.length : Int)) = true := decide_eq_true c3
          clear c3
          by_cases c4 : 0 ≤ x3_1
          · rw [if_pos c4] at H
            have c4b0 : decide (0 ≤ x3_1) = true := decide_eq_true c4
            clear c4
            by_cases c5 : (((rd_T52 l0 x3_1).f1).size : Int) > 100
            · rw [if_pos c5] at H
              have c5b0 : decide (100 < (((rd_T52 l0 x3_1).f1).size : Int)) = true := decide_eq_true c5
              have c5b1 : decide (100 < ((rd_T52 l0 x3_1).f1).size) = true := decide_eq_true (by omega)
              clear c5
              obtain rfl := Option.some.inj H
              have p101 : 0 ≤ (x3_1 : Int) := of_decide_eq_true (by first | (with_reducible assumption) | assumption)
              have q101 : x3_1 < (l0.length : Int) := of_decide_eq_true (by first | (with_reducible assumption) | assumption)
              obtain ⟨ad101, e101, hx101_0, hx101_1, hx101_2, hx101_3⟩ := at_T52 HR0.out x3_1 p101 q101
              cases e101
              replace p101 := eq_true p101
              replace q101 := eq_true q101
              go_wp2
              go_ret
              exact ⟨by first | rfl | (simp; done) | (simp [*]; done) | (have ne_ : ∀ l : List UInt8, (l != []) = !l.isEmpty := (fun l => by cases l <;> rfl); simp [ne_]; done), by repeat (first | exact Drawn0.refl _ | apply Drawn0.step)⟩
            · rw [if_neg c5] at H
              have c5b0 : decide (100 < (((rd_T52 l0 x3_1).f1).size : Int)) = false := decide_eq_false c5
              have c5b1 : decide (100 < ((rd_T52 l0 x3_1).f1).size) = false := decide_eq_false (by omega)
              clear c5
              have H' := Aside0.mk H
              clear H
              have p101 : 0 ≤ (x3_1 : Int) := of_decide_eq_true (by first | (with_reducible assumption) | assumption)
              have q101 : x3_1 < (l0.length : Int) := of_decide_eq_true (by first | (with_reducible assumption) | assumption)
              obtain ⟨ad101, e101, hx101_0, hx101_1, hx101_2, hx101_3⟩ := at_T52 HR0.out x3_1 p101 q101
              cases e101
              replace p101 := eq_true p101
              replace q101 := eq_true q101
              go_wp2
              go_roundg k1
              case measure => have := HK1.out; omega
              case rel => exact ⟨(wrap64 (x3_1 + 1)), (by first | rfl | (simp; done) | (simp [*]; done)), H', ⟨by have := HK1.out; omega⟩, by repeat (first | exact Drawn0.refl _ | apply Drawn0.step)⟩
          · rw [if_neg c4] at H
            exact absurd H (by simp)
        · rw [if_neg c3] at H
          have c3b0 : decide (x3_1 < (l0.length : Int)) = false := decide_eq_false c3
          clear c3
          obtain rfl := Option.some.inj H
          go_wp2
          go_ret
          exact ⟨by first | rfl | (simp; done) | (simp [*]; done) | (have ne_ : ∀ l : List UInt8, (l != []) = !l.isEmpty := (fun l => by cases l <;> rfl); simp [ne_]; done), by repeat (first | exact Drawn0.refl _ | apply Drawn0.step)⟩

end Go.Proofs.YtjndccjpjknbkaaDoor.PEx
