/- Printed parts, put together. -/
import Derived.Test.YtmocfgghccmdgaaMpa
import Derived.Test.YtmocfgghccmdgaaMpb
import Derived.Test.YtmocfgghccmdgaaMpc
import Derived.Test.YtmocfgghccmdgaaMpd
-- by hprint.py (wip/): the kit's print over contracts proved by hand; a text of this session
namespace Go.Proofs.Ytmocfgghccmdgaa.PTr
open Go.RowKit Go.Proofs.YtmocfgghccmdgaaW.PrintWords Go.Proofs.YtmocfgghccmdgaaW.PrintLast Go.Proofs.YtmocfgghccmdgaaW.PrintMore
attribute [local go_sem] max2_int min2_int max_two min_two max_three min_three max_four min_four   -- for this text's walks alone
set_option linter.unusedVariables false
set_option linter.unusedSimpArgs false

attribute [local go_sem high] eqA24 eqA37
/-! ### graftbedlaw02_TreeMerges: function 5 -/
mutual
def graftbedlaw02_TreeMerges.j0 : Nat → List (S24) → List (S24) → Bool → Option (Bool)
  | 0, _, _, _ => none
  | k + 1, x0, x1, x27 => if x27 = true then ((graftbedlaw02_shown.f).bind fun t342 => (some t342)) else ((graftbedlaw02_grown.f k x0).bind fun t343 => ((graftbedlaw02_grown.f k x1).bind fun t346 => ((tree_Merge.f t343 t346).bind fun bt349 => ((graftbedref02_Merge.f k t343 t346).bind fun bt356 => (if (!(bt349.2.1 == bt356.2.1) || (!(bt349.2.2.1.toList == bt356.2.2.1.toList) || (!(bt349.2.2.2 == bt356.2.2.2)))) = true then (graftbedlaw02_TreeMerges.j1 k t343 t346 bt349.1 true bt349.2.1 bt349.2.2.1 bt349.2.2.2) else ((graftbedref02_Same.f k bt349.1 bt356.1).bind fun t363 => (graftbedlaw02_TreeMerges.j1 k t343 t346 bt349.1 (!t363) bt349.2.1 bt349.2.2.1 bt349.2.2.2)))))))
def graftbedlaw02_TreeMerges.j1 : Nat → List (S24) → List (S24) → List (S24) → Bool → Int → ByteArray → Int → Option (Bool)
  | 0, _, _, _, _, _, _, _ => none
  | k + 1, x5, x6, x7, x53, x356000, x356001, x356002 => if x53 = true then (some false) else (if (!(x356000 == 0) || (!(x356001.toList == ([] : List UInt8)) || (!(x356002 == 0)))) = true then (some ((x7.length : Int) == 0)) else ((tree_Merge.f x6 x5).bind fun bt364 => (graftbedlaw02_TreeMerges.l0 k x5 x6 x7 bt364.1 0 bt364.2.1 bt364.2.2.1 bt364.2.2.2)))
def graftbedlaw02_TreeMerges.l0 : Nat → List (S24) → List (S24) → List (S24) → List (S24) → Int → Int → ByteArray → Int → Option (Bool)
  | 0, _, _, _, _, _, _, _, _ => none
  | k + 1, x5, x6, x7, x11, x13, x371000, x371001, x371002 => if x13 < (x7.length : Int) then (if 0 ≤ x13 then ((graftbedref02_Find.f k x5 ((rd_T24 x7 x13).f0)).bind fun bt376 => ((graftbedref02_Find.f k x6 ((rd_T24 x7 x13).f0)).bind fun bt379 => (if bt376.2 = true then (if bt376.1.toList = ((rd_T24 x7 x13).f1).toList then (if bt379.2 = true then (if bt379.1.toList = ((rd_T24 x7 x13).f1).toList then (graftbedlaw02_TreeMerges.l0 k x5 x6 x7 x11 (wrap64 (x13 + 1)) x371000 x371001 x371002) else (some false)) else (graftbedlaw02_TreeMerges.l0 k x5 x6 x7 x11 (wrap64 (x13 + 1)) x371000 x371001 x371002)) else (some false)) else (if bt379.2 = true then (if bt379.1.toList = ((rd_T24 x7 x13).f1).toList then (graftbedlaw02_TreeMerges.l0 k x5 x6 x7 x11 (wrap64 (x13 + 1)) x371000 x371001 x371002) else (some false)) else (some false))))) else (none)) else (if (x371000 == 0 && (x371001.toList == ([] : List UInt8) && (x371002 == 0))) = true then ((graftbedref02_Same.f k x7 x11).bind fun t371 => (if t371 = true then ((tree_Check.f k x7).bind fun bt372 => (if (bt372.1 == 0 && (bt372.2.1.toList == ([] : List UInt8) && (bt372.2.2 == 0))) = true then (if (x7.length : Int) ≥ (x5.length : Int) then (some (decide ((x7.length : Int) ≥ (x6.length : Int)))) else (some false)) else (some false))) else (some false))) else (some false))
end
def graftbedlaw02_TreeMerges.f (k : Nat) (l0 : List (S24)) (l1 : List (S24)) : Option (Bool) := (graftbedlaw02_heavy.f k l0).bind fun t339 => (if t339 = true then (graftbedlaw02_TreeMerges.j0 k l0 l1 true) else ((graftbedlaw02_heavy.f k l1).bind fun t340 => (if t340 = true then (graftbedlaw02_TreeMerges.j0 k l0 l1 true) else ((graftbedlaw02_shown.f).bind fun t341 => (graftbedlaw02_TreeMerges.j0 k l0 l1 (!t341))))))
theorem graftbedlaw02_TreeMerges.mono_l : ∀ k, (∀ y0 y1 y2, LeO (graftbedlaw02_TreeMerges.j0 k y0 y1 y2) (graftbedlaw02_TreeMerges.j0 (k + 1) y0 y1 y2)) ∧ (∀ y0 y1 y2 y3 y4 y5 y6, LeO (graftbedlaw02_TreeMerges.j1 k y0 y1 y2 y3 y4 y5 y6) (graftbedlaw02_TreeMerges.j1 (k + 1) y0 y1 y2 y3 y4 y5 y6)) ∧ (∀ y0 y1 y2 y3 y4 y5 y6 y7, LeO (graftbedlaw02_TreeMerges.l0 k y0 y1 y2 y3 y4 y5 y6 y7) (graftbedlaw02_TreeMerges.l0 (k + 1) y0 y1 y2 y3 y4 y5 y6 y7))
  | 0 => ⟨fun _ _ _ r h => by simp [graftbedlaw02_TreeMerges.j0] at h, fun _ _ _ _ _ _ _ r h => by simp [graftbedlaw02_TreeMerges.j1] at h, fun _ _ _ _ _ _ _ _ r h => by simp [graftbedlaw02_TreeMerges.l0] at h⟩
  | k + 1 => by
    obtain ⟨ih0, ih1, ih2⟩ := graftbedlaw02_TreeMerges.mono_l k
    refine ⟨?_, ?_, ?_⟩
    · intro y0 y1 y2
      unfold graftbedlaw02_TreeMerges.j0
      repeat' first
      | (with_reducible exact ih0 _ _ _)
      | (with_reducible exact ih1 _ _ _ _ _ _ _)
      | (with_reducible exact ih2 _ _ _ _ _ _ _ _)
      | (with_reducible exact graftbedlaw02_grown.mono _ _)
      | (with_reducible exact graftbedlaw02_heavy.mono _ _)
      | (with_reducible exact graftbedref02_Find.mono _ _ _)
      | (with_reducible exact graftbedref02_Merge.mono _ _ _)
      | (with_reducible exact graftbedref02_Same.mono _ _ _)
      | (with_reducible exact tree_Check.mono _ _)
      | (with_reducible exact LeO.refl _)
      | (with_reducible exact LeO.none _)
      | (with_reducible refine LeO.ite ?_ ?_)
      | (with_reducible refine LeO.bind ?_ (fun _ => ?_))
      | exact ih0 _ _ _
      | exact ih1 _ _ _ _ _ _ _
      | exact ih2 _ _ _ _ _ _ _ _
      | exact graftbedlaw02_grown.mono _ _
      | exact graftbedlaw02_heavy.mono _ _
      | exact graftbedref02_Find.mono _ _ _
      | exact graftbedref02_Merge.mono _ _ _
      | exact graftbedref02_Same.mono _ _ _
      | exact tree_Check.mono _ _
      | exact LeO.none _
      | refine LeO.ite ?_ ?_
      | refine LeO.bind ?_ (fun _ => ?_)
    · intro y0 y1 y2 y3 y4 y5 y6
      unfold graftbedlaw02_TreeMerges.j1
      repeat' first
      | (with_reducible exact ih0 _ _ _)
      | (with_reducible exact ih1 _ _ _ _ _ _ _)
      | (with_reducible exact ih2 _ _ _ _ _ _ _ _)
      | (with_reducible exact graftbedlaw02_grown.mono _ _)
      | (with_reducible exact graftbedlaw02_heavy.mono _ _)
      | (with_reducible exact graftbedref02_Find.mono _ _ _)
      | (with_reducible exact graftbedref02_Merge.mono _ _ _)
      | (with_reducible exact graftbedref02_Same.mono _ _ _)
      | (with_reducible exact tree_Check.mono _ _)
      | (with_reducible exact LeO.refl _)
      | (with_reducible exact LeO.none _)
      | (with_reducible refine LeO.ite ?_ ?_)
      | (with_reducible refine LeO.bind ?_ (fun _ => ?_))
      | exact ih0 _ _ _
      | exact ih1 _ _ _ _ _ _ _
      | exact ih2 _ _ _ _ _ _ _ _
      | exact graftbedlaw02_grown.mono _ _
      | exact graftbedlaw02_heavy.mono _ _
      | exact graftbedref02_Find.mono _ _ _
      | exact graftbedref02_Merge.mono _ _ _
      | exact graftbedref02_Same.mono _ _ _
      | exact tree_Check.mono _ _
      | exact LeO.none _
      | refine LeO.ite ?_ ?_
      | refine LeO.bind ?_ (fun _ => ?_)
    · intro y0 y1 y2 y3 y4 y5 y6 y7
      unfold graftbedlaw02_TreeMerges.l0
      repeat' first
      | (with_reducible exact ih0 _ _ _)
      | (with_reducible exact ih1 _ _ _ _ _ _ _)
      | (with_reducible exact ih2 _ _ _ _ _ _ _ _)
      | (with_reducible exact graftbedlaw02_grown.mono _ _)
      | (with_reducible exact graftbedlaw02_heavy.mono _ _)
      | (with_reducible exact graftbedref02_Find.mono _ _ _)
      | (with_reducible exact graftbedref02_Merge.mono _ _ _)
      | (with_reducible exact graftbedref02_Same.mono _ _ _)
      | (with_reducible exact tree_Check.mono _ _)
      | (with_reducible exact LeO.refl _)
      | (with_reducible exact LeO.none _)
      | (with_reducible refine LeO.ite ?_ ?_)
      | (with_reducible refine LeO.bind ?_ (fun _ => ?_))
      | exact ih0 _ _ _
      | exact ih1 _ _ _ _ _ _ _
      | exact ih2 _ _ _ _ _ _ _ _
      | exact graftbedlaw02_grown.mono _ _
      | exact graftbedlaw02_heavy.mono _ _
      | exact graftbedref02_Find.mono _ _ _
      | exact graftbedref02_Merge.mono _ _ _
      | exact graftbedref02_Same.mono _ _ _
      | exact tree_Check.mono _ _
      | exact LeO.none _
      | refine LeO.ite ?_ ?_
      | refine LeO.bind ?_ (fun _ => ?_)
theorem graftbedlaw02_TreeMerges.mono : ∀ a0 a1 k, LeO (graftbedlaw02_TreeMerges.f k a0 a1) (graftbedlaw02_TreeMerges.f (k + 1) a0 a1) := by
  intro a0 a1 k
  obtain ⟨ih0, ih1, ih2⟩ := graftbedlaw02_TreeMerges.mono_l k
  unfold graftbedlaw02_TreeMerges.f
  repeat' first
      | (with_reducible exact ih0 _ _ _)
      | (with_reducible exact ih1 _ _ _ _ _ _ _)
      | (with_reducible exact ih2 _ _ _ _ _ _ _ _)
      | (with_reducible exact graftbedlaw02_grown.mono _ _)
      | (with_reducible exact graftbedlaw02_heavy.mono _ _)
      | (with_reducible exact graftbedref02_Find.mono _ _ _)
      | (with_reducible exact graftbedref02_Merge.mono _ _ _)
      | (with_reducible exact graftbedref02_Same.mono _ _ _)
      | (with_reducible exact tree_Check.mono _ _)
      | (with_reducible exact LeO.refl _)
      | (with_reducible exact LeO.none _)
      | (with_reducible refine LeO.ite ?_ ?_)
      | (with_reducible refine LeO.bind ?_ (fun _ => ?_))
      | exact ih0 _ _ _
      | exact ih1 _ _ _ _ _ _ _
      | exact ih2 _ _ _ _ _ _ _ _
      | exact graftbedlaw02_grown.mono _ _
      | exact graftbedlaw02_heavy.mono _ _
      | exact graftbedref02_Find.mono _ _ _
      | exact graftbedref02_Merge.mono _ _ _
      | exact graftbedref02_Same.mono _ _ _
      | exact tree_Check.mono _ _
      | exact LeO.none _
      | refine LeO.ite ?_ ?_
      | refine LeO.bind ?_ (fun _ => ?_)
set_option maxHeartbeats 8000000 in
set_option maxRecDepth 100000 in
theorem graftbedlaw02_TreeMerges.calls (k : Nat) (A0 : Option Addr) (c0 : Nat) (l0 : List (S24)) (A1 : Option Addr) (c1 : Nat) (l1 : List (S24)) (r : Bool) (hr_ : Aside0 (r = true)) (w : World) (hr0 : Kd.C k24 w A0 l0.length l0) (hc0 : l0.length ≤ c0) (hr1 : Kd.C k24 w A1 l1.length l1) (hc1 : l1.length ≤ c1) (h : graftbedlaw02_TreeMerges.f k l0 l1 = some r) :
    Calls Try.prog 5 #[.slice A0 l0.length c0, .slice A1 l1.length c1] w fun e w' => e = .returned (.bool r) ∧ Below w.heap.size w w' := by
  have hu37 := Try.underlying37
  have HR0 := Aside0.mk hr0
  have HC0 := Aside0.mk hc0
  clear hr0 hc0
  have HR1 := Aside0.mk hr1
  have HC1 := Aside0.mk hc1
  clear hr1 hc1
  have HB := Aside0.mk (Below.refl w.heap.size w)
  have H : ((graftbedlaw02_heavy.f k l0).bind fun t339 => (if t339 = true then (graftbedlaw02_TreeMerges.j0 k l0 l1 true) else ((graftbedlaw02_heavy.f k l1).bind fun t340 => (if t340 = true then (graftbedlaw02_TreeMerges.j0 k l0 l1 true) else ((graftbedlaw02_shown.f).bind fun t341 => (graftbedlaw02_TreeMerges.j0 k l0 l1 (!t341))))))) = some r := h
  clear h
  have HC3 := Aside0.mk H
  clear H
  go_enter Try.func5, Try.ntmps5
  go_upto_region 1 with (fail)
  go_cut [27] (fun v27 wc => ∃ (kq : Nat) (x27_2 : Bool), v27 = .bool x27_2 ∧ Aside0 (graftbedlaw02_TreeMerges.j0 kq l0 l1 x27_2 = some r) ∧ Aside0 (kq ≤ k) ∧ Aside0 (Below w.heap.size w wc))
  case first =>
    have H := HC3.out
    clear HC3
    replace H := Option.bind_eq_some_iff.mp H
    obtain ⟨t339, A40, H⟩ := H
    replace H : (if t339 = true then (graftbedlaw02_TreeMerges.j0 k l0 l1 true) else ((graftbedlaw02_heavy.f k l1).bind fun t340 => (if t340 = true then (graftbedlaw02_TreeMerges.j0 k l0 l1 true) else ((graftbedlaw02_shown.f).bind fun t341 => (graftbedlaw02_TreeMerges.j0 k l0 l1 (!t341)))))) = some r := H
    have A4 := Aside0.mk A40
    clear A40
    by_cases c5 : t339 = true
    · subst c5
      have H1 : (graftbedlaw02_TreeMerges.j0 k l0 l1 true) = some r := by rw [if_pos rfl] at H; exact H
      clear H
      have H := H1
      clear H1
      have H' := Aside0.mk H
      clear H
      go_wp2_with (first | ((with_reducible refine gate_callee (f := 11) rfl ?_); refine goesL_ (some 19) rfl rfl Try.func11 (by kernel_rfl) rfl #[.slice A0 l0.length c0] rfl (by (try simp only [List.map_toArray, List.map_cons, List.map_nil]); first | done | rfl | (simp only [List.length_drop, List.length_take]; rfl) | (simp only [ByteArray.size_extract, Nat.min_self]; done) | (simp only [ByteArray.size_append, StrMore.size_lit, List.length_cons, List.length_nil, Nat.zero_add, Nat.reduceAdd] <;> rfl)) ?_; (with_reducible refine (graftbedlaw02_heavy.calls k _ _ l0 true _ ?side1 ?side2 A4.out).mono ?_); (case side1 => repeat (first | exact (Kd.C_below HR0.out HB.out) | (with_reducible refine Kd.C_alloc ?_ _) | (with_reducible refine Kd.C_drewN ?_ _) | (with_reducible refine Kd.C_drew ?_))); (case side2 => exact HC0.out); rintro e w6 ⟨rfl, hb⟩; refine ⟨_, rfl, ?_⟩; have n0_ := Aside0.mk (below_step (by repeat (first | (with_reducible first | exact HB.out | apply below_alloc | apply pw_below_drewN | apply below_drew1) | exact HB.out)) hb); clear HB; have HB := n0_; clear n0_; (try clear hb); (try clear hb2); (try clear hk); (try clear hi)))
      go_meet
      case rel => exact ⟨_, (true), (by first | rfl | (simp; done) | (simp [*]; done)), H', ⟨by first | omega | exact Nat.le_refl _⟩, ⟨by repeat (first | (with_reducible first | exact HB.out | apply below_alloc | apply pw_below_drewN | apply below_drew1) | exact HB.out)⟩⟩
    · replace c5 := Bool.eq_false_iff.mpr c5
      subst c5
      have H1 : ((graftbedlaw02_heavy.f k l1).bind fun t340 => (if t340 = true then (graftbedlaw02_TreeMerges.j0 k l0 l1 true) else ((graftbedlaw02_shown.f).bind fun t341 => (graftbedlaw02_TreeMerges.j0 k l0 l1 (!t341))))) = some r := by rw [if_neg (show ¬ (false = true) by decide)] at H; exact H
      clear H
      have H := H1
      clear H1
      replace H := Option.bind_eq_some_iff.mp H
      obtain ⟨t340, A70, H⟩ := H
      replace H : (if t340 = true then (graftbedlaw02_TreeMerges.j0 k l0 l1 true) else ((graftbedlaw02_shown.f).bind fun t341 => (graftbedlaw02_TreeMerges.j0 k l0 l1 (!t341)))) = some r := H
      have A7 := Aside0.mk A70
      clear A70
      by_cases c8 : t340 = true
      · subst c8
        have H1 : (graftbedlaw02_TreeMerges.j0 k l0 l1 true) = some r := by rw [if_pos rfl] at H; exact H
        clear H
        have H := H1
        clear H1
        have H' := Aside0.mk H
        clear H
        go_wp2_with (first | ((with_reducible refine gate_callee (f := 11) rfl ?_); refine goesL_ (some 19) rfl rfl Try.func11 (by kernel_rfl) rfl #[.slice A0 l0.length c0] rfl (by (try simp only [List.map_toArray, List.map_cons, List.map_nil]); first | done | rfl | (simp only [List.length_drop, List.length_take]; rfl) | (simp only [ByteArray.size_extract, Nat.min_self]; done) | (simp only [ByteArray.size_append, StrMore.size_lit, List.length_cons, List.length_nil, Nat.zero_add, Nat.reduceAdd] <;> rfl)) ?_; (with_reducible refine (graftbedlaw02_heavy.calls k _ _ l0 false _ ?side1 ?side2 A4.out).mono ?_); (all_goals (try clear A4)); (case side1 => repeat (first | exact (Kd.C_below HR0.out HB.out) | (with_reducible refine Kd.C_alloc ?_ _) | (with_reducible refine Kd.C_drewN ?_ _) | (with_reducible refine Kd.C_drew ?_))); (case side2 => exact HC0.out); rintro e w9 ⟨rfl, hb⟩; refine ⟨_, rfl, ?_⟩; have n0_ := Aside0.mk (below_step (by repeat (first | (with_reducible first | exact HB.out | apply below_alloc | apply pw_below_drewN | apply below_drew1) | exact HB.out)) hb); clear HB; have HB := n0_; clear n0_; (try clear hb); (try clear hb2); (try clear hk); (try clear hi)) | (go_at_call 11; (with_reducible refine (graftbedlaw02_heavy.calls k _ _ l1 true _ ?side1 ?side2 A7.out).mono ?_); (all_goals (try clear A7)); (case side1 => repeat (first | exact (Kd.C_below HR1.out HB.out) | (with_reducible refine Kd.C_alloc ?_ _) | (with_reducible refine Kd.C_drewN ?_ _) | (with_reducible refine Kd.C_drew ?_))); (case side2 => exact HC1.out); rintro e w10 ⟨rfl, hb⟩; have n0_ := Aside0.mk (below_step (by repeat (first | (with_reducible first | exact HB.out | apply below_alloc | apply pw_below_drewN | apply below_drew1) | exact HB.out)) hb); clear HB; have HB := n0_; clear n0_; (try clear hb); (try clear hb2); (try clear hk); (try clear hi)))
        go_meet
        case rel => exact ⟨_, (true), (by first | rfl | (simp; done) | (simp [*]; done)), H', ⟨by first | omega | exact Nat.le_refl _⟩, ⟨by repeat (first | (with_reducible first | exact HB.out | apply below_alloc | apply pw_below_drewN | apply below_drew1) | exact HB.out)⟩⟩
      · replace c8 := Bool.eq_false_iff.mpr c8
        subst c8
        have H1 : ((graftbedlaw02_shown.f).bind fun t341 => (graftbedlaw02_TreeMerges.j0 k l0 l1 (!t341))) = some r := by rw [if_neg (show ¬ (false = true) by decide)] at H; exact H
        clear H
        have H := H1
        clear H1
        replace H := Option.bind_eq_some_iff.mp H
        obtain ⟨t341, A110, H⟩ := H
        replace H : (graftbedlaw02_TreeMerges.j0 k l0 l1 (!t341)) = some r := H
        have A11 := Aside0.mk A110
        clear A110
        have H' := Aside0.mk H
        clear H
        go_wp2_with (first | ((with_reducible refine gate_callee (f := 11) rfl ?_); refine goesL_ (some 19) rfl rfl Try.func11 (by kernel_rfl) rfl #[.slice A0 l0.length c0] rfl (by (try simp only [List.map_toArray, List.map_cons, List.map_nil]); first | done | rfl | (simp only [List.length_drop, List.length_take]; rfl) | (simp only [ByteArray.size_extract, Nat.min_self]; done) | (simp only [ByteArray.size_append, StrMore.size_lit, List.length_cons, List.length_nil, Nat.zero_add, Nat.reduceAdd] <;> rfl)) ?_; (with_reducible refine (graftbedlaw02_heavy.calls k _ _ l0 false _ ?side1 ?side2 A4.out).mono ?_); (all_goals (try clear A4)); (case side1 => repeat (first | exact (Kd.C_below HR0.out HB.out) | (with_reducible refine Kd.C_alloc ?_ _) | (with_reducible refine Kd.C_drewN ?_ _) | (with_reducible refine Kd.C_drew ?_))); (case side2 => exact HC0.out); rintro e w12 ⟨rfl, hb⟩; refine ⟨_, rfl, ?_⟩; have n0_ := Aside0.mk (below_step (by repeat (first | (with_reducible first | exact HB.out | apply below_alloc | apply pw_below_drewN | apply below_drew1) | exact HB.out)) hb); clear HB; have HB := n0_; clear n0_; (try clear hb); (try clear hb2); (try clear hk); (try clear hi)) | (go_at_call 11; (with_reducible refine (graftbedlaw02_heavy.calls k _ _ l1 false _ ?side1 ?side2 A7.out).mono ?_); (all_goals (try clear A7)); (case side1 => repeat (first | exact (Kd.C_below HR1.out HB.out) | (with_reducible refine Kd.C_alloc ?_ _) | (with_reducible refine Kd.C_drewN ?_ _) | (with_reducible refine Kd.C_drew ?_))); (case side2 => exact HC1.out); rintro e w13 ⟨rfl, hb⟩; have n0_ := Aside0.mk (below_step (by repeat (first | (with_reducible first | exact HB.out | apply below_alloc | apply pw_below_drewN | apply below_drew1) | exact HB.out)) hb); clear HB; have HB := n0_; clear n0_; (try clear hb); (try clear hb2); (try clear hk); (try clear hi)) | (go_at_call 12; (with_reducible refine (graftbedlaw02_shown.calls  t341 _ A11.out).mono ?_); rintro e w14 ⟨rfl, hb⟩; have n0_ := Aside0.mk (below_step (by repeat (first | (with_reducible first | exact HB.out | apply below_alloc | apply pw_below_drewN | apply below_drew1) | exact HB.out)) hb); clear HB; have HB := n0_; clear n0_; (try clear hb); (try clear hb2); (try clear hk); (try clear hi)))
        go_meet
        case rel => exact ⟨_, (!t341), (by first | rfl | (simp; done) | (simp [*]; done)), H', ⟨by first | omega | exact Nat.le_refl _⟩, ⟨by repeat (first | (with_reducible first | exact HB.out | apply below_alloc | apply pw_below_drewN | apply below_drew1) | exact HB.out)⟩⟩
  case rest =>
    clear HC3
    try clear c1
    try clear p2
    try clear c5
    try clear c8
    try clear c11
    obtain ⟨kq, x27_2, rfl, HA, HJ2, HB⟩ := hcut
    cases kq with
    | zero => exact absurd HA.out (by simp [graftbedlaw02_TreeMerges.j0])
    | succ kj2 =>
      have H := HA.out
      clear HA
      simp only [graftbedlaw02_TreeMerges.j0] at H
      by_cases c15 : x27_2 = true
      · subst c15
        have H1 : ((graftbedlaw02_shown.f).bind fun t342 => (some t342)) = some r := by rw [if_pos rfl] at H; exact H
        clear H
        have H := H1
        clear H1
        replace H := Option.bind_eq_some_iff.mp H
        obtain ⟨t342, A160, H⟩ := H
        replace H : (some t342) = some r := H
        have A16 := Aside0.mk A160
        clear A160
        obtain rfl := Option.some.inj H
        go_wp2_with (first | ((with_reducible refine gate_callee (f := 12) rfl ?_); refine goesL_ (some 28) rfl rfl Try.func12 (by kernel_rfl) rfl #[] rfl (by (try simp only [List.map_toArray, List.map_cons, List.map_nil]); first | done | rfl | (simp only [List.length_drop, List.length_take]; rfl) | (simp only [ByteArray.size_extract, Nat.min_self]; done) | (simp only [ByteArray.size_append, StrMore.size_lit, List.length_cons, List.length_nil, Nat.zero_add, Nat.reduceAdd] <;> rfl)) ?_; (with_reducible refine (graftbedlaw02_shown.calls  t342 _ A16.out).mono ?_); rintro e w17 ⟨rfl, hb⟩; refine ⟨_, rfl, ?_⟩; have n0_ := Aside0.mk (below_step (by repeat (first | (with_reducible first | exact HB.out | apply below_alloc | apply pw_below_drewN | apply below_drew1) | exact HB.out)) hb); clear HB; have HB := n0_; clear n0_; (try clear hb); (try clear hb2); (try clear hk); (try clear hi)))
        go_ret
        exact ⟨by first | rfl | (simp [errW_none, errW_some] <;> rfl) | (simp [*, errW_none, errW_some] <;> rfl) | (exfalso; simp only [decide_eq_true_eq, decide_eq_false_iff_not, beq_iff_eq, beq_eq_false_iff_ne] at *; first | contradiction | omega), by repeat (first | (with_reducible first | exact HB.out | apply below_alloc | apply pw_below_drewN | apply below_drew1) | exact HB.out)⟩
      · replace c15 := Bool.eq_false_iff.mpr c15
        subst c15
        have H1 : ((graftbedlaw02_grown.f kj2 l0).bind fun t343 => ((graftbedlaw02_grown.f kj2 l1).bind fun t346 => ((tree_Merge.f t343 t346).bind fun bt349 => ((graftbedref02_Merge.f kj2 t343 t346).bind fun bt356 => (if (!(bt349.2.1 == bt356.2.1) || (!(bt349.2.2.1.toList == bt356.2.2.1.toList) || (!(bt349.2.2.2 == bt356.2.2.2)))) = true then (graftbedlaw02_TreeMerges.j1 kj2 t343 t346 bt349.1 true bt349.2.1 bt349.2.2.1 bt349.2.2.2) else ((graftbedref02_Same.f kj2 bt349.1 bt356.1).bind fun t363 => (graftbedlaw02_TreeMerges.j1 kj2 t343 t346 bt349.1 (!t363) bt349.2.1 bt349.2.2.1 bt349.2.2.2))))))) = some r := by rw [if_neg (show ¬ (false = true) by decide)] at H; exact H
        clear H
        have H := H1
        clear H1
        replace H := Option.bind_eq_some_iff.mp H
        obtain ⟨t343, A180, H⟩ := H
        replace H : ((graftbedlaw02_grown.f kj2 l1).bind fun t346 => ((tree_Merge.f t343 t346).bind fun bt349 => ((graftbedref02_Merge.f kj2 t343 t346).bind fun bt356 => (if (!(bt349.2.1 == bt356.2.1) || (!(bt349.2.2.1.toList == bt356.2.2.1.toList) || (!(bt349.2.2.2 == bt356.2.2.2)))) = true then (graftbedlaw02_TreeMerges.j1 kj2 t343 t346 bt349.1 true bt349.2.1 bt349.2.2.1 bt349.2.2.2) else ((graftbedref02_Same.f kj2 bt349.1 bt356.1).bind fun t363 => (graftbedlaw02_TreeMerges.j1 kj2 t343 t346 bt349.1 (!t363) bt349.2.1 bt349.2.2.1 bt349.2.2.2)))))) = some r := H
        have A18 := Aside0.mk A180
        clear A180
        replace H := Option.bind_eq_some_iff.mp H
        obtain ⟨t346, A190, H⟩ := H
        replace H : ((tree_Merge.f t343 t346).bind fun bt349 => ((graftbedref02_Merge.f kj2 t343 t346).bind fun bt356 => (if (!(bt349.2.1 == bt356.2.1) || (!(bt349.2.2.1.toList == bt356.2.2.1.toList) || (!(bt349.2.2.2 == bt356.2.2.2)))) = true then (graftbedlaw02_TreeMerges.j1 kj2 t343 t346 bt349.1 true bt349.2.1 bt349.2.2.1 bt349.2.2.2) else ((graftbedref02_Same.f kj2 bt349.1 bt356.1).bind fun t363 => (graftbedlaw02_TreeMerges.j1 kj2 t343 t346 bt349.1 (!t363) bt349.2.1 bt349.2.2.1 bt349.2.2.2))))) = some r := H
        have A19 := Aside0.mk A190
        clear A190
        replace H := Option.bind_eq_some_iff.mp H
        obtain ⟨⟨t349, t352, t353, t354⟩, A200, H⟩ := H
        replace H : ((graftbedref02_Merge.f kj2 t343 t346).bind fun bt356 => (if (!(t352 == bt356.2.1) || (!(t353.toList == bt356.2.2.1.toList) || (!(t354 == bt356.2.2.2)))) = true then (graftbedlaw02_TreeMerges.j1 kj2 t343 t346 t349 true t352 t353 t354) else ((graftbedref02_Same.f kj2 t349 bt356.1).bind fun t363 => (graftbedlaw02_TreeMerges.j1 kj2 t343 t346 t349 (!t363) t352 t353 t354)))) = some r := H
        have A20 := Aside0.mk A200
        clear A200
        replace H := Option.bind_eq_some_iff.mp H
        obtain ⟨⟨t356, t359, t360, t361⟩, A210, H⟩ := H
        replace H : (if (!(t352 == t359) || (!(t353.toList == t360.toList) || (!(t354 == t361)))) = true then (graftbedlaw02_TreeMerges.j1 kj2 t343 t346 t349 true t352 t353 t354) else ((graftbedref02_Same.f kj2 t349 t356).bind fun t363 => (graftbedlaw02_TreeMerges.j1 kj2 t343 t346 t349 (!t363) t352 t353 t354))) = some r := H
        have A21 := Aside0.mk A210
        clear A210
        have HC22 := Aside0.mk H
        clear H
        go_upto_region 7 with (first | ((with_reducible refine gate_callee (f := 13) rfl ?_); refine goesL_ (some 30) rfl rfl Try.func13 (by kernel_rfl) rfl #[.slice A0 l0.length c0] rfl (by (try simp only [List.map_toArray, List.map_cons, List.map_nil]); first | done | rfl | (simp only [List.length_drop, List.length_take]; rfl) | (simp only [ByteArray.size_extract, Nat.min_self]; done) | (simp only [ByteArray.size_append, StrMore.size_lit, List.length_cons, List.length_nil, Nat.zero_add, Nat.reduceAdd] <;> rfl)) ?_; (with_reducible refine (graftbedlaw02_grown.calls kj2 _ _ l0 t343 _ ?side1 ?side2 A18.out).mono ?_); (all_goals (try clear A18)); (case side1 => repeat (first | exact (Kd.C_below HR0.out HB.out) | (with_reducible refine Kd.C_alloc ?_ _) | (with_reducible refine Kd.C_drewN ?_ _) | (with_reducible refine Kd.C_drew ?_))); (case side2 => exact HC0.out); rintro e w23 ⟨v344, rfl, ho0, hb⟩; refine ⟨_, rfl, ?_⟩; have n0_ := Aside0.mk (Kd.R_lower ho0 (below_size (by repeat (first | (with_reducible first | exact HB.out | apply below_alloc | apply pw_below_drewN | apply below_drew1) | exact HB.out)))); have n1_ := Aside0.mk (below_step (by repeat (first | (with_reducible first | exact HB.out | apply below_alloc | apply pw_below_drewN | apply below_drew1) | exact HB.out)) hb); clear HB; have HO345 := n0_; have HB := n1_; clear n0_ n1_; (try clear hb); (try clear hb2); (try clear hk); (try clear hi); (try clear ho0)) | ((with_reducible refine gate_callee (f := 13) rfl ?_); refine goesL_ (some 32) rfl rfl Try.func13 (by kernel_rfl) rfl #[.slice A1 l1.length c1] rfl (by (try simp only [List.map_toArray, List.map_cons, List.map_nil]); first | done | rfl | (simp only [List.length_drop, List.length_take]; rfl) | (simp only [ByteArray.size_extract, Nat.min_self]; done) | (simp only [ByteArray.size_append, StrMore.size_lit, List.length_cons, List.length_nil, Nat.zero_add, Nat.reduceAdd] <;> rfl)) ?_; (with_reducible refine (graftbedlaw02_grown.calls kj2 _ _ l1 t346 _ ?side1 ?side2 A19.out).mono ?_); (all_goals (try clear A19)); (case side1 => repeat (first | exact (Kd.C_below HR1.out HB.out) | (with_reducible refine Kd.C_alloc ?_ _) | (with_reducible refine Kd.C_drewN ?_ _) | (with_reducible refine Kd.C_drew ?_))); (case side2 => exact HC1.out); rintro e w24 ⟨v347, rfl, ho0, hb⟩; refine ⟨_, rfl, ?_⟩; have n0_ := Aside0.mk (Kd.R_elder' (by (with_reducible repeat (first | apply Kd.R_alloc | apply Kd.R_drewN | apply Kd.R_drew)); exact HO345.out) (Kd.R_base ho0) hb); have n1_ := Aside0.mk (Kd.R_lower (Kd.R_new' ho0 (Kd.R_lt (by (with_reducible repeat (first | apply Kd.R_alloc | apply Kd.R_drewN | apply Kd.R_drew)); exact HO345.out))) (below_size (by repeat (first | (with_reducible first | exact HB.out | apply below_alloc | apply pw_below_drewN | apply below_drew1) | exact HB.out)))); have n2_ := Aside0.mk (below_step (by repeat (first | (with_reducible first | exact HB.out | apply below_alloc | apply pw_below_drewN | apply below_drew1) | exact HB.out)) hb); clear HO345; clear HB; have HO345 := n0_; have HO348 := n1_; have HB := n2_; clear n0_ n1_ n2_; (try clear hb); (try clear hb2); (try clear hk); (try clear hi); (try clear ho0); obtain ⟨Ao25, co25, eo25⟩ := Kd.R_slice HO345.out; subst eo25; obtain ⟨Ao26, co26, eo26⟩ := Kd.R_slice HO348.out; subst eo26) | ((with_reducible refine gate_callee (f := 17) rfl ?_); refine goesL_ (some 36) rfl rfl Try.func17 (by kernel_rfl) rfl #[.slice Ao25 t343.length co25, .slice Ao26 t346.length co26] rfl (by (try simp only [List.map_toArray, List.map_cons, List.map_nil]); first | done | rfl | (simp only [List.length_drop, List.length_take]; rfl) | (simp only [ByteArray.size_extract, Nat.min_self]; done) | (simp only [ByteArray.size_append, StrMore.size_lit, List.length_cons, List.length_nil, Nat.zero_add, Nat.reduceAdd] <;> rfl)) ?_; (with_reducible refine (tree_Merge.calls _ _ t343 _ _ t346 t349 t352 t353 t354 _ ?side1 ?side2 ?side3 ?side4 A20.out).mono ?_); (case side1 => repeat (first | exact (Kd.R_reads' HO345.out).2.2 | (with_reducible refine Kd.C_alloc ?_ _) | (with_reducible refine Kd.C_drewN ?_ _) | (with_reducible refine Kd.C_drew ?_))); (case side2 => exact (Kd.R_reads' HO345.out).2.1); (case side3 => repeat (first | exact (Kd.R_reads' HO348.out).2.2 | (with_reducible refine Kd.C_alloc ?_ _) | (with_reducible refine Kd.C_drewN ?_ _) | (with_reducible refine Kd.C_drew ?_))); (case side4 => exact (Kd.R_reads' HO348.out).2.1); rintro e w27 ⟨v350, rfl, ho0, hb⟩; refine ⟨_, rfl, ?_⟩; have n0_ := Aside0.mk (Kd.R_elder' (by (with_reducible repeat (first | apply Kd.R_alloc | apply Kd.R_drewN | apply Kd.R_drew)); exact HO345.out) (Kd.R_base ho0) hb); have n1_ := Aside0.mk (Kd.R_elder' (by (with_reducible repeat (first | apply Kd.R_alloc | apply Kd.R_drewN | apply Kd.R_drew)); exact HO348.out) (Kd.R_base ho0) hb); have n2_ := Aside0.mk (Kd.R_lower (Kd.R_new' (Kd.R_new' ho0 (Kd.R_lt (by (with_reducible repeat (first | apply Kd.R_alloc | apply Kd.R_drewN | apply Kd.R_drew)); exact HO345.out))) (Kd.R_lt (by (with_reducible repeat (first | apply Kd.R_alloc | apply Kd.R_drewN | apply Kd.R_drew)); exact HO348.out))) (below_size (by repeat (first | (with_reducible first | exact HB.out | apply below_alloc | apply pw_below_drewN | apply below_drew1) | exact HB.out)))); have n3_ := Aside0.mk (below_step (by repeat (first | (with_reducible first | exact HB.out | apply below_alloc | apply pw_below_drewN | apply below_drew1) | exact HB.out)) hb); clear HO345; clear HO348; clear HB; have HO345 := n0_; have HO348 := n1_; have HO351 := n2_; have HB := n3_; clear n0_ n1_ n2_ n3_; (try clear hb); (try clear hb2); (try clear hk); (try clear hi); (try clear ho0)) | ((with_reducible refine gate_dst (N := 8) rfl ?_); (try (refine gate_guard (by rfl) ?_; dsimp only)); refine box_event ?hg (N := 8) ?hd (cs := #[.int .i64 0, .string (⟨#[]⟩ : ByteArray), .int .i64 0]) (t := 37) ?hr ?_; (case hd => rfl); (case hg => rfl); (case hr => first | (go_simp; done) | (go_simp; rfl)); intro gb355 hg w28 hbox hb; have n0_ := Aside0.mk (Kd.R_below (by (with_reducible repeat (first | apply Kd.R_alloc | apply Kd.R_drewN | apply Kd.R_drew)); exact HO345.out) hb); have n1_ := Aside0.mk (Kd.R_below (by (with_reducible repeat (first | apply Kd.R_alloc | apply Kd.R_drewN | apply Kd.R_drew)); exact HO348.out) hb); have n2_ := Aside0.mk (Kd.R_below (by (with_reducible repeat (first | apply Kd.R_alloc | apply Kd.R_drewN | apply Kd.R_drew)); exact HO351.out) hb); have n3_ := Aside0.mk (below_step (by repeat (first | (with_reducible first | exact HB.out | apply below_alloc | apply pw_below_drewN | apply below_drew1) | exact HB.out)) hb); have n4_ := Aside0.mk (hbox); have n5_ := Aside0.mk ((by rw [hg]; exact (below_size (by repeat (first | (with_reducible first | exact HB.out | apply below_alloc | apply pw_below_drewN | apply below_drew1) | exact HB.out))) : w.heap.size ≤ gb355)); have n6_ := Aside0.mk ((by rw [hg]; exact (below_size (by repeat (first | (with_reducible first | exact HB.out | apply below_alloc | apply pw_below_drewN | apply below_drew1) | exact HB.out))) : w.heap.size ≤ gb355)); clear HO345; clear HO348; clear HO351; clear HB; have HO345 := n0_; have HO348 := n1_; have HO351 := n2_; have HB := n3_; have BK355 := n4_; have GW355 := n5_; have GE355 := n6_; clear n0_ n1_ n2_ n3_ n4_ n5_ n6_; clear hb hbox hg; have hcz29_0 : w28.cell? ⟨gb355, 0, none⟩ = some (.int .i64 0) := (blk_cell BK355.out 0).trans rfl; have hcz29_1 : w28.cell? ⟨gb355, 1, none⟩ = some (.string (⟨#[]⟩ : ByteArray)) := (blk_cell BK355.out 1).trans rfl; have hcz29_2 : w28.cell? ⟨gb355, 2, none⟩ = some (.int .i64 0) := (blk_cell BK355.out 2).trans rfl; have hfz29_0 := blk_frozen BK355.out 0; have hfz29_1 := blk_frozen BK355.out 1; have hfz29_2 := blk_frozen BK355.out 2) | ((with_reducible refine gate_callee (f := 18) rfl ?_); refine goesL_ (some 42) rfl rfl Try.func18 (by kernel_rfl) rfl #[.slice Ao25 t343.length co25, .slice Ao26 t346.length co26] rfl (by (try simp only [List.map_toArray, List.map_cons, List.map_nil]); first | done | rfl | (simp only [List.length_drop, List.length_take]; rfl) | (simp only [ByteArray.size_extract, Nat.min_self]; done) | (simp only [ByteArray.size_append, StrMore.size_lit, List.length_cons, List.length_nil, Nat.zero_add, Nat.reduceAdd] <;> rfl)) ?_; (with_reducible refine (graftbedref02_Merge.calls kj2 _ _ t343 _ _ t346 t356 t359 t360 t361 _ ?side1 ?side2 ?side3 ?side4 A21.out).mono ?_); (case side1 => refine (Kd.R_reads' (e := 24) (base := w.heap.size) (ok := fun k_ => ((True ∧ some k_ ≠ (.slice Ao26 t346.length co26 : Value).ownBlock) ∧ some k_ ≠ (v350 : Value).ownBlock)) (n := t343.length) (c := co25) ?_).2.2; exact (by (with_reducible repeat (first | apply Kd.R_alloc | apply Kd.R_drewN | apply Kd.R_drew)); exact (Kd.R_mono (Kd.R_far (p := ⟨gb355, 2, none⟩) (Kd.R_far (p := ⟨gb355, 1, none⟩) (Kd.R_far (p := ⟨gb355, 0, none⟩) (Kd.R_types HO345.out BK355.out (by decide)) (fun _ hk => hk.2) (.int .i64 t352)) (fun _ hk => hk.2) (.string t353)) (fun _ hk => hk.2) (.int .i64 t354)) (fun _ h_ => h_.1)))); (case side2 => exact (Kd.R_reads' HO345.out).2.1); (case side3 => refine (Kd.R_reads' (e := 24) (base := w.heap.size) (ok := fun k_ => ((True ∧ some k_ ≠ (.slice Ao25 t343.length co25 : Value).ownBlock) ∧ some k_ ≠ (v350 : Value).ownBlock)) (n := t346.length) (c := co26) ?_).2.2; exact (by (with_reducible repeat (first | apply Kd.R_alloc | apply Kd.R_drewN | apply Kd.R_drew)); exact (Kd.R_mono (Kd.R_far (p := ⟨gb355, 2, none⟩) (Kd.R_far (p := ⟨gb355, 1, none⟩) (Kd.R_far (p := ⟨gb355, 0, none⟩) (Kd.R_types HO348.out BK355.out (by decide)) (fun _ hk => hk.2) (.int .i64 t352)) (fun _ hk => hk.2) (.string t353)) (fun _ hk => hk.2) (.int .i64 t354)) (fun _ h_ => h_.1)))); (case side4 => exact (Kd.R_reads' HO348.out).2.1); rintro e w30 ⟨v357, rfl, ho0, hb⟩; refine ⟨_, rfl, ?_⟩; have n0_ := Aside0.mk (Kd.R_elder' (by (with_reducible repeat (first | apply Kd.R_alloc | apply Kd.R_drewN | apply Kd.R_drew)); exact (Kd.R_mono (Kd.R_far (p := ⟨gb355, 2, none⟩) (Kd.R_far (p := ⟨gb355, 1, none⟩) (Kd.R_far (p := ⟨gb355, 0, none⟩) (Kd.R_types HO345.out BK355.out (by decide)) (fun _ hk => hk.2) (.int .i64 t352)) (fun _ hk => hk.2) (.string t353)) (fun _ hk => hk.2) (.int .i64 t354)) (fun _ h_ => h_.1))) (Kd.R_base ho0) hb); have n1_ := Aside0.mk (Kd.R_elder' (by (with_reducible repeat (first | apply Kd.R_alloc | apply Kd.R_drewN | apply Kd.R_drew)); exact (Kd.R_mono (Kd.R_far (p := ⟨gb355, 2, none⟩) (Kd.R_far (p := ⟨gb355, 1, none⟩) (Kd.R_far (p := ⟨gb355, 0, none⟩) (Kd.R_types HO348.out BK355.out (by decide)) (fun _ hk => hk.2) (.int .i64 t352)) (fun _ hk => hk.2) (.string t353)) (fun _ hk => hk.2) (.int .i64 t354)) (fun _ h_ => h_.1))) (Kd.R_base ho0) hb); have n2_ := Aside0.mk (Kd.R_elder' (by (with_reducible repeat (first | apply Kd.R_alloc | apply Kd.R_drewN | apply Kd.R_drew)); exact (Kd.R_mono (Kd.R_far (p := ⟨gb355, 2, none⟩) (Kd.R_far (p := ⟨gb355, 1, none⟩) (Kd.R_far (p := ⟨gb355, 0, none⟩) (Kd.R_types HO351.out BK355.out (by decide)) (fun _ hk => hk.2) (.int .i64 t352)) (fun _ hk => hk.2) (.string t353)) (fun _ hk => hk.2) (.int .i64 t354)) (fun _ h_ => h_.1))) (Kd.R_base ho0) hb); have n3_ := Aside0.mk (Kd.R_lower (Kd.R_new' (Kd.R_new' (Kd.R_new' ho0 (Kd.R_lt (by (with_reducible repeat (first | apply Kd.R_alloc | apply Kd.R_drewN | apply Kd.R_drew)); exact (Kd.R_mono (Kd.R_far (p := ⟨gb355, 2, none⟩) (Kd.R_far (p := ⟨gb355, 1, none⟩) (Kd.R_far (p := ⟨gb355, 0, none⟩) (Kd.R_types HO345.out BK355.out (by decide)) (fun _ hk => hk.2) (.int .i64 t352)) (fun _ hk => hk.2) (.string t353)) (fun _ hk => hk.2) (.int .i64 t354)) (fun _ h_ => h_.1))))) (Kd.R_lt (by (with_reducible repeat (first | apply Kd.R_alloc | apply Kd.R_drewN | apply Kd.R_drew)); exact (Kd.R_mono (Kd.R_far (p := ⟨gb355, 2, none⟩) (Kd.R_far (p := ⟨gb355, 1, none⟩) (Kd.R_far (p := ⟨gb355, 0, none⟩) (Kd.R_types HO348.out BK355.out (by decide)) (fun _ hk => hk.2) (.int .i64 t352)) (fun _ hk => hk.2) (.string t353)) (fun _ hk => hk.2) (.int .i64 t354)) (fun _ h_ => h_.1))))) (Kd.R_lt (by (with_reducible repeat (first | apply Kd.R_alloc | apply Kd.R_drewN | apply Kd.R_drew)); exact (Kd.R_mono (Kd.R_far (p := ⟨gb355, 2, none⟩) (Kd.R_far (p := ⟨gb355, 1, none⟩) (Kd.R_far (p := ⟨gb355, 0, none⟩) (Kd.R_types HO351.out BK355.out (by decide)) (fun _ hk => hk.2) (.int .i64 t352)) (fun _ hk => hk.2) (.string t353)) (fun _ hk => hk.2) (.int .i64 t354)) (fun _ h_ => h_.1))))) (below_size (by repeat (first | (with_reducible first | exact HB.out | apply below_alloc | apply pw_below_drewN | apply below_drew1 | refine below_set ?_ GE355.out) | exact HB.out)))); have n4_ := Aside0.mk (blk_below (g := gb355) (o := .cells #[.int .i64 t352, .string t353, .int .i64 t354] 37 (0, 0)) (by (with_reducible repeat (first | refine blk_drewN ?_ _ | refine blk_drew ?_ | refine blk_alloc ?_ _)); refine blk_put (cs := #[.int .i64 t352, .string t353, .int .i64 0]) ?_ 2 _ rfl; (with_reducible repeat (first | refine blk_drewN ?_ _ | refine blk_drew ?_ | refine blk_alloc ?_ _)); refine blk_put (cs := #[.int .i64 t352, .string (⟨#[]⟩ : ByteArray), .int .i64 0]) ?_ 1 _ rfl; (with_reducible repeat (first | refine blk_drewN ?_ _ | refine blk_drew ?_ | refine blk_alloc ?_ _)); refine blk_put (cs := #[.int .i64 0, .string (⟨#[]⟩ : ByteArray), .int .i64 0]) ?_ 0 _ rfl; (with_reducible repeat (first | refine blk_drewN ?_ _ | refine blk_drew ?_ | refine blk_alloc ?_ _)); exact BK355.out) hb); have n5_ := Aside0.mk (below_step (by repeat (first | (with_reducible first | exact HB.out | apply below_alloc | apply pw_below_drewN | apply below_drew1 | refine below_set ?_ GE355.out) | exact HB.out)) hb); clear HO345; clear HO348; clear HO351; clear BK355; clear HB; have HO345 := n0_; have HO348 := n1_; have HO351 := n2_; have HO358 := n3_; have BK355 := n4_; have HB := n5_; clear n0_ n1_ n2_ n3_ n4_ n5_; (try clear hb); (try clear hb2); (try clear hk); (try clear hi); (try clear ho0)) | ((with_reducible refine gate_dst (N := 10) rfl ?_); (try (refine gate_guard (by rfl) ?_; dsimp only)); refine box_event ?hg (N := 10) ?hd (cs := #[.int .i64 0, .string (⟨#[]⟩ : ByteArray), .int .i64 0]) (t := 37) ?hr ?_; (case hd => rfl); (case hg => rfl); (case hr => first | (go_simp; done) | (go_simp; rfl)); intro gb362 hg w31 hbox hb; have n0_ := Aside0.mk (Kd.R_below (by (with_reducible repeat (first | apply Kd.R_alloc | apply Kd.R_drewN | apply Kd.R_drew)); exact HO345.out) hb); have n1_ := Aside0.mk (Kd.R_below (by (with_reducible repeat (first | apply Kd.R_alloc | apply Kd.R_drewN | apply Kd.R_drew)); exact HO348.out) hb); have n2_ := Aside0.mk (Kd.R_below (by (with_reducible repeat (first | apply Kd.R_alloc | apply Kd.R_drewN | apply Kd.R_drew)); exact HO351.out) hb); have n3_ := Aside0.mk (Kd.R_below (by (with_reducible repeat (first | apply Kd.R_alloc | apply Kd.R_drewN | apply Kd.R_drew)); exact HO358.out) hb); have n4_ := Aside0.mk (blk_below (g := gb355) (o := .cells #[.int .i64 t352, .string t353, .int .i64 t354] 37 (0, 0)) (by (with_reducible repeat (first | refine blk_drewN ?_ _ | refine blk_drew ?_ | refine blk_alloc ?_ _)); exact BK355.out) hb); have n5_ := Aside0.mk (below_step (by repeat (first | (with_reducible first | exact HB.out | apply below_alloc | apply pw_below_drewN | apply below_drew1 | refine below_set ?_ GE355.out) | exact HB.out)) hb); have n6_ := Aside0.mk (hbox); have n7_ := Aside0.mk ((by rw [hg]; exact (below_size (by repeat (first | (with_reducible first | exact HB.out | apply below_alloc | apply pw_below_drewN | apply below_drew1 | refine below_set ?_ GE355.out) | exact HB.out))) : w.heap.size ≤ gb362)); have n8_ := Aside0.mk ((by rw [hg]; exact (below_size (by repeat (first | (with_reducible first | exact HB.out | apply below_alloc | apply pw_below_drewN | apply below_drew1 | refine below_set ?_ GE355.out) | exact HB.out))) : w.heap.size ≤ gb362)); have n9_ := Aside0.mk ((by rw [hg]; exact Nat.ne_of_lt (blk_lt (g := gb355) (o := .cells #[.int .i64 t352, .string t353, .int .i64 t354] 37 (0, 0)) (by (with_reducible repeat (first | refine blk_drewN ?_ _ | refine blk_drew ?_ | refine blk_alloc ?_ _)); exact BK355.out)) : gb355 ≠ gb362)); have n10_ := Aside0.mk ((by rw [hg]; exact Nat.ne_of_gt (blk_lt (g := gb355) (o := .cells #[.int .i64 t352, .string t353, .int .i64 t354] 37 (0, 0)) (by (with_reducible repeat (first | refine blk_drewN ?_ _ | refine blk_drew ?_ | refine blk_alloc ?_ _)); exact BK355.out)) : gb362 ≠ gb355)); clear HO345; clear HO348; clear HO351; clear HO358; clear BK355; clear HB; have HO345 := n0_; have HO348 := n1_; have HO351 := n2_; have HO358 := n3_; have BK355 := n4_; have HB := n5_; have BK362 := n6_; have GW362 := n7_; have GE362 := n8_; have NB355_362 := n9_; have NB362_355 := n10_; clear n0_ n1_ n2_ n3_ n4_ n5_ n6_ n7_ n8_ n9_ n10_; clear hb hbox hg; have hnb32 := NB362_355.out; have hnc32 := NB355_362.out; have hcz33_0 : w31.cell? ⟨gb362, 0, none⟩ = some (.int .i64 0) := (blk_cell BK362.out 0).trans rfl; have hcz33_1 : w31.cell? ⟨gb362, 1, none⟩ = some (.string (⟨#[]⟩ : ByteArray)) := (blk_cell BK362.out 1).trans rfl; have hcz33_2 : w31.cell? ⟨gb362, 2, none⟩ = some (.int .i64 0) := (blk_cell BK362.out 2).trans rfl; have hfz33_0 := blk_frozen BK362.out 0; have hfz33_1 := blk_frozen BK362.out 1; have hfz33_2 := blk_frozen BK362.out 2))
        (try simp only [Act.put, List.setIfInBounds_toArray, List.set_cons_zero, List.set_cons_succ])
        go_cut [53] (fun v53 wc => ∃ (kq : Nat) (x53_21 : Bool), v53 = .bool x53_21 ∧ Aside0 (graftbedlaw02_TreeMerges.j1 kq t343 t346 t349 x53_21 t352 t353 t354 = some r) ∧ Aside0 (kq ≤ kj2) ∧ Aside0 (Kd.R k24 24 wc w.heap.size (fun k_ => some k_ ≠ ((.slice Ao26 t346.length co26) : Value).ownBlock ∧ some k_ ≠ (v350 : Value).ownBlock) (.slice Ao25 t343.length co25) t343) ∧ Aside0 (Kd.R k24 24 wc w.heap.size (fun k_ => some k_ ≠ ((.slice Ao25 t343.length co25) : Value).ownBlock ∧ some k_ ≠ (v350 : Value).ownBlock) (.slice Ao26 t346.length co26) t346) ∧ Aside0 (Kd.R k24 24 wc w.heap.size (fun k_ => some k_ ≠ ((.slice Ao25 t343.length co25) : Value).ownBlock ∧ some k_ ≠ ((.slice Ao26 t346.length co26) : Value).ownBlock) v350 t349) ∧ Aside0 (wc.heap[gb355]? = some (.cells #[.int .i64 t352, .string t353, .int .i64 t354] 37 (0, 0))) ∧ Aside0 (wc.heap[gb362]? = some (.cells #[.int .i64 t359, .string t360, .int .i64 t361] 37 (0, 0))) ∧ Aside0 (Below w.heap.size w wc))
        case first =>
          have H := HC22.out
          clear HC22
          by_cases c34 : (!(t352 == t359) || (!(t353.toList == t360.toList) || (!(t354 == t361)))) = true
          · rw [if_pos c34] at H
            have c34b0 : (!(t352 == t359) || (!(t353.toList == t360.toList) || (!(t354 == t361)))) = true := c34
            clear c34
            (first | rw [c34b0] | (simp only [i64_w, i32_w]; rw [c34b0]) | skip)
            have H' := Aside0.mk H
            clear H
            have hnb35 := NB355_362.out
            have hnc35 := NB362_355.out
            have hcz36_0 : w31.cell? ⟨gb355, 0, none⟩ = some (.int .i64 t352) := (blk_cell BK355.out 0).trans rfl
            have hcz36_1 : w31.cell? ⟨gb355, 1, none⟩ = some (.string t353) := (blk_cell BK355.out 1).trans rfl
            have hcz36_2 : w31.cell? ⟨gb355, 2, none⟩ = some (.int .i64 t354) := (blk_cell BK355.out 2).trans rfl
            have hfz36_0 := blk_frozen BK355.out 0
            have hfz36_1 := blk_frozen BK355.out 1
            have hfz36_2 := blk_frozen BK355.out 2
            have hcz37_0 : w31.cell? ⟨gb362, 0, none⟩ = some (.int .i64 0) := (blk_cell BK362.out 0).trans rfl
            have hcz37_1 : w31.cell? ⟨gb362, 1, none⟩ = some (.string (⟨#[]⟩ : ByteArray)) := (blk_cell BK362.out 1).trans rfl
            have hcz37_2 : w31.cell? ⟨gb362, 2, none⟩ = some (.int .i64 0) := (blk_cell BK362.out 2).trans rfl
            have hfz37_0 := blk_frozen BK362.out 0
            have hfz37_1 := blk_frozen BK362.out 1
            have hfz37_2 := blk_frozen BK362.out 2
            go_wp2
            go_meet
            case rel => exact ⟨_, (true), (by first | rfl | (simp; done) | (simp [*]; done)), H', ⟨by have := HJ2.out; first | omega | exact Nat.le_refl _⟩, ⟨by (with_reducible repeat (first | apply Kd.R_alloc | apply Kd.R_drewN | apply Kd.R_drew)); exact Kd.R_mono (Kd.R_far (p := ⟨gb362, 2, none⟩) (Kd.R_far (p := ⟨gb362, 1, none⟩) (Kd.R_far (p := ⟨gb362, 0, none⟩) (Kd.R_types HO345.out BK362.out (by decide)) (fun _ hk => hk.2) (.int .i64 t359)) (fun _ hk => hk.2) (.string t360)) (fun _ hk => hk.2) (.int .i64 t361)) (fun _ hk => ⟨hk.1.1.1.2, hk.1.1.2⟩)⟩, ⟨by (with_reducible repeat (first | apply Kd.R_alloc | apply Kd.R_drewN | apply Kd.R_drew)); exact Kd.R_mono (Kd.R_far (p := ⟨gb362, 2, none⟩) (Kd.R_far (p := ⟨gb362, 1, none⟩) (Kd.R_far (p := ⟨gb362, 0, none⟩) (Kd.R_types HO348.out BK362.out (by decide)) (fun _ hk => hk.2) (.int .i64 t359)) (fun _ hk => hk.2) (.string t360)) (fun _ hk => hk.2) (.int .i64 t361)) (fun _ hk => ⟨hk.1.1.1.2, hk.1.1.2⟩)⟩, ⟨by (with_reducible repeat (first | apply Kd.R_alloc | apply Kd.R_drewN | apply Kd.R_drew)); exact Kd.R_mono (Kd.R_far (p := ⟨gb362, 2, none⟩) (Kd.R_far (p := ⟨gb362, 1, none⟩) (Kd.R_far (p := ⟨gb362, 0, none⟩) (Kd.R_types HO351.out BK362.out (by decide)) (fun _ hk => hk.2) (.int .i64 t359)) (fun _ hk => hk.2) (.string t360)) (fun _ hk => hk.2) (.int .i64 t361)) (fun _ hk => ⟨hk.1.1.1.2, hk.1.1.2⟩)⟩, ⟨by (with_reducible repeat (first | refine blk_drewN ?_ _ | refine blk_drew ?_ | refine blk_alloc ?_ _)); refine blk_far ?_ NB355_362.out _; (with_reducible repeat (first | refine blk_drewN ?_ _ | refine blk_drew ?_ | refine blk_alloc ?_ _)); refine blk_far ?_ NB355_362.out _; (with_reducible repeat (first | refine blk_drewN ?_ _ | refine blk_drew ?_ | refine blk_alloc ?_ _)); refine blk_far ?_ NB355_362.out _; (with_reducible repeat (first | refine blk_drewN ?_ _ | refine blk_drew ?_ | refine blk_alloc ?_ _)); exact BK355.out⟩, ⟨by (with_reducible repeat (first | refine blk_drewN ?_ _ | refine blk_drew ?_ | refine blk_alloc ?_ _)); refine blk_put (cs := #[.int .i64 t359, .string t360, .int .i64 0]) ?_ 2 _ rfl; (with_reducible repeat (first | refine blk_drewN ?_ _ | refine blk_drew ?_ | refine blk_alloc ?_ _)); refine blk_put (cs := #[.int .i64 t359, .string (⟨#[]⟩ : ByteArray), .int .i64 0]) ?_ 1 _ rfl; (with_reducible repeat (first | refine blk_drewN ?_ _ | refine blk_drew ?_ | refine blk_alloc ?_ _)); refine blk_put (cs := #[.int .i64 0, .string (⟨#[]⟩ : ByteArray), .int .i64 0]) ?_ 0 _ rfl; (with_reducible repeat (first | refine blk_drewN ?_ _ | refine blk_drew ?_ | refine blk_alloc ?_ _)); exact BK362.out⟩, ⟨by repeat (first | (with_reducible first | exact HB.out | apply below_alloc | apply pw_below_drewN | apply below_drew1 | refine below_set ?_ GE355.out | refine below_set ?_ GE362.out) | exact HB.out)⟩⟩
          · rw [if_neg c34] at H
            have c34b0 : (!(t352 == t359) || (!(t353.toList == t360.toList) || (!(t354 == t361)))) = false := by simpa using c34
            clear c34
            (first | rw [c34b0] | (simp only [i64_w, i32_w]; rw [c34b0]) | skip)
            replace H := Option.bind_eq_some_iff.mp H
            obtain ⟨t363, A380, H⟩ := H
            replace H : (graftbedlaw02_TreeMerges.j1 kj2 t343 t346 t349 (!t363) t352 t353 t354) = some r := H
            have A38 := Aside0.mk A380
            clear A380
            have H' := Aside0.mk H
            clear H
            have hnb39 := NB355_362.out
            have hnc39 := NB362_355.out
            have hcz40_0 : w31.cell? ⟨gb355, 0, none⟩ = some (.int .i64 t352) := (blk_cell BK355.out 0).trans rfl
            have hcz40_1 : w31.cell? ⟨gb355, 1, none⟩ = some (.string t353) := (blk_cell BK355.out 1).trans rfl
            have hcz40_2 : w31.cell? ⟨gb355, 2, none⟩ = some (.int .i64 t354) := (blk_cell BK355.out 2).trans rfl
            have hfz40_0 := blk_frozen BK355.out 0
            have hfz40_1 := blk_frozen BK355.out 1
            have hfz40_2 := blk_frozen BK355.out 2
            have hcz41_0 : w31.cell? ⟨gb362, 0, none⟩ = some (.int .i64 0) := (blk_cell BK362.out 0).trans rfl
            have hcz41_1 : w31.cell? ⟨gb362, 1, none⟩ = some (.string (⟨#[]⟩ : ByteArray)) := (blk_cell BK362.out 1).trans rfl
            have hcz41_2 : w31.cell? ⟨gb362, 2, none⟩ = some (.int .i64 0) := (blk_cell BK362.out 2).trans rfl
            have hfz41_0 := blk_frozen BK362.out 0
            have hfz41_1 := blk_frozen BK362.out 1
            have hfz41_2 := blk_frozen BK362.out 2
            obtain ⟨Ao42, co42, eo42⟩ := Kd.R_slice HO351.out
            subst eo42
            obtain ⟨Ao43, co43, eo43⟩ := Kd.R_slice HO358.out
            subst eo43
            go_wp2_with (first | (go_at_call 15; (with_reducible refine (graftbedref02_Same.calls kj2 _ _ t349 _ _ t356 t363 _ ?side1 ?side2 ?side3 ?side4 A38.out).mono ?_); (case side1 => refine (Kd.R_reads' (e := 24) (base := w.heap.size) (ok := fun k_ => (((True ∧ some k_ ≠ (.slice Ao25 t343.length co25 : Value).ownBlock) ∧ some k_ ≠ (.slice Ao26 t346.length co26 : Value).ownBlock) ∧ some k_ ≠ (.slice Ao43 t356.length co43 : Value).ownBlock)) (n := t349.length) (c := co42) ?_).2.2; exact (by (with_reducible repeat (first | apply Kd.R_alloc | apply Kd.R_drewN | apply Kd.R_drew)); exact (Kd.R_mono (Kd.R_far (p := ⟨gb362, 2, none⟩) (Kd.R_far (p := ⟨gb362, 1, none⟩) (Kd.R_far (p := ⟨gb362, 0, none⟩) (Kd.R_types HO351.out BK362.out (by decide)) (fun _ hk => hk.2) (.int .i64 t359)) (fun _ hk => hk.2) (.string t360)) (fun _ hk => hk.2) (.int .i64 t361)) (fun _ h_ => h_.1)))); (case side2 => exact (Kd.R_reads' HO351.out).2.1); (case side3 => refine (Kd.R_reads' (e := 24) (base := w.heap.size) (ok := fun k_ => (((True ∧ some k_ ≠ (.slice Ao25 t343.length co25 : Value).ownBlock) ∧ some k_ ≠ (.slice Ao26 t346.length co26 : Value).ownBlock) ∧ some k_ ≠ (.slice Ao42 t349.length co42 : Value).ownBlock)) (n := t356.length) (c := co43) ?_).2.2; exact (by (with_reducible repeat (first | apply Kd.R_alloc | apply Kd.R_drewN | apply Kd.R_drew)); exact (Kd.R_mono (Kd.R_far (p := ⟨gb362, 2, none⟩) (Kd.R_far (p := ⟨gb362, 1, none⟩) (Kd.R_far (p := ⟨gb362, 0, none⟩) (Kd.R_types HO358.out BK362.out (by decide)) (fun _ hk => hk.2) (.int .i64 t359)) (fun _ hk => hk.2) (.string t360)) (fun _ hk => hk.2) (.int .i64 t361)) (fun _ h_ => h_.1)))); (case side4 => exact (Kd.R_reads' HO358.out).2.1); rintro e w' ⟨rfl, ⟨nd, rfl⟩⟩))
            go_meet
            case rel => exact ⟨_, (!t363), (by first | rfl | (simp; done) | (simp [*]; done)), H', ⟨by have := HJ2.out; first | omega | exact Nat.le_refl _⟩, ⟨by (with_reducible repeat (first | apply Kd.R_alloc | apply Kd.R_drewN | apply Kd.R_drew)); exact Kd.R_mono (Kd.R_far (p := ⟨gb362, 2, none⟩) (Kd.R_far (p := ⟨gb362, 1, none⟩) (Kd.R_far (p := ⟨gb362, 0, none⟩) (Kd.R_types HO345.out BK362.out (by decide)) (fun _ hk => hk.2) (.int .i64 t359)) (fun _ hk => hk.2) (.string t360)) (fun _ hk => hk.2) (.int .i64 t361)) (fun _ hk => ⟨hk.1.1.1.2, hk.1.1.2⟩)⟩, ⟨by (with_reducible repeat (first | apply Kd.R_alloc | apply Kd.R_drewN | apply Kd.R_drew)); exact Kd.R_mono (Kd.R_far (p := ⟨gb362, 2, none⟩) (Kd.R_far (p := ⟨gb362, 1, none⟩) (Kd.R_far (p := ⟨gb362, 0, none⟩) (Kd.R_types HO348.out BK362.out (by decide)) (fun _ hk => hk.2) (.int .i64 t359)) (fun _ hk => hk.2) (.string t360)) (fun _ hk => hk.2) (.int .i64 t361)) (fun _ hk => ⟨hk.1.1.1.2, hk.1.1.2⟩)⟩, ⟨by (with_reducible repeat (first | apply Kd.R_alloc | apply Kd.R_drewN | apply Kd.R_drew)); exact Kd.R_mono (Kd.R_far (p := ⟨gb362, 2, none⟩) (Kd.R_far (p := ⟨gb362, 1, none⟩) (Kd.R_far (p := ⟨gb362, 0, none⟩) (Kd.R_types HO351.out BK362.out (by decide)) (fun _ hk => hk.2) (.int .i64 t359)) (fun _ hk => hk.2) (.string t360)) (fun _ hk => hk.2) (.int .i64 t361)) (fun _ hk => ⟨hk.1.1.1.2, hk.1.1.2⟩)⟩, ⟨by (with_reducible repeat (first | refine blk_drewN ?_ _ | refine blk_drew ?_ | refine blk_alloc ?_ _)); refine blk_far ?_ NB355_362.out _; (with_reducible repeat (first | refine blk_drewN ?_ _ | refine blk_drew ?_ | refine blk_alloc ?_ _)); refine blk_far ?_ NB355_362.out _; (with_reducible repeat (first | refine blk_drewN ?_ _ | refine blk_drew ?_ | refine blk_alloc ?_ _)); refine blk_far ?_ NB355_362.out _; (with_reducible repeat (first | refine blk_drewN ?_ _ | refine blk_drew ?_ | refine blk_alloc ?_ _)); exact BK355.out⟩, ⟨by (with_reducible repeat (first | refine blk_drewN ?_ _ | refine blk_drew ?_ | refine blk_alloc ?_ _)); refine blk_put (cs := #[.int .i64 t359, .string t360, .int .i64 0]) ?_ 2 _ rfl; (with_reducible repeat (first | refine blk_drewN ?_ _ | refine blk_drew ?_ | refine blk_alloc ?_ _)); refine blk_put (cs := #[.int .i64 t359, .string (⟨#[]⟩ : ByteArray), .int .i64 0]) ?_ 1 _ rfl; (with_reducible repeat (first | refine blk_drewN ?_ _ | refine blk_drew ?_ | refine blk_alloc ?_ _)); refine blk_put (cs := #[.int .i64 0, .string (⟨#[]⟩ : ByteArray), .int .i64 0]) ?_ 0 _ rfl; (with_reducible repeat (first | refine blk_drewN ?_ _ | refine blk_drew ?_ | refine blk_alloc ?_ _)); exact BK362.out⟩, ⟨by repeat (first | (with_reducible first | exact HB.out | apply below_alloc | apply pw_below_drewN | apply below_drew1 | refine below_set ?_ GE355.out | refine below_set ?_ GE362.out) | exact HB.out)⟩⟩
        case rest =>
          clear HC22
          try clear c1
          try clear p2
          try clear c3
          try clear c5
          try clear c8
          try clear c11
          try clear c12
          try clear c13
          try clear c15
          try clear c17
          try clear c18
          try clear c32
          try clear c34
          try clear c34b0
          try clear c35
          try clear c39
          try clear hcz29_0
          try clear hcz29_1
          try clear hcz29_2
          try clear hcz33_0
          try clear hcz33_1
          try clear hcz33_2
          try clear hcz36_0
          try clear hcz36_1
          try clear hcz36_2
          try clear hcz37_0
          try clear hcz37_1
          try clear hcz37_2
          try clear hcz40_0
          try clear hcz40_1
          try clear hcz40_2
          try clear hcz41_0
          try clear hcz41_1
          try clear hcz41_2
          try clear hfz29_0
          try clear hfz29_1
          try clear hfz29_2
          try clear hfz33_0
          try clear hfz33_1
          try clear hfz33_2
          try clear hfz36_0
          try clear hfz36_1
          try clear hfz36_2
          try clear hfz37_0
          try clear hfz37_1
          try clear hfz37_2
          try clear hfz40_0
          try clear hfz40_1
          try clear hfz40_2
          try clear hfz41_0
          try clear hfz41_1
          try clear hfz41_2
          try clear p2
          obtain ⟨kq, x53_21, rfl, HA, HJ21, HO_5, HO_6, HO_7, BK355, BK362, HB⟩ := hcut
          cases kq with
          | zero => exact absurd HA.out (by simp [graftbedlaw02_TreeMerges.j1])
          | succ kj21 =>
            have H := HA.out
            clear HA
            simp only [graftbedlaw02_TreeMerges.j1] at H
            by_cases c44 : x53_21 = true
            · subst c44
              have H1 : (some false) = some r := by rw [if_pos rfl] at H; exact H
              clear H
              have H := H1
              clear H1
              exact absurd (Option.some.inj H) (by rw [hr_.out]; decide)
            · replace c44 := Bool.eq_false_iff.mpr c44
              subst c44
              have H1 : (if (!(t352 == 0) || (!(t353.toList == ([] : List UInt8)) || (!(t354 == 0)))) = true then (some ((t349.length : Int) == 0)) else ((tree_Merge.f t346 t343).bind fun bt364 => (graftbedlaw02_TreeMerges.l0 kj21 t343 t346 t349 bt364.1 0 bt364.2.1 bt364.2.2.1 bt364.2.2.2))) = some r := by rw [if_neg (show ¬ (false = true) by decide)] at H; exact H
              clear H
              have H := H1
              clear H1
              by_cases c45 : (!(t352 == 0) || (!(t353.toList == ([] : List UInt8)) || (!(t354 == 0)))) = true
              · rw [if_pos c45] at H
                have c45b0 : (!(t352 == 0) || (!(t353.toList == ([] : List UInt8)) || (!(t354 == 0)))) = true := c45
                have c45b0i := c45b0; simp only [show ∀ l_ : List UInt8, (l_ == []) = l_.isEmpty from fun l_ => by cases l_ <;> rfl] at c45b0i
                clear c45
                obtain rfl := Option.some.inj H
                have hnb46 := NB355_362.out
                have hnc46 := NB362_355.out
                have hcz47_0 : wc.cell? ⟨gb355, 0, none⟩ = some (.int .i64 t352) := (blk_cell BK355.out 0).trans rfl
                have hcz47_1 : wc.cell? ⟨gb355, 1, none⟩ = some (.string t353) := (blk_cell BK355.out 1).trans rfl
                have hcz47_2 : wc.cell? ⟨gb355, 2, none⟩ = some (.int .i64 t354) := (blk_cell BK355.out 2).trans rfl
                have hfz47_0 := blk_frozen BK355.out 0
                have hfz47_1 := blk_frozen BK355.out 1
                have hfz47_2 := blk_frozen BK355.out 2
                obtain ⟨Ao48, co48, eo48⟩ := Kd.R_slice HO_7.out
                subst eo48
                go_wp2
                go_ret
                exact ⟨by first | rfl | (simp [errW_none, errW_some] <;> rfl) | (simp [*, errW_none, errW_some] <;> rfl) | (exfalso; simp only [decide_eq_true_eq, decide_eq_false_iff_not, beq_iff_eq, beq_eq_false_iff_ne] at *; first | contradiction | omega), by repeat (first | (with_reducible first | exact HB.out | apply below_alloc | apply pw_below_drewN | apply below_drew1 | refine below_set ?_ GE355.out | refine below_set ?_ GE362.out) | exact HB.out)⟩
              · rw [if_neg c45] at H
                have c45b0 : (!(t352 == 0) || (!(t353.toList == ([] : List UInt8)) || (!(t354 == 0)))) = false := by simpa using c45
                have c45b0i := c45b0; simp only [show ∀ l_ : List UInt8, (l_ == []) = l_.isEmpty from fun l_ => by cases l_ <;> rfl] at c45b0i
                clear c45
                replace H := Option.bind_eq_some_iff.mp H
                obtain ⟨⟨t364, t367, t368, t369⟩, A490, H⟩ := H
                replace H : (graftbedlaw02_TreeMerges.l0 kj21 t343 t346 t349 t364 0 t367 t368 t369) = some r := H
                have A49 := Aside0.mk A490
                clear A490
                have H' := Aside0.mk H
                clear H
                have hnb50 := NB355_362.out
                have hnc50 := NB362_355.out
                have hcz51_0 : wc.cell? ⟨gb355, 0, none⟩ = some (.int .i64 t352) := (blk_cell BK355.out 0).trans rfl
                have hcz51_1 : wc.cell? ⟨gb355, 1, none⟩ = some (.string t353) := (blk_cell BK355.out 1).trans rfl
                have hcz51_2 : wc.cell? ⟨gb355, 2, none⟩ = some (.int .i64 t354) := (blk_cell BK355.out 2).trans rfl
                have hfz51_0 := blk_frozen BK355.out 0
                have hfz51_1 := blk_frozen BK355.out 1
                have hfz51_2 := blk_frozen BK355.out 2
                go_wp2_with (first | ((with_reducible refine gate_callee (f := 17) rfl ?_); refine goesL_ (some 63) rfl rfl Try.func17 (by kernel_rfl) rfl #[.slice Ao26 t346.length co26, .slice Ao25 t343.length co25] rfl (by (try simp only [List.map_toArray, List.map_cons, List.map_nil]); first | done | rfl | (simp only [List.length_drop, List.length_take]; rfl) | (simp only [ByteArray.size_extract, Nat.min_self]; done) | (simp only [ByteArray.size_append, StrMore.size_lit, List.length_cons, List.length_nil, Nat.zero_add, Nat.reduceAdd] <;> rfl)) ?_; (with_reducible refine (tree_Merge.calls _ _ t346 _ _ t343 t364 t367 t368 t369 _ ?side1 ?side2 ?side3 ?side4 A49.out).mono ?_); (case side1 => repeat (first | exact (Kd.R_reads' HO_6.out).2.2 | (with_reducible refine Kd.C_alloc ?_ _) | (with_reducible refine Kd.C_drewN ?_ _) | (with_reducible refine Kd.C_drew ?_))); (case side2 => exact (Kd.R_reads' HO_6.out).2.1); (case side3 => repeat (first | exact (Kd.R_reads' HO_5.out).2.2 | (with_reducible refine Kd.C_alloc ?_ _) | (with_reducible refine Kd.C_drewN ?_ _) | (with_reducible refine Kd.C_drew ?_))); (case side4 => exact (Kd.R_reads' HO_5.out).2.1); rintro e w52 ⟨v365, rfl, ho0, hb⟩; refine ⟨_, rfl, ?_⟩; have n0_ := Aside0.mk (Kd.R_elder' (by (with_reducible repeat (first | apply Kd.R_alloc | apply Kd.R_drewN | apply Kd.R_drew)); exact HO_5.out) (Kd.R_base ho0) hb); have n1_ := Aside0.mk (Kd.R_elder' (by (with_reducible repeat (first | apply Kd.R_alloc | apply Kd.R_drewN | apply Kd.R_drew)); exact HO_6.out) (Kd.R_base ho0) hb); have n2_ := Aside0.mk (Kd.R_elder' (by (with_reducible repeat (first | apply Kd.R_alloc | apply Kd.R_drewN | apply Kd.R_drew)); exact HO_7.out) (Kd.R_base ho0) hb); have n3_ := Aside0.mk (Kd.R_lower (Kd.R_new' (Kd.R_new' (Kd.R_new' ho0 (Kd.R_lt (by (with_reducible repeat (first | apply Kd.R_alloc | apply Kd.R_drewN | apply Kd.R_drew)); exact HO_5.out))) (Kd.R_lt (by (with_reducible repeat (first | apply Kd.R_alloc | apply Kd.R_drewN | apply Kd.R_drew)); exact HO_6.out))) (Kd.R_lt (by (with_reducible repeat (first | apply Kd.R_alloc | apply Kd.R_drewN | apply Kd.R_drew)); exact HO_7.out))) (below_size (by repeat (first | (with_reducible first | exact HB.out | apply below_alloc | apply pw_below_drewN | apply below_drew1 | refine below_set ?_ GE355.out | refine below_set ?_ GE362.out) | exact HB.out)))); have n4_ := Aside0.mk (blk_below (g := gb355) (o := .cells #[.int .i64 t352, .string t353, .int .i64 t354] 37 (0, 0)) (by (with_reducible repeat (first | refine blk_drewN ?_ _ | refine blk_drew ?_ | refine blk_alloc ?_ _)); exact BK355.out) hb); have n5_ := Aside0.mk (blk_below (g := gb362) (o := .cells #[.int .i64 t359, .string t360, .int .i64 t361] 37 (0, 0)) (by (with_reducible repeat (first | refine blk_drewN ?_ _ | refine blk_drew ?_ | refine blk_alloc ?_ _)); exact BK362.out) hb); have n6_ := Aside0.mk (below_step (by repeat (first | (with_reducible first | exact HB.out | apply below_alloc | apply pw_below_drewN | apply below_drew1 | refine below_set ?_ GE355.out | refine below_set ?_ GE362.out) | exact HB.out)) hb); clear HO_5; clear HO_6; clear HO_7; clear BK355; clear BK362; clear HB; have HO_5 := n0_; have HO_6 := n1_; have HO_7 := n2_; have HO366 := n3_; have BK355 := n4_; have BK362 := n5_; have HB := n6_; clear n0_ n1_ n2_ n3_ n4_ n5_ n6_; (try clear hb); (try clear hb2); (try clear hk); (try clear hi); (try clear ho0)) | ((with_reducible refine gate_dst (N := 12) rfl ?_); (try (refine gate_guard (by rfl) ?_; dsimp only)); refine box_event ?hg (N := 12) ?hd (cs := #[.int .i64 0, .string (⟨#[]⟩ : ByteArray), .int .i64 0]) (t := 37) ?hr ?_; (case hd => rfl); (case hg => rfl); (case hr => first | (go_simp; done) | (go_simp; rfl)); intro gb370 hg w53 hbox hb; have n0_ := Aside0.mk (Kd.R_below (by (with_reducible repeat (first | apply Kd.R_alloc | apply Kd.R_drewN | apply Kd.R_drew)); exact HO_5.out) hb); have n1_ := Aside0.mk (Kd.R_below (by (with_reducible repeat (first | apply Kd.R_alloc | apply Kd.R_drewN | apply Kd.R_drew)); exact HO_6.out) hb); have n2_ := Aside0.mk (Kd.R_below (by (with_reducible repeat (first | apply Kd.R_alloc | apply Kd.R_drewN | apply Kd.R_drew)); exact HO_7.out) hb); have n3_ := Aside0.mk (Kd.R_below (by (with_reducible repeat (first | apply Kd.R_alloc | apply Kd.R_drewN | apply Kd.R_drew)); exact HO366.out) hb); have n4_ := Aside0.mk (blk_below (g := gb355) (o := .cells #[.int .i64 t352, .string t353, .int .i64 t354] 37 (0, 0)) (by (with_reducible repeat (first | refine blk_drewN ?_ _ | refine blk_drew ?_ | refine blk_alloc ?_ _)); exact BK355.out) hb); have n5_ := Aside0.mk (blk_below (g := gb362) (o := .cells #[.int .i64 t359, .string t360, .int .i64 t361] 37 (0, 0)) (by (with_reducible repeat (first | refine blk_drewN ?_ _ | refine blk_drew ?_ | refine blk_alloc ?_ _)); exact BK362.out) hb); have n6_ := Aside0.mk (below_step (by repeat (first | (with_reducible first | exact HB.out | apply below_alloc | apply pw_below_drewN | apply below_drew1 | refine below_set ?_ GE355.out | refine below_set ?_ GE362.out) | exact HB.out)) hb); have n7_ := Aside0.mk (hbox); have n8_ := Aside0.mk ((by rw [hg]; exact (below_size (by repeat (first | (with_reducible first | exact HB.out | apply below_alloc | apply pw_below_drewN | apply below_drew1 | refine below_set ?_ GE355.out | refine below_set ?_ GE362.out) | exact HB.out))) : w.heap.size ≤ gb370)); have n9_ := Aside0.mk ((by rw [hg]; exact (below_size (by repeat (first | (with_reducible first | exact HB.out | apply below_alloc | apply pw_below_drewN | apply below_drew1 | refine below_set ?_ GE355.out | refine below_set ?_ GE362.out) | exact HB.out))) : w.heap.size ≤ gb370)); have n10_ := Aside0.mk ((by rw [hg]; exact Nat.ne_of_lt (blk_lt (g := gb355) (o := .cells #[.int .i64 t352, .string t353, .int .i64 t354] 37 (0, 0)) (by (with_reducible repeat (first | refine blk_drewN ?_ _ | refine blk_drew ?_ | refine blk_alloc ?_ _)); exact BK355.out)) : gb355 ≠ gb370)); have n11_ := Aside0.mk ((by rw [hg]; exact Nat.ne_of_gt (blk_lt (g := gb355) (o := .cells #[.int .i64 t352, .string t353, .int .i64 t354] 37 (0, 0)) (by (with_reducible repeat (first | refine blk_drewN ?_ _ | refine blk_drew ?_ | refine blk_alloc ?_ _)); exact BK355.out)) : gb370 ≠ gb355)); have n12_ := Aside0.mk ((by rw [hg]; exact Nat.ne_of_lt (blk_lt (g := gb362) (o := .cells #[.int .i64 t359, .string t360, .int .i64 t361] 37 (0, 0)) (by (with_reducible repeat (first | refine blk_drewN ?_ _ | refine blk_drew ?_ | refine blk_alloc ?_ _)); exact BK362.out)) : gb362 ≠ gb370)); have n13_ := Aside0.mk ((by rw [hg]; exact Nat.ne_of_gt (blk_lt (g := gb362) (o := .cells #[.int .i64 t359, .string t360, .int .i64 t361] 37 (0, 0)) (by (with_reducible repeat (first | refine blk_drewN ?_ _ | refine blk_drew ?_ | refine blk_alloc ?_ _)); exact BK362.out)) : gb370 ≠ gb362)); clear HO_5; clear HO_6; clear HO_7; clear HO366; clear BK355; clear BK362; clear HB; have HO_5 := n0_; have HO_6 := n1_; have HO_7 := n2_; have HO366 := n3_; have BK355 := n4_; have BK362 := n5_; have HB := n6_; have BK370 := n7_; have GW370 := n8_; have GE370 := n9_; have NB355_370 := n10_; have NB370_355 := n11_; have NB362_370 := n12_; have NB370_362 := n13_; clear n0_ n1_ n2_ n3_ n4_ n5_ n6_ n7_ n8_ n9_ n10_ n11_ n12_ n13_; clear hb hbox hg; have hnb54 := NB370_355.out; have hnc54 := NB355_370.out; have hnb55 := NB370_362.out; have hnc55 := NB362_370.out; have hcz56_0 : w53.cell? ⟨gb370, 0, none⟩ = some (.int .i64 0) := (blk_cell BK370.out 0).trans rfl; have hcz56_1 : w53.cell? ⟨gb370, 1, none⟩ = some (.string (⟨#[]⟩ : ByteArray)) := (blk_cell BK370.out 1).trans rfl; have hcz56_2 : w53.cell? ⟨gb370, 2, none⟩ = some (.int .i64 0) := (blk_cell BK370.out 2).trans rfl; have hfz56_0 := blk_frozen BK370.out 0; have hfz56_1 := blk_frozen BK370.out 1; have hfz56_2 := blk_frozen BK370.out 2))
                go_loopg [13] kj21 (fun kq v13 w' => ∃ (x13_3 : Int), v13 = .int .i64 x13_3 ∧ Aside0 (graftbedlaw02_TreeMerges.l0 kq t343 t346 t349 t364 x13_3 t367 t368 t369 = some r) ∧ Aside0 (kq ≤ kj21) ∧ Aside0 (Kd.R k24 24 w' w.heap.size (fun k_ => some k_ ≠ ((.slice Ao26 t346.length co26) : Value).ownBlock ∧ some k_ ≠ (v350 : Value).ownBlock ∧ some k_ ≠ (v365 : Value).ownBlock) (.slice Ao25 t343.length co25) t343) ∧ Aside0 (Kd.R k24 24 w' w.heap.size (fun k_ => some k_ ≠ ((.slice Ao25 t343.length co25) : Value).ownBlock ∧ some k_ ≠ (v350 : Value).ownBlock ∧ some k_ ≠ (v365 : Value).ownBlock) (.slice Ao26 t346.length co26) t346) ∧ Aside0 (Kd.R k24 24 w' w.heap.size (fun k_ => some k_ ≠ ((.slice Ao25 t343.length co25) : Value).ownBlock ∧ some k_ ≠ ((.slice Ao26 t346.length co26) : Value).ownBlock ∧ some k_ ≠ (v365 : Value).ownBlock) v350 t349) ∧ Aside0 (Kd.R k24 24 w' w.heap.size (fun k_ => some k_ ≠ ((.slice Ao25 t343.length co25) : Value).ownBlock ∧ some k_ ≠ ((.slice Ao26 t346.length co26) : Value).ownBlock ∧ some k_ ≠ (v350 : Value).ownBlock) v365 t364) ∧ Aside0 (w'.heap[gb355]? = some (.cells #[.int .i64 t352, .string t353, .int .i64 t354] 37 (0, 0))) ∧ Aside0 (w'.heap[gb362]? = some (.cells #[.int .i64 t359, .string t360, .int .i64 t361] 37 (0, 0))) ∧ Aside0 (w'.heap[gb370]? = some (.cells #[.int .i64 t367, .string t368, .int .i64 t369] 37 (0, 0))) ∧ Aside0 (Below w.heap.size w w'))
                case atStart => exact ⟨(0), (by first | rfl | (simp; done) | (simp [*]; done)), H', ⟨Nat.le_refl _⟩, ⟨by (with_reducible repeat (first | apply Kd.R_alloc | apply Kd.R_drewN | apply Kd.R_drew)); exact Kd.R_mono (Kd.R_far (p := ⟨gb370, 2, none⟩) (Kd.R_far (p := ⟨gb370, 1, none⟩) (Kd.R_far (p := ⟨gb370, 0, none⟩) (Kd.R_types HO_5.out BK370.out (by decide)) (fun _ hk => hk.2) (.int .i64 t367)) (fun _ hk => hk.2) (.string t368)) (fun _ hk => hk.2) (.int .i64 t369)) (fun _ hk => ⟨hk.1.1.1, ⟨hk.1.1.2, hk.1.2⟩⟩)⟩, ⟨by (with_reducible repeat (first | apply Kd.R_alloc | apply Kd.R_drewN | apply Kd.R_drew)); exact Kd.R_mono (Kd.R_far (p := ⟨gb370, 2, none⟩) (Kd.R_far (p := ⟨gb370, 1, none⟩) (Kd.R_far (p := ⟨gb370, 0, none⟩) (Kd.R_types HO_6.out BK370.out (by decide)) (fun _ hk => hk.2) (.int .i64 t367)) (fun _ hk => hk.2) (.string t368)) (fun _ hk => hk.2) (.int .i64 t369)) (fun _ hk => ⟨hk.1.1.1, ⟨hk.1.1.2, hk.1.2⟩⟩)⟩, ⟨by (with_reducible repeat (first | apply Kd.R_alloc | apply Kd.R_drewN | apply Kd.R_drew)); exact Kd.R_mono (Kd.R_far (p := ⟨gb370, 2, none⟩) (Kd.R_far (p := ⟨gb370, 1, none⟩) (Kd.R_far (p := ⟨gb370, 0, none⟩) (Kd.R_types HO_7.out BK370.out (by decide)) (fun _ hk => hk.2) (.int .i64 t367)) (fun _ hk => hk.2) (.string t368)) (fun _ hk => hk.2) (.int .i64 t369)) (fun _ hk => ⟨hk.1.1.1, ⟨hk.1.1.2, hk.1.2⟩⟩)⟩, ⟨by (with_reducible repeat (first | apply Kd.R_alloc | apply Kd.R_drewN | apply Kd.R_drew)); exact Kd.R_mono (Kd.R_far (p := ⟨gb370, 2, none⟩) (Kd.R_far (p := ⟨gb370, 1, none⟩) (Kd.R_far (p := ⟨gb370, 0, none⟩) (Kd.R_types HO366.out BK370.out (by decide)) (fun _ hk => hk.2) (.int .i64 t367)) (fun _ hk => hk.2) (.string t368)) (fun _ hk => hk.2) (.int .i64 t369)) (fun _ hk => ⟨hk.1.1.1.2, ⟨hk.1.1.2, hk.1.2⟩⟩)⟩, ⟨by (with_reducible repeat (first | refine blk_drewN ?_ _ | refine blk_drew ?_ | refine blk_alloc ?_ _)); refine blk_far ?_ NB355_370.out _; (with_reducible repeat (first | refine blk_drewN ?_ _ | refine blk_drew ?_ | refine blk_alloc ?_ _)); refine blk_far ?_ NB355_370.out _; (with_reducible repeat (first | refine blk_drewN ?_ _ | refine blk_drew ?_ | refine blk_alloc ?_ _)); refine blk_far ?_ NB355_370.out _; (with_reducible repeat (first | refine blk_drewN ?_ _ | refine blk_drew ?_ | refine blk_alloc ?_ _)); exact BK355.out⟩, ⟨by (with_reducible repeat (first | refine blk_drewN ?_ _ | refine blk_drew ?_ | refine blk_alloc ?_ _)); refine blk_far ?_ NB362_370.out _; (with_reducible repeat (first | refine blk_drewN ?_ _ | refine blk_drew ?_ | refine blk_alloc ?_ _)); refine blk_far ?_ NB362_370.out _; (with_reducible repeat (first | refine blk_drewN ?_ _ | refine blk_drew ?_ | refine blk_alloc ?_ _)); refine blk_far ?_ NB362_370.out _; (with_reducible repeat (first | refine blk_drewN ?_ _ | refine blk_drew ?_ | refine blk_alloc ?_ _)); exact BK362.out⟩, ⟨by (with_reducible repeat (first | refine blk_drewN ?_ _ | refine blk_drew ?_ | refine blk_alloc ?_ _)); refine blk_put (cs := #[.int .i64 t367, .string t368, .int .i64 0]) ?_ 2 _ rfl; (with_reducible repeat (first | refine blk_drewN ?_ _ | refine blk_drew ?_ | refine blk_alloc ?_ _)); refine blk_put (cs := #[.int .i64 t367, .string (⟨#[]⟩ : ByteArray), .int .i64 0]) ?_ 1 _ rfl; (with_reducible repeat (first | refine blk_drewN ?_ _ | refine blk_drew ?_ | refine blk_alloc ?_ _)); refine blk_put (cs := #[.int .i64 0, .string (⟨#[]⟩ : ByteArray), .int .i64 0]) ?_ 0 _ rfl; (with_reducible repeat (first | refine blk_drewN ?_ _ | refine blk_drew ?_ | refine blk_alloc ?_ _)); exact BK370.out⟩, ⟨by repeat (first | (with_reducible first | exact HB.out | apply below_alloc | apply pw_below_drewN | apply below_drew1 | refine below_set ?_ GE355.out | refine below_set ?_ GE362.out | refine below_set ?_ GE370.out) | exact HB.out)⟩⟩
                case round =>
                  clear H'
                  try clear c1
                  try clear p2
                  try clear c3
                  try clear c4
                  try clear c5
                  try clear c8
                  try clear c11
                  try clear c12
                  try clear c13
                  try clear c15
                  try clear c17
                  try clear c18
                  try clear c32
                  try clear c34
                  try clear c34b0
                  try clear c35
                  try clear c39
                  try clear c44
                  try clear c45
                  try clear c45b0
                  try clear c46
                  try clear c50
                  try clear c54
                  try clear c55
                  try clear hcz29_0
                  try clear hcz29_1
                  try clear hcz29_2
                  try clear hcz33_0
                  try clear hcz33_1
                  try clear hcz33_2
                  try clear hcz36_0
                  try clear hcz36_1
                  try clear hcz36_2
                  try clear hcz37_0
                  try clear hcz37_1
                  try clear hcz37_2
                  try clear hcz40_0
                  try clear hcz40_1
                  try clear hcz40_2
                  try clear hcz41_0
                  try clear hcz41_1
                  try clear hcz41_2
                  try clear hcz47_0
                  try clear hcz47_1
                  try clear hcz47_2
                  try clear hcz51_0
                  try clear hcz51_1
                  try clear hcz51_2
                  try clear hcz56_0
                  try clear hcz56_1
                  try clear hcz56_2
                  try clear hfz29_0
                  try clear hfz29_1
                  try clear hfz29_2
                  try clear hfz33_0
                  try clear hfz33_1
                  try clear hfz33_2
                  try clear hfz36_0
                  try clear hfz36_1
                  try clear hfz36_2
                  try clear hfz37_0
                  try clear hfz37_1
                  try clear hfz37_2
                  try clear hfz40_0
                  try clear hfz40_1
                  try clear hfz40_2
                  try clear hfz41_0
                  try clear hfz41_1
                  try clear hfz41_2
                  try clear hfz47_0
                  try clear hfz47_1
                  try clear hfz47_2
                  try clear hfz51_0
                  try clear hfz51_1
                  try clear hfz51_2
                  try clear hfz56_0
                  try clear hfz56_1
                  try clear hfz56_2
                  try clear p2
                  obtain ⟨x13_3, rfl, HA, HK3, HO_5, HO_6, HO_7, HO_11, BK355, BK362, BK370, HB⟩ := hrel
                  cases gk with
                  | zero => exact absurd HA.out (by simp [graftbedlaw02_TreeMerges.l0])
                  | succ k3 =>
                    have H := HA.out
                    clear HA
                    simp only [graftbedlaw02_TreeMerges.l0] at H
                    by_cases c57 : x13_3 < (t349.length : Int)
                    · rw [if_pos c57] at H
                      have c57b0 : decide (x13_3 < (t349.length : Int)) = true := decide_eq_true c57
                      clear c57
                      by_cases c58 : 0 ≤ x13_3
                      · rw [if_pos c58] at H
                        have c58b0 : decide (0 ≤ x13_3) = true := decide_eq_true c58
                        clear c58
                        replace H := Option.bind_eq_some_iff.mp H
                        obtain ⟨⟨t376, t377⟩, A590, H⟩ := H
                        replace H : ((graftbedref02_Find.f k3 t346 ((rd_T24 t349 x13_3).f0)).bind fun bt379 => (if t377 = true then (if t376.toList = ((rd_T24 t349 x13_3).f1).toList then (if bt379.2 = true then (if bt379.1.toList = ((rd_T24 t349 x13_3).f1).toList then (graftbedlaw02_TreeMerges.l0 k3 t343 t346 t349 t364 (wrap64 (x13_3 + 1)) t367 t368 t369) else (some false)) else (graftbedlaw02_TreeMerges.l0 k3 t343 t346 t349 t364 (wrap64 (x13_3 + 1)) t367 t368 t369)) else (some false)) else (if bt379.2 = true then (if bt379.1.toList = ((rd_T24 t349 x13_3).f1).toList then (graftbedlaw02_TreeMerges.l0 k3 t343 t346 t349 t364 (wrap64 (x13_3 + 1)) t367 t368 t369) else (some false)) else (some false)))) = some r := H
                        have A59 := Aside0.mk A590
                        clear A590
                        replace H := Option.bind_eq_some_iff.mp H
                        obtain ⟨⟨t379, t380⟩, A600, H⟩ := H
                        replace H : (if t377 = true then (if t376.toList = ((rd_T24 t349 x13_3).f1).toList then (if t380 = true then (if t379.toList = ((rd_T24 t349 x13_3).f1).toList then (graftbedlaw02_TreeMerges.l0 k3 t343 t346 t349 t364 (wrap64 (x13_3 + 1)) t367 t368 t369) else (some false)) else (graftbedlaw02_TreeMerges.l0 k3 t343 t346 t349 t364 (wrap64 (x13_3 + 1)) t367 t368 t369)) else (some false)) else (if t380 = true then (if t379.toList = ((rd_T24 t349 x13_3).f1).toList then (graftbedlaw02_TreeMerges.l0 k3 t343 t346 t349 t364 (wrap64 (x13_3 + 1)) t367 t368 t369) else (some false)) else (some false))) = some r := H
                        have A60 := Aside0.mk A600
                        clear A600
                        by_cases c61 : t377 = true
                        · subst c61
                          have H1 : (if t376.toList = ((rd_T24 t349 x13_3).f1).toList then (if t380 = true then (if t379.toList = ((rd_T24 t349 x13_3).f1).toList then (graftbedlaw02_TreeMerges.l0 k3 t343 t346 t349 t364 (wrap64 (x13_3 + 1)) t367 t368 t369) else (some false)) else (graftbedlaw02_TreeMerges.l0 k3 t343 t346 t349 t364 (wrap64 (x13_3 + 1)) t367 t368 t369)) else (some false)) = some r := by rw [if_pos rfl] at H; exact H
                          clear H
                          have H := H1
                          clear H1
                          by_cases c62 : t376.toList = ((rd_T24 t349 x13_3).f1).toList
                          · rw [if_pos c62] at H
                            have c62b0 : (t376.toList == ((rd_T24 t349 x13_3).f1).toList) = true := beq_iff_eq.mpr c62
                            have c62b1 : (t376.toList != ((rd_T24 t349 x13_3).f1).toList) = false := bne_eq_false_iff_eq.mpr c62
                            clear c62
                            by_cases c63 : t380 = true
                            · subst c63
                              have H1 : (if t379.toList = ((rd_T24 t349 x13_3).f1).toList then (graftbedlaw02_TreeMerges.l0 k3 t343 t346 t349 t364 (wrap64 (x13_3 + 1)) t367 t368 t369) else (some false)) = some r := by rw [if_pos rfl] at H; exact H
                              clear H
                              have H := H1
                              clear H1
                              by_cases c64 : t379.toList = ((rd_T24 t349 x13_3).f1).toList
                              · rw [if_pos c64] at H
                                have c64b0 : (t379.toList == ((rd_T24 t349 x13_3).f1).toList) = true := beq_iff_eq.mpr c64
                                have c64b1 : (t379.toList != ((rd_T24 t349 x13_3).f1).toList) = false := bne_eq_false_iff_eq.mpr c64
                                clear c64
                                have H' := Aside0.mk H
                                clear H
                                obtain ⟨Ao65, co65, eo65⟩ := Kd.R_slice HO_7.out
                                subst eo65
                                have p375 : 0 ≤ (x13_3 : Int) := of_decide_eq_true (by first | (with_reducible assumption) | assumption)
                                have q375 : x13_3 < (t349.length : Int) := of_decide_eq_true (by first | (with_reducible assumption) | assumption)
                                obtain ⟨ad375, e375, hx375_0, hx375_1⟩ := at_T24 (Kd.R_reads' HO_7.out).2.2 x13_3 p375 q375
                                cases e375
                                replace p375 := eq_true p375
                                replace q375 := eq_true q375
                                go_wp2_with (first | ((with_reducible refine gate_callee (f := 19) rfl ?_); refine goesL_ (some 79) rfl rfl Try.func19 (by kernel_rfl) rfl #[.slice Ao25 t343.length co25, .string ((rd_T24 t349 x13_3).f0)] rfl (by (try simp only [List.map_toArray, List.map_cons, List.map_nil]); first | done | rfl | (simp only [List.length_drop, List.length_take]; rfl) | (simp only [ByteArray.size_extract, Nat.min_self]; done) | (simp only [ByteArray.size_append, StrMore.size_lit, List.length_cons, List.length_nil, Nat.zero_add, Nat.reduceAdd] <;> rfl)) ?_; (with_reducible refine (graftbedref02_Find.calls k3 _ _ t343 ((rd_T24 t349 x13_3).f0) t376 true _ ?side1 ?side2 A59.out).mono ?_); (all_goals (try clear A59)); (case side1 => repeat (first | exact (Kd.R_reads' HO_5.out).2.2 | (with_reducible refine Kd.C_alloc ?_ _) | (with_reducible refine Kd.C_drewN ?_ _) | (with_reducible refine Kd.C_drew ?_))); (case side2 => exact (Kd.R_reads' HO_5.out).2.1); rintro e w' ⟨rfl, ⟨nd, rfl⟩⟩; refine ⟨_, rfl, ?_⟩; have p378 : 0 ≤ (x13_3 : Int) := of_decide_eq_true (by first | (with_reducible assumption) | assumption); have q378 : x13_3 < (t349.length : Int) := of_decide_eq_true (by first | (with_reducible assumption) | assumption); obtain ⟨ad378, e378, hx378_0, hx378_1⟩ := at_T24 (Kd.R_reads' HO_7.out).2.2 x13_3 p378 q378; obtain rfl : ad375 = ad378 := (by injection e378); replace p378 := eq_true p378; replace q378 := eq_true q378) | ((with_reducible refine gate_callee (f := 19) rfl ?_); refine goesL_ (some 89) rfl rfl Try.func19 (by kernel_rfl) rfl #[.slice Ao26 t346.length co26, .string ((rd_T24 t349 x13_3).f0)] rfl (by (try simp only [List.map_toArray, List.map_cons, List.map_nil]); first | done | rfl | (simp only [List.length_drop, List.length_take]; rfl) | (simp only [ByteArray.size_extract, Nat.min_self]; done) | (simp only [ByteArray.size_append, StrMore.size_lit, List.length_cons, List.length_nil, Nat.zero_add, Nat.reduceAdd] <;> rfl)) ?_; (with_reducible refine (graftbedref02_Find.calls k3 _ _ t346 ((rd_T24 t349 x13_3).f0) t379 true _ ?side1 ?side2 A60.out).mono ?_); (all_goals (try clear A60)); (case side1 => repeat (first | exact (Kd.R_reads' HO_6.out).2.2 | (with_reducible refine Kd.C_alloc ?_ _) | (with_reducible refine Kd.C_drewN ?_ _) | (with_reducible refine Kd.C_drew ?_))); (case side2 => exact (Kd.R_reads' HO_6.out).2.1); rintro e w' ⟨rfl, ⟨nd, rfl⟩⟩; refine ⟨_, rfl, ?_⟩; have p381 : 0 ≤ (x13_3 : Int) := of_decide_eq_true (by first | (with_reducible assumption) | assumption); have q381 : x13_3 < (t349.length : Int) := of_decide_eq_true (by first | (with_reducible assumption) | assumption); obtain ⟨ad381, e381, hx381_0, hx381_1⟩ := at_T24 (Kd.R_reads' HO_7.out).2.2 x13_3 p381 q381; obtain rfl : ad375 = ad381 := (by injection e381); replace p381 := eq_true p381; replace q381 := eq_true q381; have p382 : 0 ≤ (x13_3 : Int) := of_decide_eq_true (by first | (with_reducible assumption) | assumption); have q382 : x13_3 < (t349.length : Int) := of_decide_eq_true (by first | (with_reducible assumption) | assumption); obtain ⟨ad382, e382, hx382_0, hx382_1⟩ := at_T24 (Kd.R_reads' HO_7.out).2.2 x13_3 p382 q382; obtain rfl : ad375 = ad382 := (by injection e382); replace p382 := eq_true p382; replace q382 := eq_true q382))
                                go_roundg k3
                                case measure => have := HJ2.out; have := HJ21.out; have := HK3.out; omega
                                case rel => exact ⟨(wrap64 (x13_3 + 1)), (by first | rfl | (simp; done) | (simp [*]; done)), H', ⟨by have := HJ2.out; have := HJ21.out; have := HK3.out; omega⟩, ⟨by (with_reducible repeat (first | apply Kd.R_alloc | apply Kd.R_drewN | apply Kd.R_drew)); first | exact HO_5.out | (have e_ := HO_5.out; simp only [StrOrd.own_any] at e_ ⊢; exact e_)⟩, ⟨by (with_reducible repeat (first | apply Kd.R_alloc | apply Kd.R_drewN | apply Kd.R_drew)); first | exact HO_6.out | (have e_ := HO_6.out; simp only [StrOrd.own_any] at e_ ⊢; exact e_)⟩, ⟨by (with_reducible repeat (first | apply Kd.R_alloc | apply Kd.R_drewN | apply Kd.R_drew)); first | exact HO_7.out | (have e_ := HO_7.out; simp only [StrOrd.own_any] at e_ ⊢; exact e_)⟩, ⟨by (with_reducible repeat (first | apply Kd.R_alloc | apply Kd.R_drewN | apply Kd.R_drew)); first | exact HO_11.out | (have e_ := HO_11.out; simp only [StrOrd.own_any] at e_ ⊢; exact e_)⟩, ⟨by (with_reducible repeat (first | refine blk_drewN ?_ _ | refine blk_drew ?_ | refine blk_alloc ?_ _)); exact BK355.out⟩, ⟨by (with_reducible repeat (first | refine blk_drewN ?_ _ | refine blk_drew ?_ | refine blk_alloc ?_ _)); exact BK362.out⟩, ⟨by (with_reducible repeat (first | refine blk_drewN ?_ _ | refine blk_drew ?_ | refine blk_alloc ?_ _)); exact BK370.out⟩, ⟨by repeat (first | (with_reducible first | exact HB.out | apply below_alloc | apply pw_below_drewN | apply below_drew1 | refine below_set ?_ GE355.out | refine below_set ?_ GE362.out | refine below_set ?_ GE370.out) | exact HB.out)⟩⟩
                              · rw [if_neg c64] at H
                                have c64b0 : (t379.toList == ((rd_T24 t349 x13_3).f1).toList) = false := beq_eq_false_iff_ne.mpr c64
                                have c64b1 : (t379.toList != ((rd_T24 t349 x13_3).f1).toList) = true := bne_iff_ne.mpr c64
                                exact absurd (Option.some.inj H) (by rw [hr_.out]; decide)
                            · replace c63 := Bool.eq_false_iff.mpr c63
                              subst c63
                              have H1 : (graftbedlaw02_TreeMerges.l0 k3 t343 t346 t349 t364 (wrap64 (x13_3 + 1)) t367 t368 t369) = some r := by rw [if_neg (show ¬ (false = true) by decide)] at H; exact H
                              clear H
                              have H := H1
                              clear H1
                              have H' := Aside0.mk H
                              clear H
                              obtain ⟨Ao67, co67, eo67⟩ := Kd.R_slice HO_7.out
                              subst eo67
                              have p375 : 0 ≤ (x13_3 : Int) := of_decide_eq_true (by first | (with_reducible assumption) | assumption)
                              have q375 : x13_3 < (t349.length : Int) := of_decide_eq_true (by first | (with_reducible assumption) | assumption)
                              obtain ⟨ad375, e375, hx375_0, hx375_1⟩ := at_T24 (Kd.R_reads' HO_7.out).2.2 x13_3 p375 q375
                              cases e375
                              replace p375 := eq_true p375
                              replace q375 := eq_true q375
                              go_wp2_with (first | ((with_reducible refine gate_callee (f := 19) rfl ?_); refine goesL_ (some 79) rfl rfl Try.func19 (by kernel_rfl) rfl #[.slice Ao25 t343.length co25, .string ((rd_T24 t349 x13_3).f0)] rfl (by (try simp only [List.map_toArray, List.map_cons, List.map_nil]); first | done | rfl | (simp only [List.length_drop, List.length_take]; rfl) | (simp only [ByteArray.size_extract, Nat.min_self]; done) | (simp only [ByteArray.size_append, StrMore.size_lit, List.length_cons, List.length_nil, Nat.zero_add, Nat.reduceAdd] <;> rfl)) ?_; (with_reducible refine (graftbedref02_Find.calls k3 _ _ t343 ((rd_T24 t349 x13_3).f0) t376 true _ ?side1 ?side2 A59.out).mono ?_); (all_goals (try clear A59)); (case side1 => repeat (first | exact (Kd.R_reads' HO_5.out).2.2 | (with_reducible refine Kd.C_alloc ?_ _) | (with_reducible refine Kd.C_drewN ?_ _) | (with_reducible refine Kd.C_drew ?_))); (case side2 => exact (Kd.R_reads' HO_5.out).2.1); rintro e w' ⟨rfl, ⟨nd, rfl⟩⟩; refine ⟨_, rfl, ?_⟩; have p378 : 0 ≤ (x13_3 : Int) := of_decide_eq_true (by first | (with_reducible assumption) | assumption); have q378 : x13_3 < (t349.length : Int) := of_decide_eq_true (by first | (with_reducible assumption) | assumption); obtain ⟨ad378, e378, hx378_0, hx378_1⟩ := at_T24 (Kd.R_reads' HO_7.out).2.2 x13_3 p378 q378; obtain rfl : ad375 = ad378 := (by injection e378); replace p378 := eq_true p378; replace q378 := eq_true q378) | ((with_reducible refine gate_callee (f := 19) rfl ?_); refine goesL_ (some 89) rfl rfl Try.func19 (by kernel_rfl) rfl #[.slice Ao26 t346.length co26, .string ((rd_T24 t349 x13_3).f0)] rfl (by (try simp only [List.map_toArray, List.map_cons, List.map_nil]); first | done | rfl | (simp only [List.length_drop, List.length_take]; rfl) | (simp only [ByteArray.size_extract, Nat.min_self]; done) | (simp only [ByteArray.size_append, StrMore.size_lit, List.length_cons, List.length_nil, Nat.zero_add, Nat.reduceAdd] <;> rfl)) ?_; (with_reducible refine (graftbedref02_Find.calls k3 _ _ t346 ((rd_T24 t349 x13_3).f0) t379 false _ ?side1 ?side2 A60.out).mono ?_); (all_goals (try clear A60)); (case side1 => repeat (first | exact (Kd.R_reads' HO_6.out).2.2 | (with_reducible refine Kd.C_alloc ?_ _) | (with_reducible refine Kd.C_drewN ?_ _) | (with_reducible refine Kd.C_drew ?_))); (case side2 => exact (Kd.R_reads' HO_6.out).2.1); rintro e w' ⟨rfl, ⟨nd, rfl⟩⟩; refine ⟨_, rfl, ?_⟩; have p381 : 0 ≤ (x13_3 : Int) := of_decide_eq_true (by first | (with_reducible assumption) | assumption); have q381 : x13_3 < (t349.length : Int) := of_decide_eq_true (by first | (with_reducible assumption) | assumption); obtain ⟨ad381, e381, hx381_0, hx381_1⟩ := at_T24 (Kd.R_reads' HO_7.out).2.2 x13_3 p381 q381; obtain rfl : ad375 = ad381 := (by injection e381); replace p381 := eq_true p381; replace q381 := eq_true q381))
                              go_roundg k3
                              case measure => have := HJ2.out; have := HJ21.out; have := HK3.out; omega
                              case rel => exact ⟨(wrap64 (x13_3 + 1)), (by first | rfl | (simp; done) | (simp [*]; done)), H', ⟨by have := HJ2.out; have := HJ21.out; have := HK3.out; omega⟩, ⟨by (with_reducible repeat (first | apply Kd.R_alloc | apply Kd.R_drewN | apply Kd.R_drew)); first | exact HO_5.out | (have e_ := HO_5.out; simp only [StrOrd.own_any] at e_ ⊢; exact e_)⟩, ⟨by (with_reducible repeat (first | apply Kd.R_alloc | apply Kd.R_drewN | apply Kd.R_drew)); first | exact HO_6.out | (have e_ := HO_6.out; simp only [StrOrd.own_any] at e_ ⊢; exact e_)⟩, ⟨by (with_reducible repeat (first | apply Kd.R_alloc | apply Kd.R_drewN | apply Kd.R_drew)); first | exact HO_7.out | (have e_ := HO_7.out; simp only [StrOrd.own_any] at e_ ⊢; exact e_)⟩, ⟨by (with_reducible repeat (first | apply Kd.R_alloc | apply Kd.R_drewN | apply Kd.R_drew)); first | exact HO_11.out | (have e_ := HO_11.out; simp only [StrOrd.own_any] at e_ ⊢; exact e_)⟩, ⟨by (with_reducible repeat (first | refine blk_drewN ?_ _ | refine blk_drew ?_ | refine blk_alloc ?_ _)); exact BK355.out⟩, ⟨by (with_reducible repeat (first | refine blk_drewN ?_ _ | refine blk_drew ?_ | refine blk_alloc ?_ _)); exact BK362.out⟩, ⟨by (with_reducible repeat (first | refine blk_drewN ?_ _ | refine blk_drew ?_ | refine blk_alloc ?_ _)); exact BK370.out⟩, ⟨by repeat (first | (with_reducible first | exact HB.out | apply below_alloc | apply pw_below_drewN | apply below_drew1 | refine below_set ?_ GE355.out | refine below_set ?_ GE362.out | refine below_set ?_ GE370.out) | exact HB.out)⟩⟩
                          · rw [if_neg c62] at H
                            have c62b0 : (t376.toList == ((rd_T24 t349 x13_3).f1).toList) = false := beq_eq_false_iff_ne.mpr c62
                            have c62b1 : (t376.toList != ((rd_T24 t349 x13_3).f1).toList) = true := bne_iff_ne.mpr c62
                            exact absurd (Option.some.inj H) (by rw [hr_.out]; decide)
                        · replace c61 := Bool.eq_false_iff.mpr c61
                          subst c61
                          have H1 : (if t380 = true then (if t379.toList = ((rd_T24 t349 x13_3).f1).toList then (graftbedlaw02_TreeMerges.l0 k3 t343 t346 t349 t364 (wrap64 (x13_3 + 1)) t367 t368 t369) else (some false)) else (some false)) = some r := by rw [if_neg (show ¬ (false = true) by decide)] at H; exact H
                          clear H
                          have H := H1
                          clear H1
                          by_cases c69 : t380 = true
                          · subst c69
                            have H1 : (if t379.toList = ((rd_T24 t349 x13_3).f1).toList then (graftbedlaw02_TreeMerges.l0 k3 t343 t346 t349 t364 (wrap64 (x13_3 + 1)) t367 t368 t369) else (some false)) = some r := by rw [if_pos rfl] at H; exact H
                            clear H
                            have H := H1
                            clear H1
                            by_cases c70 : t379.toList = ((rd_T24 t349 x13_3).f1).toList
                            · rw [if_pos c70] at H
                              have c70b0 : (t379.toList == ((rd_T24 t349 x13_3).f1).toList) = true := beq_iff_eq.mpr c70
                              have c70b1 : (t379.toList != ((rd_T24 t349 x13_3).f1).toList) = false := bne_eq_false_iff_eq.mpr c70
                              clear c70
                              have H' := Aside0.mk H
                              clear H
                              obtain ⟨Ao71, co71, eo71⟩ := Kd.R_slice HO_7.out
                              subst eo71
                              have p375 : 0 ≤ (x13_3 : Int) := of_decide_eq_true (by first | (with_reducible assumption) | assumption)
                              have q375 : x13_3 < (t349.length : Int) := of_decide_eq_true (by first | (with_reducible assumption) | assumption)
                              obtain ⟨ad375, e375, hx375_0, hx375_1⟩ := at_T24 (Kd.R_reads' HO_7.out).2.2 x13_3 p375 q375
                              cases e375
                              replace p375 := eq_true p375
                              replace q375 := eq_true q375
                              go_wp2_with (first | ((with_reducible refine gate_callee (f := 19) rfl ?_); refine goesL_ (some 79) rfl rfl Try.func19 (by kernel_rfl) rfl #[.slice Ao25 t343.length co25, .string ((rd_T24 t349 x13_3).f0)] rfl (by (try simp only [List.map_toArray, List.map_cons, List.map_nil]); first | done | rfl | (simp only [List.length_drop, List.length_take]; rfl) | (simp only [ByteArray.size_extract, Nat.min_self]; done) | (simp only [ByteArray.size_append, StrMore.size_lit, List.length_cons, List.length_nil, Nat.zero_add, Nat.reduceAdd] <;> rfl)) ?_; (with_reducible refine (graftbedref02_Find.calls k3 _ _ t343 ((rd_T24 t349 x13_3).f0) t376 false _ ?side1 ?side2 A59.out).mono ?_); (all_goals (try clear A59)); (case side1 => repeat (first | exact (Kd.R_reads' HO_5.out).2.2 | (with_reducible refine Kd.C_alloc ?_ _) | (with_reducible refine Kd.C_drewN ?_ _) | (with_reducible refine Kd.C_drew ?_))); (case side2 => exact (Kd.R_reads' HO_5.out).2.1); rintro e w' ⟨rfl, ⟨nd, rfl⟩⟩; refine ⟨_, rfl, ?_⟩; have p378 : 0 ≤ (x13_3 : Int) := of_decide_eq_true (by first | (with_reducible assumption) | assumption); have q378 : x13_3 < (t349.length : Int) := of_decide_eq_true (by first | (with_reducible assumption) | assumption); obtain ⟨ad378, e378, hx378_0, hx378_1⟩ := at_T24 (Kd.R_reads' HO_7.out).2.2 x13_3 p378 q378; obtain rfl : ad375 = ad378 := (by injection e378); replace p378 := eq_true p378; replace q378 := eq_true q378) | ((with_reducible refine gate_callee (f := 19) rfl ?_); refine goesL_ (some 89) rfl rfl Try.func19 (by kernel_rfl) rfl #[.slice Ao26 t346.length co26, .string ((rd_T24 t349 x13_3).f0)] rfl (by (try simp only [List.map_toArray, List.map_cons, List.map_nil]); first | done | rfl | (simp only [List.length_drop, List.length_take]; rfl) | (simp only [ByteArray.size_extract, Nat.min_self]; done) | (simp only [ByteArray.size_append, StrMore.size_lit, List.length_cons, List.length_nil, Nat.zero_add, Nat.reduceAdd] <;> rfl)) ?_; (with_reducible refine (graftbedref02_Find.calls k3 _ _ t346 ((rd_T24 t349 x13_3).f0) t379 true _ ?side1 ?side2 A60.out).mono ?_); (all_goals (try clear A60)); (case side1 => repeat (first | exact (Kd.R_reads' HO_6.out).2.2 | (with_reducible refine Kd.C_alloc ?_ _) | (with_reducible refine Kd.C_drewN ?_ _) | (with_reducible refine Kd.C_drew ?_))); (case side2 => exact (Kd.R_reads' HO_6.out).2.1); rintro e w' ⟨rfl, ⟨nd, rfl⟩⟩; refine ⟨_, rfl, ?_⟩; have p383 : 0 ≤ (x13_3 : Int) := of_decide_eq_true (by first | (with_reducible assumption) | assumption); have q383 : x13_3 < (t349.length : Int) := of_decide_eq_true (by first | (with_reducible assumption) | assumption); obtain ⟨ad383, e383, hx383_0, hx383_1⟩ := at_T24 (Kd.R_reads' HO_7.out).2.2 x13_3 p383 q383; obtain rfl : ad375 = ad383 := (by injection e383); replace p383 := eq_true p383; replace q383 := eq_true q383))
                              go_roundg k3
                              case measure => have := HJ2.out; have := HJ21.out; have := HK3.out; omega
                              case rel => exact ⟨(wrap64 (x13_3 + 1)), (by first | rfl | (simp; done) | (simp [*]; done)), H', ⟨by have := HJ2.out; have := HJ21.out; have := HK3.out; omega⟩, ⟨by (with_reducible repeat (first | apply Kd.R_alloc | apply Kd.R_drewN | apply Kd.R_drew)); first | exact HO_5.out | (have e_ := HO_5.out; simp only [StrOrd.own_any] at e_ ⊢; exact e_)⟩, ⟨by (with_reducible repeat (first | apply Kd.R_alloc | apply Kd.R_drewN | apply Kd.R_drew)); first | exact HO_6.out | (have e_ := HO_6.out; simp only [StrOrd.own_any] at e_ ⊢; exact e_)⟩, ⟨by (with_reducible repeat (first | apply Kd.R_alloc | apply Kd.R_drewN | apply Kd.R_drew)); first | exact HO_7.out | (have e_ := HO_7.out; simp only [StrOrd.own_any] at e_ ⊢; exact e_)⟩, ⟨by (with_reducible repeat (first | apply Kd.R_alloc | apply Kd.R_drewN | apply Kd.R_drew)); first | exact HO_11.out | (have e_ := HO_11.out; simp only [StrOrd.own_any] at e_ ⊢; exact e_)⟩, ⟨by (with_reducible repeat (first | refine blk_drewN ?_ _ | refine blk_drew ?_ | refine blk_alloc ?_ _)); exact BK355.out⟩, ⟨by (with_reducible repeat (first | refine blk_drewN ?_ _ | refine blk_drew ?_ | refine blk_alloc ?_ _)); exact BK362.out⟩, ⟨by (with_reducible repeat (first | refine blk_drewN ?_ _ | refine blk_drew ?_ | refine blk_alloc ?_ _)); exact BK370.out⟩, ⟨by repeat (first | (with_reducible first | exact HB.out | apply below_alloc | apply pw_below_drewN | apply below_drew1 | refine below_set ?_ GE355.out | refine below_set ?_ GE362.out | refine below_set ?_ GE370.out) | exact HB.out)⟩⟩
                            · rw [if_neg c70] at H
                              have c70b0 : (t379.toList == ((rd_T24 t349 x13_3).f1).toList) = false := beq_eq_false_iff_ne.mpr c70
                              have c70b1 : (t379.toList != ((rd_T24 t349 x13_3).f1).toList) = true := bne_iff_ne.mpr c70
                              exact absurd (Option.some.inj H) (by rw [hr_.out]; decide)
                          · replace c69 := Bool.eq_false_iff.mpr c69
                            subst c69
                            have H1 : (some false) = some r := by rw [if_neg (show ¬ (false = true) by decide)] at H; exact H
                            clear H
                            have H := H1
                            clear H1
                            exact absurd (Option.some.inj H) (by rw [hr_.out]; decide)
                      · rw [if_neg c58] at H
                        exact absurd H (by simp)
                    · rw [if_neg c57] at H
                      have c57b0 : decide (x13_3 < (t349.length : Int)) = false := decide_eq_false c57
                      clear c57
                      by_cases c74 : (t367 == 0 && (t368.toList == ([] : List UInt8) && (t369 == 0))) = true
                      · rw [if_pos c74] at H
                        have c74b0 : (t367 == 0 && (t368.toList == ([] : List UInt8) && (t369 == 0))) = true := c74
                        have c74b0i := c74b0; simp only [show ∀ l_ : List UInt8, (l_ == []) = l_.isEmpty from fun l_ => by cases l_ <;> rfl] at c74b0i
                        (try (have c74b1 : decide (t367 = 0 && (t368.toList == ([] : List UInt8) && (t369 == 0))) = true := by simpa using c74))
                        (try (have c74b2 : (t367 == 0 && (t368.toList == ([] : List UInt8) && (t369 == 0))) = true := by simpa using c74))
                        clear c74
                        replace H := Option.bind_eq_some_iff.mp H
                        obtain ⟨t371, A750, H⟩ := H
                        replace H : (if t371 = true then ((tree_Check.f k3 t349).bind fun bt372 => (if (bt372.1 == 0 && (bt372.2.1.toList == ([] : List UInt8) && (bt372.2.2 == 0))) = true then (if (t349.length : Int) ≥ (t343.length : Int) then (some (decide ((t349.length : Int) ≥ (t346.length : Int)))) else (some false)) else (some false))) else (some false)) = some r := H
                        have A75 := Aside0.mk A750
                        clear A750
                        by_cases c76 : t371 = true
                        · subst c76
                          have H1 : ((tree_Check.f k3 t349).bind fun bt372 => (if (bt372.1 == 0 && (bt372.2.1.toList == ([] : List UInt8) && (bt372.2.2 == 0))) = true then (if (t349.length : Int) ≥ (t343.length : Int) then (some (decide ((t349.length : Int) ≥ (t346.length : Int)))) else (some false)) else (some false))) = some r := by rw [if_pos rfl] at H; exact H
                          clear H
                          have H := H1
                          clear H1
                          replace H := Option.bind_eq_some_iff.mp H
                          obtain ⟨⟨t372, t373, t374⟩, A770, H⟩ := H
                          replace H : (if (t372 == 0 && (t373.toList == ([] : List UInt8) && (t374 == 0))) = true then (if (t349.length : Int) ≥ (t343.length : Int) then (some (decide ((t349.length : Int) ≥ (t346.length : Int)))) else (some false)) else (some false)) = some r := H
                          have A77 := Aside0.mk A770
                          clear A770
                          by_cases c78 : (t372 == 0 && (t373.toList == ([] : List UInt8) && (t374 == 0))) = true
                          · rw [if_pos c78] at H
                            have c78b0 : (t372 == 0 && (t373.toList == ([] : List UInt8) && (t374 == 0))) = true := c78
                            have c78b0i := c78b0; simp only [show ∀ l_ : List UInt8, (l_ == []) = l_.isEmpty from fun l_ => by cases l_ <;> rfl] at c78b0i
                            (try (have c78b1 : decide (t372 = 0 && (t373.toList == ([] : List UInt8) && (t374 == 0))) = true := by simpa using c78))
                            (try (have c78b2 : (t372 == 0 && (t373.toList == ([] : List UInt8) && (t374 == 0))) = true := by simpa using c78))
                            clear c78
                            by_cases c79 : (t349.length : Int) ≥ (t343.length : Int)
                            · rw [if_pos c79] at H
                              have c79b0 : decide ((t343.length : Int) ≤ (t349.length : Int)) = true := decide_eq_true c79
                              have c79b1 : decide (t343.length ≤ t349.length) = true := decide_eq_true (Int.ofNat_le.mp c79)
                              clear c79
                              obtain rfl := Option.some.inj H
                              obtain ⟨Ao80, co80, eo80⟩ := Kd.R_slice HO_7.out
                              subst eo80
                              have hnb81 := NB370_355.out
                              have hnc81 := NB355_370.out
                              have hnb82 := NB370_362.out
                              have hnc82 := NB362_370.out
                              have hcz83_0 : wr.cell? ⟨gb370, 0, none⟩ = some (.int .i64 t367) := (blk_cell BK370.out 0).trans rfl
                              have hcz83_1 : wr.cell? ⟨gb370, 1, none⟩ = some (.string t368) := (blk_cell BK370.out 1).trans rfl
                              have hcz83_2 : wr.cell? ⟨gb370, 2, none⟩ = some (.int .i64 t369) := (blk_cell BK370.out 2).trans rfl
                              have hfz83_0 := blk_frozen BK370.out 0
                              have hfz83_1 := blk_frozen BK370.out 1
                              have hfz83_2 := blk_frozen BK370.out 2
                              obtain ⟨Ao84, co84, eo84⟩ := Kd.R_slice HO_11.out
                              subst eo84
                              go_wp2_with (first | (go_at_call 15; (with_reducible refine (graftbedref02_Same.calls k3 _ _ t349 _ _ t364 true _ ?side1 ?side2 ?side3 ?side4 A75.out).mono ?_); (case side1 => repeat (first | exact (Kd.R_reads' HO_7.out).2.2 | (with_reducible refine Kd.C_alloc ?_ _) | (with_reducible refine Kd.C_drewN ?_ _) | (with_reducible refine Kd.C_drew ?_))); (case side2 => exact (Kd.R_reads' HO_7.out).2.1); (case side3 => repeat (first | exact (Kd.R_reads' HO_11.out).2.2 | (with_reducible refine Kd.C_alloc ?_ _) | (with_reducible refine Kd.C_drewN ?_ _) | (with_reducible refine Kd.C_drew ?_))); (case side4 => exact (Kd.R_reads' HO_11.out).2.1); rintro e w' ⟨rfl, ⟨nd, rfl⟩⟩) | (go_at_call 20; (with_reducible refine (tree_Check.calls k3 _ _ t349 t372 t373 t374 _ ?side1 ?side2 A77.out).mono ?_); (case side1 => repeat (first | exact (Kd.R_reads' HO_7.out).2.2 | (with_reducible refine Kd.C_alloc ?_ _) | (with_reducible refine Kd.C_drewN ?_ _) | (with_reducible refine Kd.C_drew ?_))); (case side2 => exact (Kd.R_reads' HO_7.out).2.1); rintro e w85 ⟨rfl, hb⟩; have n0_ := Aside0.mk (Kd.R_below (by (with_reducible repeat (first | apply Kd.R_alloc | apply Kd.R_drewN | apply Kd.R_drew)); exact HO_5.out) hb); have n1_ := Aside0.mk (Kd.R_below (by (with_reducible repeat (first | apply Kd.R_alloc | apply Kd.R_drewN | apply Kd.R_drew)); exact HO_6.out) hb); have n2_ := Aside0.mk (Kd.R_below (by (with_reducible repeat (first | apply Kd.R_alloc | apply Kd.R_drewN | apply Kd.R_drew)); exact HO_7.out) hb); have n3_ := Aside0.mk (Kd.R_below (by (with_reducible repeat (first | apply Kd.R_alloc | apply Kd.R_drewN | apply Kd.R_drew)); exact HO_11.out) hb); have n4_ := Aside0.mk (blk_below (g := gb355) (o := .cells #[.int .i64 t352, .string t353, .int .i64 t354] 37 (0, 0)) (by (with_reducible repeat (first | refine blk_drewN ?_ _ | refine blk_drew ?_ | refine blk_alloc ?_ _)); exact BK355.out) hb); have n5_ := Aside0.mk (blk_below (g := gb362) (o := .cells #[.int .i64 t359, .string t360, .int .i64 t361] 37 (0, 0)) (by (with_reducible repeat (first | refine blk_drewN ?_ _ | refine blk_drew ?_ | refine blk_alloc ?_ _)); exact BK362.out) hb); have n6_ := Aside0.mk (blk_below (g := gb370) (o := .cells #[.int .i64 t367, .string t368, .int .i64 t369] 37 (0, 0)) (by (with_reducible repeat (first | refine blk_drewN ?_ _ | refine blk_drew ?_ | refine blk_alloc ?_ _)); exact BK370.out) hb); have n7_ := Aside0.mk (below_step (by repeat (first | (with_reducible first | exact HB.out | apply below_alloc | apply pw_below_drewN | apply below_drew1 | refine below_set ?_ GE355.out | refine below_set ?_ GE362.out | refine below_set ?_ GE370.out) | exact HB.out)) hb); clear HO_5; clear HO_6; clear HO_7; clear HO_11; clear BK355; clear BK362; clear BK370; clear HB; have HO_5 := n0_; have HO_6 := n1_; have HO_7 := n2_; have HO_11 := n3_; have BK355 := n4_; have BK362 := n5_; have BK370 := n6_; have HB := n7_; clear n0_ n1_ n2_ n3_ n4_ n5_ n6_ n7_; (try clear hb); (try clear hb2); (try clear hk); (try clear hi)))
                              go_ret
                              exact ⟨by first | rfl | (simp [errW_none, errW_some] <;> rfl) | (simp [*, errW_none, errW_some] <;> rfl) | (exfalso; simp only [decide_eq_true_eq, decide_eq_false_iff_not, beq_iff_eq, beq_eq_false_iff_ne] at *; first | contradiction | omega), by repeat (first | (with_reducible first | exact HB.out | apply below_alloc | apply pw_below_drewN | apply below_drew1 | refine below_set ?_ GE355.out | refine below_set ?_ GE362.out | refine below_set ?_ GE370.out) | exact HB.out)⟩
                            · rw [if_neg c79] at H
                              have c79b0 : decide ((t343.length : Int) ≤ (t349.length : Int)) = false := decide_eq_false c79
                              have c79b1 : decide (t343.length ≤ t349.length) = false := decide_eq_false (fun h => c79 (Int.ofNat_le.mpr h))
                              clear c79
                              exact absurd (Option.some.inj H) (by rw [hr_.out]; decide)
                          · rw [if_neg c78] at H
                            have c78b0 : (t372 == 0 && (t373.toList == ([] : List UInt8) && (t374 == 0))) = false := by simpa using c78
                            have c78b0i := c78b0; simp only [show ∀ l_ : List UInt8, (l_ == []) = l_.isEmpty from fun l_ => by cases l_ <;> rfl] at c78b0i
                            (try (have c78b1 : decide (t372 = 0 && (t373.toList == ([] : List UInt8) && (t374 == 0))) = false := by simpa using c78))
                            (try (have c78b2 : (t372 == 0 && (t373.toList == ([] : List UInt8) && (t374 == 0))) = false := by simpa using c78))
                            (try (have c78b3 : ¬ (t372 = 0 && (t373.toList == ([] : List UInt8) && (t374 == 0))) := by simpa using c78))
                            clear c78
                            exact absurd (Option.some.inj H) (by rw [hr_.out]; decide)
                        · replace c76 := Bool.eq_false_iff.mpr c76
                          subst c76
                          have H1 : (some false) = some r := by rw [if_neg (show ¬ (false = true) by decide)] at H; exact H
                          clear H
                          have H := H1
                          clear H1
                          exact absurd (Option.some.inj H) (by rw [hr_.out]; decide)
                      · rw [if_neg c74] at H
                        have c74b0 : (t367 == 0 && (t368.toList == ([] : List UInt8) && (t369 == 0))) = false := by simpa using c74
                        have c74b0i := c74b0; simp only [show ∀ l_ : List UInt8, (l_ == []) = l_.isEmpty from fun l_ => by cases l_ <;> rfl] at c74b0i
                        (try (have c74b1 : decide (t367 = 0 && (t368.toList == ([] : List UInt8) && (t369 == 0))) = false := by simpa using c74))
                        (try (have c74b2 : (t367 == 0 && (t368.toList == ([] : List UInt8) && (t369 == 0))) = false := by simpa using c74))
                        (try (have c74b3 : ¬ (t367 = 0 && (t368.toList == ([] : List UInt8) && (t369 == 0))) := by simpa using c74))
                        clear c74
                        obtain rfl := Option.some.inj H
                        obtain ⟨Ao103, co103, eo103⟩ := Kd.R_slice HO_7.out
                        subst eo103
                        have hnb104 := NB370_355.out
                        have hnc104 := NB355_370.out
                        have hnb105 := NB370_362.out
                        have hnc105 := NB362_370.out
                        have hcz106_0 : wr.cell? ⟨gb370, 0, none⟩ = some (.int .i64 t367) := (blk_cell BK370.out 0).trans rfl
                        have hcz106_1 : wr.cell? ⟨gb370, 1, none⟩ = some (.string t368) := (blk_cell BK370.out 1).trans rfl
                        have hcz106_2 : wr.cell? ⟨gb370, 2, none⟩ = some (.int .i64 t369) := (blk_cell BK370.out 2).trans rfl
                        have hfz106_0 := blk_frozen BK370.out 0
                        have hfz106_1 := blk_frozen BK370.out 1
                        have hfz106_2 := blk_frozen BK370.out 2
                        go_wp2
                        go_ret
                        exact ⟨by first | rfl | (simp [errW_none, errW_some] <;> rfl) | (simp [*, errW_none, errW_some] <;> rfl) | (exfalso; simp only [decide_eq_true_eq, decide_eq_false_iff_not, beq_iff_eq, beq_eq_false_iff_ne] at *; first | contradiction | omega), by repeat (first | (with_reducible first | exact HB.out | apply below_alloc | apply pw_below_drewN | apply below_drew1 | refine below_set ?_ GE355.out | refine below_set ?_ GE362.out | refine below_set ?_ GE370.out) | exact HB.out)⟩

end Go.Proofs.Ytmocfgghccmdgaa.PTr

-- by hprint.py (wip/): the kit's print over contracts proved by hand; a text of this session
namespace Go.Proofs.Ytmocfgghccmdgaa.PTr
open Go.RowKit Go.Proofs.YtmocfgghccmdgaaW.PrintWords Go.Proofs.YtmocfgghccmdgaaW.PrintLast Go.Proofs.YtmocfgghccmdgaaW.PrintMore
attribute [local go_sem] max2_int min2_int max_two min_two max_three min_three max_four min_four   -- for this text's walks alone
set_option linter.unusedVariables false
set_option linter.unusedSimpArgs false

/-! ### tree_Find: function 16 -/
def tree_Find.enc (x : S24) : TrLib.Fl := (x.f0, x.f1)
def tree_Find.dec (x : TrLib.Fl) : S24 := ⟨x.1, x.2⟩
def tree_Find.ok (l : List (S24)) : Bool := decide (l.length ≤ 1000000) && l.all fun x => decide (x.f0.size ≤ 1099511627776)
theorem tree_Find.ok_len {l : List (S24)} (h : tree_Find.ok l = true) : (l.map tree_Find.enc).length ≤ 1000000 := by
  rw [List.length_map]; exact of_decide_eq_true (Bool.and_eq_true_iff.1 h).1
theorem tree_Find.ok_paths {l : List (S24)} (h : tree_Find.ok l = true) : ∀ y ∈ l.map tree_Find.enc, y.1.size ≤ 1099511627776 := by
  intro y hy
  obtain ⟨x, hx, rfl⟩ := List.mem_map.1 hy
  exact of_decide_eq_true (List.all_eq_true.1 (Bool.and_eq_true_iff.1 h).2 x hx)
theorem tree_Find.ok_C {l : List (S24)} {w : World} {A : Option Addr} (h : Kd.C k24 w A l.length l) : Kd.C TrLib.kF w A (l.map tree_Find.enc).length (l.map tree_Find.enc) := TrLib.C_files (enc := tree_Find.enc) rfl (fun h => k24_open h) h
def tree_Find.f (l0 : List (S24)) (a1 : ByteArray) : Option (ByteArray × Bool) := some (TrOps.findT (l0.map tree_Find.enc) a1)
theorem tree_Find.calls (A0 : Option Addr) (c0 : Nat) (l0 : List (S24)) (a1 : ByteArray) (r1 : ByteArray) (r2 : Bool) (w : World) (hr0 : Kd.C k24 w A0 l0.length l0) (hc0 : l0.length ≤ c0) (h : tree_Find.f l0 a1 = some (r1, r2)) :
    Calls Try.prog 16 #[.slice A0 l0.length c0, .string a1] w fun e w' => e = .returned (.tuple #[.string r1, .bool r2]) ∧ Below w.heap.size w w' := by
  have e1 := Option.some.inj h
  have hC := tree_Find.ok_C hr0
  have hn : (l0.map tree_Find.enc).length = l0.length := List.length_map _
  have hc := TrOps.Find_calls A0 c0 (l0.map tree_Find.enc) a1 w hC
  rw [hn, e1] at hc
  exact hc

end Go.Proofs.Ytmocfgghccmdgaa.PTr

-- by hprint.py (wip/): the kit's print over contracts proved by hand; a text of this session
namespace Go.Proofs.Ytmocfgghccmdgaa.PTr
open Go.RowKit Go.Proofs.YtmocfgghccmdgaaW.PrintWords Go.Proofs.YtmocfgghccmdgaaW.PrintLast Go.Proofs.YtmocfgghccmdgaaW.PrintMore
attribute [local go_sem] max2_int min2_int max_two min_two max_three min_three max_four min_four   -- for this text's walks alone
set_option linter.unusedVariables false
set_option linter.unusedSimpArgs false

/-! ### tree_Drop: function 33 -/
def tree_Drop.enc (x : S24) : TrLib.Fl := (x.f0, x.f1)
def tree_Drop.dec (x : TrLib.Fl) : S24 := ⟨x.1, x.2⟩
def tree_Drop.ok (l : List (S24)) : Bool := decide (l.length ≤ 1000000) && l.all fun x => decide (x.f0.size ≤ 1099511627776)
theorem tree_Drop.ok_len {l : List (S24)} (h : tree_Drop.ok l = true) : (l.map tree_Drop.enc).length ≤ 1000000 := by
  rw [List.length_map]; exact of_decide_eq_true (Bool.and_eq_true_iff.1 h).1
theorem tree_Drop.ok_paths {l : List (S24)} (h : tree_Drop.ok l = true) : ∀ y ∈ l.map tree_Drop.enc, y.1.size ≤ 1099511627776 := by
  intro y hy
  obtain ⟨x, hx, rfl⟩ := List.mem_map.1 hy
  exact of_decide_eq_true (List.all_eq_true.1 (Bool.and_eq_true_iff.1 h).2 x hx)
theorem tree_Drop.ok_C {l : List (S24)} {w : World} {A : Option Addr} (h : Kd.C k24 w A l.length l) : Kd.C TrLib.kF w A (l.map tree_Drop.enc).length (l.map tree_Drop.enc) := TrLib.C_files (enc := tree_Drop.enc) rfl (fun h => k24_open h) h
theorem tree_Drop.R_files {w : World} {B : Nat} {v : Value} {l : List TrLib.Fl} (h : w.ownsRow B 24 2 v l.length (TrLib.cellsF l)) : Kd.R k24 24 w B (fun _ => True) v (l.map tree_Drop.dec) := by
  refine RowsLib.R_of (f := fun x => TrLib.encF (tree_Drop.enc x)) (n := 2) (fun _ => rfl) rfl (fun ok x => k24_mkM _ _ _ x) ?_ (Nat.le_refl _)
  have e1 : RowsLib.cellsL (fun x => TrLib.encF (tree_Drop.enc x)) (l.map tree_Drop.dec) = TrLib.cellsF l := by
    unfold TrLib.cellsF RowsLib.cellsL
    rw [List.flatMap_map]
    rfl
  rw [e1, List.length_map]
  exact h
def tree_Drop.f (l0 : List (S24)) (a1 : ByteArray) : Option (List (S24) × Int) := if tree_Drop.ok l0 = true ∧ a1.size ≤ 1099511627776 then some ((TrOps.dropT (l0.map tree_Drop.enc) a1).1.map tree_Drop.dec, (TrOps.dropT (l0.map tree_Drop.enc) a1).2) else none
theorem tree_Drop.calls (A0 : Option Addr) (c0 : Nat) (l0 : List (S24)) (a1 : ByteArray) (r1 : List (S24)) (r2 : Int) (w : World) (hr0 : Kd.C k24 w A0 l0.length l0) (hc0 : l0.length ≤ c0) (h : tree_Drop.f l0 a1 = some (r1, r2)) :
    Calls Try.prog 33 #[.slice A0 l0.length c0, .string a1] w fun e w' => ∃ v0_ : Value, e = .returned (.tuple #[v0_, .int .i64 r2]) ∧ Kd.R k24 24 w' w.heap.size (fun _ => True) v0_ r1 ∧ Below w.heap.size w w' := by
  unfold tree_Drop.f at h
  by_cases h1 : tree_Drop.ok l0 = true ∧ a1.size ≤ 1099511627776
  · rw [if_pos h1] at h
    have e1 := Option.some.inj h
    injection e1 with e1 e2
    subst e1 e2
    have hC := tree_Drop.ok_C hr0
    have hn : (l0.map tree_Drop.enc).length = l0.length := List.length_map _
    have hc := TrOps.Drop_calls A0 c0 (l0.map tree_Drop.enc) a1 w hC (tree_Drop.ok_len h1.1) (tree_Drop.ok_paths h1.1) h1.2
    rw [hn] at hc
    refine hc.mono ?_
    rintro e w' ⟨v, rfl, ho, hb⟩
    exact ⟨v, rfl, tree_Drop.R_files ho, hb⟩
  · rw [if_neg h1] at h
    cases h

end Go.Proofs.Ytmocfgghccmdgaa.PTr

-- by hprint.py (wip/): the kit's print over contracts proved by hand; a text of this session
namespace Go.Proofs.Ytmocfgghccmdgaa.PTr
open Go.RowKit Go.Proofs.YtmocfgghccmdgaaW.PrintWords Go.Proofs.YtmocfgghccmdgaaW.PrintLast Go.Proofs.YtmocfgghccmdgaaW.PrintMore
attribute [local go_sem] max2_int min2_int max_two min_two max_three min_three max_four min_four   -- for this text's walks alone
set_option linter.unusedVariables false
set_option linter.unusedSimpArgs false

/-! ### graftbedref02_Drop: function 34 -/
def graftbedref02_Drop.l0 : Nat → List (S24) → ByteArray → List (S24) → Int → Option ((List (S24)) × Int)
  | 0, _, _, _, _ => none
  | k + 1, x0, x1, x6, x7 => if x7 < (x0.length : Int) then (if 0 ≤ x7 then (if ((rd_T24 x0 x7).f0).toList = x1.toList then (graftbedref02_Drop.l0 k x0 x1 x6 (wrap64 (x7 + 1))) else (if x6.length < 4398046511104 then (graftbedref02_Drop.l0 k x0 x1 (x6 ++ [(⟨(rd_T24 x0 x7).f0, (rd_T24 x0 x7).f1⟩ : S24)]) (wrap64 (x7 + 1))) else (none))) else (none)) else (if (x6.length : Int) = (x0.length : Int) then (some (([] : List (S24)), 3)) else (some (x6, 0)))
def graftbedref02_Drop.f (k : Nat) (l0 : List (S24)) (a1 : ByteArray) : Option ((List (S24)) × Int) := graftbedref02_Drop.l0 k l0 a1 (([] : List (S24))) 0
theorem graftbedref02_Drop.mono_l : ∀ k, (∀ y0 y1 y2 y3, LeO (graftbedref02_Drop.l0 k y0 y1 y2 y3) (graftbedref02_Drop.l0 (k + 1) y0 y1 y2 y3))
  | 0 => fun _ _ _ _ r h => by simp [graftbedref02_Drop.l0] at h
  | k + 1 => by
    have ih0 := graftbedref02_Drop.mono_l k
    · intro y0 y1 y2 y3
      unfold graftbedref02_Drop.l0
      repeat' first
      | (with_reducible exact ih0 _ _ _ _)
      | (with_reducible exact LeO.refl _)
      | (with_reducible exact LeO.none _)
      | (with_reducible refine LeO.ite ?_ ?_)
      | (with_reducible refine LeO.bind ?_ (fun _ => ?_))
      | exact ih0 _ _ _ _
      | exact LeO.none _
      | refine LeO.ite ?_ ?_
      | refine LeO.bind ?_ (fun _ => ?_)
theorem graftbedref02_Drop.mono : ∀ a0 a1 k, LeO (graftbedref02_Drop.f k a0 a1) (graftbedref02_Drop.f (k + 1) a0 a1) := by
  intro a0 a1 k
  have ih0 := graftbedref02_Drop.mono_l k
  unfold graftbedref02_Drop.f
  repeat' first
      | (with_reducible exact ih0 _ _ _ _)
      | (with_reducible exact LeO.refl _)
      | (with_reducible exact LeO.none _)
      | (with_reducible refine LeO.ite ?_ ?_)
      | (with_reducible refine LeO.bind ?_ (fun _ => ?_))
      | exact ih0 _ _ _ _
      | exact LeO.none _
      | refine LeO.ite ?_ ?_
      | refine LeO.bind ?_ (fun _ => ?_)
set_option maxHeartbeats 8000000 in
set_option maxRecDepth 100000 in
theorem graftbedref02_Drop.calls (k : Nat) (A0 : Option Addr) (c0 : Nat) (l0 : List (S24)) (a1 : ByteArray) (r1 : List (S24)) (r2 : Int) (w : World) (hr0 : Kd.C k24 w A0 l0.length l0) (hc0 : l0.length ≤ c0) (h : graftbedref02_Drop.f k l0 a1 = some (r1, r2)) :
    Calls Try.prog 34 #[.slice A0 l0.length c0, .string a1] w fun e w' => ∃ v0_ : Value, e = .returned (.tuple #[v0_, .int .i64 r2]) ∧ Kd.R k24 24 w' w.heap.size (fun _ => True) v0_ r1 ∧ Below w.heap.size w w' := by
  have hu24 := Try.underlying24
  have HR0 := Aside0.mk hr0
  have HC0 := Aside0.mk hc0
  clear hr0 hc0
  have HB := Aside0.mk (Below.refl w.heap.size w)
  have H : (graftbedref02_Drop.l0 k l0 a1 (([] : List (S24))) 0) = some (r1, r2) := h
  clear h
  obtain ⟨y259, hy259⟩ : ∃ y_ : List (S24), y_ = (([] : List (S24))) := ⟨_, rfl⟩
  replace H : (graftbedref02_Drop.l0 k l0 a1 y259 0) = some (r1, r2) := by first | (rw [hy259]; with_reducible exact H) | (have H2_ := (Option.bind_some _ _).symm.trans H; rw [hy259]; with_reducible exact H2_) | (have H2_ := (Option.bind_some _ _).symm.trans H; with_reducible exact H2_) | with_reducible exact H | (rw [hy259]; exact H) | exact H
  have Ny259 := Aside0.mk hy259
  clear hy259
  have H' := Aside0.mk H
  clear H
  go_enter Try.func34, Try.ntmps34
  go_wp2_with (first | ((with_reducible refine gate_dst (N := 8) rfl ?_); refine Kd.R_lit k24 _ 24 ?hg (N := 8) ?hd (xs := ([] : List (S24))) (inner := []) (ok := fun _ => True) (okp := fun _ => True) ?hr ?hp (fun _ hk => hk) trivial (Below.refl _ _) (Nat.le_refl _) (by simp) ?_; (case hd => rfl); (case hg => rfl); (case hr => first | (go_simp; done) | (go_simp; rfl)); (case hp => exact (Reps.none _ _)); intro v260 w3 ho4 hb hg_ hnew_; clear hg_ hnew_; (first | rw [← Ny259.out] at ho4 | (simp only [Int.reduceToNat] at ho4; rw [← Ny259.out] at ho4)); have n0_ := Aside0.mk (Kd.R_lower ho4 (below_size (by repeat (first | (with_reducible first | exact HB.out | apply below_alloc | apply pw_below_drewN | apply below_drew1) | exact HB.out)))); have n1_ := Aside0.mk (below_step (by repeat (first | (with_reducible first | exact HB.out | apply below_alloc | apply pw_below_drewN | apply below_drew1) | exact HB.out)) hb); clear HB; have HO261 := n0_; have HB := n1_; clear n0_ n1_; clear hb ho4))
  go_loopg [6, 7] k (fun kq v6 v7 w' => ∃ (x6_1 : List (S24)) (x7_1 : Int), v7 = .int .i64 x7_1 ∧ Aside0 (graftbedref02_Drop.l0 kq l0 a1 x6_1 x7_1 = some (r1, r2)) ∧ Aside0 (kq ≤ k) ∧ Aside0 (Kd.R k24 24 w' w.heap.size (fun _ => True) v6 x6_1) ∧ Aside0 (Below w.heap.size w w'))
  case atStart => exact ⟨(y259), (0), (by first | rfl | (simp; done) | (simp [*]; done)), H', ⟨Nat.le_refl _⟩, ⟨by (with_reducible repeat (first | apply Kd.R_alloc | apply Kd.R_drewN | apply Kd.R_drew)); first | exact HO261.out | (have e_ := HO261.out; simp only [StrOrd.own_any] at e_ ⊢; exact e_)⟩, ⟨by repeat (first | (with_reducible first | exact HB.out | apply below_alloc | apply pw_below_drewN | apply below_drew1) | exact HB.out)⟩⟩
  case round =>
    clear H'
    try clear p2
    try clear c3
    obtain ⟨x6_1, x7_1, rfl, HA, HK1, HO_6, HB⟩ := hrel
    cases gk with
    | zero => exact absurd HA.out (by simp [graftbedref02_Drop.l0])
    | succ k1 =>
      have H := HA.out
      clear HA
      simp only [graftbedref02_Drop.l0] at H
      by_cases c5 : x7_1 < (l0.length : Int)
      · rw [if_pos c5] at H
        have c5b0 : decide (x7_1 < (l0.length : Int)) = true := decide_eq_true c5
        clear c5
        by_cases c6 : 0 ≤ x7_1
        · rw [if_pos c6] at H
          have c6b0 : decide (0 ≤ x7_1) = true := decide_eq_true c6
          clear c6
          by_cases c7 : ((rd_T24 l0 x7_1).f0).toList = a1.toList
          · rw [if_pos c7] at H
            have c7b0 : (((rd_T24 l0 x7_1).f0).toList == a1.toList) = true := beq_iff_eq.mpr c7
            have c7b1 : (((rd_T24 l0 x7_1).f0).toList != a1.toList) = false := bne_eq_false_iff_eq.mpr c7
            clear c7
            have H' := Aside0.mk H
            clear H
            have p262 : 0 ≤ (x7_1 : Int) := of_decide_eq_true (by first | (with_reducible assumption) | assumption)
            have q262 : x7_1 < (l0.length : Int) := of_decide_eq_true (by first | (with_reducible assumption) | assumption)
            obtain ⟨ad262, e262, hx262_0, hx262_1⟩ := at_T24 HR0.out x7_1 p262 q262
            cases e262
            replace hx262_0 := (HB.out.cell (World.block_lt_of_cell? w _ hx262_0)).trans hx262_0
            replace hx262_1 := (HB.out.cell (World.block_lt_of_cell? w _ hx262_1)).trans hx262_1
            replace p262 := eq_true p262
            replace q262 := eq_true q262
            go_wp2
            go_roundg k1
            case measure => have := HK1.out; omega
            case rel => exact ⟨(x6_1), (wrap64 (x7_1 + 1)), (by first | rfl | (simp; done) | (simp [*]; done)), H', ⟨by have := HK1.out; omega⟩, ⟨by (with_reducible repeat (first | apply Kd.R_alloc | apply Kd.R_drewN | apply Kd.R_drew)); first | exact HO_6.out | (have e_ := HO_6.out; simp only [StrOrd.own_any] at e_ ⊢; exact e_)⟩, ⟨by repeat (first | (with_reducible first | exact HB.out | apply below_alloc | apply pw_below_drewN | apply below_drew1) | exact HB.out)⟩⟩
          · rw [if_neg c7] at H
            have c7b0 : (((rd_T24 l0 x7_1).f0).toList == a1.toList) = false := beq_eq_false_iff_ne.mpr c7
            have c7b1 : (((rd_T24 l0 x7_1).f0).toList != a1.toList) = true := bne_iff_ne.mpr c7
            by_cases c8 : x6_1.length < 4398046511104
            · rw [if_pos c8] at H
              have LMc8 := Aside0.mk c8
              clear c8
              obtain ⟨y264, hy264⟩ : ∃ y_ : List (S24), y_ = (x6_1 ++ [(⟨(rd_T24 l0 x7_1).f0, (rd_T24 l0 x7_1).f1⟩ : S24)]) := ⟨_, rfl⟩
              replace H : (graftbedref02_Drop.l0 k1 l0 a1 y264 (wrap64 (x7_1 + 1))) = some (r1, r2) := by first | (rw [hy264]; with_reducible exact H) | (have H2_ := (Option.bind_some _ _).symm.trans H; rw [hy264]; with_reducible exact H2_) | (have H2_ := (Option.bind_some _ _).symm.trans H; with_reducible exact H2_) | with_reducible exact H | (rw [hy264]; exact H) | exact H
              have Ny264 := Aside0.mk hy264
              clear hy264
              have H' := Aside0.mk H
              clear H
              have p262 : 0 ≤ (x7_1 : Int) := of_decide_eq_true (by first | (with_reducible assumption) | assumption)
              have q262 : x7_1 < (l0.length : Int) := of_decide_eq_true (by first | (with_reducible assumption) | assumption)
              obtain ⟨ad262, e262, hx262_0, hx262_1⟩ := at_T24 HR0.out x7_1 p262 q262
              cases e262
              replace hx262_0 := (HB.out.cell (World.block_lt_of_cell? w _ hx262_0)).trans hx262_0
              replace hx262_1 := (HB.out.cell (World.block_lt_of_cell? w _ hx262_1)).trans hx262_1
              replace p262 := eq_true p262
              replace q262 := eq_true q262
              have p263 : 0 ≤ (x7_1 : Int) := of_decide_eq_true (by first | (with_reducible assumption) | assumption)
              have q263 : x7_1 < (l0.length : Int) := of_decide_eq_true (by first | (with_reducible assumption) | assumption)
              obtain ⟨ad263, e263, hx263_0, hx263_1⟩ := at_T24 HR0.out x7_1 p263 q263
              obtain rfl : ad262 = ad263 := (by injection e263)
              replace hx263_0 := (HB.out.cell (World.block_lt_of_cell? w _ hx263_0)).trans hx263_0
              replace hx263_1 := (HB.out.cell (World.block_lt_of_cell? w _ hx263_1)).trans hx263_1
              replace p263 := eq_true p263
              replace q263 := eq_true q263
              go_wp2_with (first | ((with_reducible refine gate_builtin (b := .append) (xs := #[.tmp 22, .tmp 27]) rfl ?_); at_builtin; refine Kd.R_append k24 (w0 := w) w.heap.size rfl (.tmp 22) (.tmp 27) 22 24 (.agg #[(.string ⟨#[]⟩), (.string ⟨#[]⟩)]) 32 rfl Try.underlying22 info24 rfl (by decide) (by omega) u6 x6_1 (⟨(rd_T24 l0 x7_1).f0, (rd_T24 l0 x7_1).f1⟩ : S24) [.string ((rd_T24 l0 x7_1).f0), .string ((rd_T24 l0 x7_1).f1)] (fun _ => True) (fun _ => False) rfl rfl ?aP (fun _ hk => hk.elim) ?aF ?aO ?aB ?aS ?aL ?_; (case aP => exact k24_mkM _ _ _ (⟨(rd_T24 l0 x7_1).f0, (rd_T24 l0 x7_1).f1⟩ : S24)); (case aB => exact (by repeat (first | (with_reducible first | exact HB.out | apply below_alloc | apply pw_below_drewN | apply below_drew1) | exact HB.out))); (case aF => exact (fun _ _ => trivial)); (case aO => exact (by (with_reducible repeat (first | apply Kd.R_alloc | apply Kd.R_drewN | apply Kd.R_drew)); exact HO_6.out)); (case aS => exact (below_size (by repeat (first | (with_reducible first | exact HB.out | apply below_alloc | apply pw_below_drewN | apply below_drew1) | exact HB.out)))); (case aL => have := LMc8.out; omega); intro v265 w9 ho hb hg hat; rw [← Ny264.out] at ho; have n0_ := Aside0.mk (hb); have n1_ := Aside0.mk (ho); clear HB; clear HO_6; have HB := n0_; have HO266 := n1_; clear n0_ n1_; clear ho hb hg hat))
              go_roundg k1
              case measure => have := HK1.out; omega
              case rel => exact ⟨(y264), (wrap64 (x7_1 + 1)), (by first | rfl | (simp; done) | (simp [*]; done)), H', ⟨by have := HK1.out; omega⟩, ⟨by (with_reducible repeat (first | apply Kd.R_alloc | apply Kd.R_drewN | apply Kd.R_drew)); first | exact HO266.out | (have e_ := HO266.out; simp only [StrOrd.own_any] at e_ ⊢; exact e_)⟩, ⟨by repeat (first | (with_reducible first | exact HB.out | apply below_alloc | apply pw_below_drewN | apply below_drew1) | exact HB.out)⟩⟩
            · rw [if_neg c8] at H
              exact absurd H (by simp)
        · rw [if_neg c6] at H
          exact absurd H (by simp)
      · rw [if_neg c5] at H
        have c5b0 : decide (x7_1 < (l0.length : Int)) = false := decide_eq_false c5
        clear c5
        by_cases c10 : (x6_1.length : Int) = (l0.length : Int)
        · rw [if_pos c10] at H
          have c10b0 : ((x6_1.length : Int) == (l0.length : Int)) = true := beq_iff_eq.mpr c10
          have c10b1 : ((x6_1.length : Int) != (l0.length : Int)) = false := bne_eq_false_iff_eq.mpr c10
          have c10b2 : (x6_1.length == l0.length) = true := by first | simpa using c10 | (simp at c10 ⊢; omega)
          clear c10
          simp only [Option.some.injEq, Prod.mk.injEq] at H
          obtain ⟨rfl, rfl⟩ := H
          obtain ⟨Ao11, co11, eo11⟩ := Kd.R_slice HO_6.out
          subst eo11
          go_wp2
          go_ret2
          exact ⟨_, by first | rfl | (simp [errW_none, errW_some] <;> rfl) | (simp [*, errW_none, errW_some] <;> rfl), by first | exact Kd.R_nil _ _ _ _ _ | exact Kd.N_nil _ _ _ _ _ | exact Kd.V_nil _ _ _ _ _ | exact Kd.Q_nil _ _ _ _ _ | exact Kd.S_nil _ _ _ _ _, by repeat (first | (with_reducible first | exact HB.out | apply below_alloc | apply pw_below_drewN | apply below_drew1) | exact HB.out)⟩
        · rw [if_neg c10] at H
          have c10b0 : ((x6_1.length : Int) == (l0.length : Int)) = false := beq_eq_false_iff_ne.mpr c10
          have c10b1 : ((x6_1.length : Int) != (l0.length : Int)) = true := bne_iff_ne.mpr c10
          have c10b2 : (x6_1.length == l0.length) = false := by first | simpa using c10 | (simp at c10 ⊢; omega)
          simp only [Option.some.injEq, Prod.mk.injEq] at H
          obtain ⟨rfl, rfl⟩ := H
          obtain ⟨Ao12, co12, eo12⟩ := Kd.R_slice HO_6.out
          subst eo12
          go_wp2
          go_ret2
          exact ⟨_, by first | rfl | (simp [errW_none, errW_some] <;> rfl) | (simp [*, errW_none, errW_some] <;> rfl), by (with_reducible repeat (first | apply Kd.R_alloc | apply Kd.R_drewN | apply Kd.R_drew)); exact HO_6.out, by repeat (first | (with_reducible first | exact HB.out | apply below_alloc | apply pw_below_drewN | apply below_drew1) | exact HB.out)⟩

end Go.Proofs.Ytmocfgghccmdgaa.PTr
