-- by hprint.py (wip/): the kit's print over contracts proved by hand; a text of this session
import Derived.Test.YtbfkdcegdhkcmaaDoorPTnx0
import Derived.Test.YtbfkdcegdhkcmaaDoorPTnx4
import Derived.Test.YtbfkdcegdhkcmaaDoorPTnx5
import Derived.Test.YtbfkdcegdhkcmaaDoorPTnx7
namespace Go.Proofs.YtbfkdcegdhkcmaaDoor.PTn
open Go.RowKit Go.Proofs.YtbfkdcegdhkcmaaDoorW.PrintWords Go.Proofs.YtbfkdcegdhkcmaaDoorW.PrintLast Go.Proofs.YtbfkdcegdhkcmaaDoorW.PrintMore
attribute [local go_sem] max2_int min2_int max_two min_two max_three min_three max_four min_four   -- for this text's walks alone
set_option linter.unusedVariables false
set_option linter.unusedSimpArgs false

/-! ### tags_Suffix: function 7 -/
mutual
def tags_Suffix.j0 : Nat → ByteArray → ByteArray → Bool → List ByteArray → Int → List ByteArray → List ByteArray → List ByteArray → List ByteArray → List ByteArray → List ByteArray → Option (ByteArray × ByteArray × Bool)
  | 0, _, _, _, _, _, _, _, _, _, _, _ => none
  | k + 1, x4, x5, x6, x7, x8, x122000, x122001, x122002, x122003, x122004, x122005 => if x6 = true then (tags_Suffix.j1 k x4 x5 x6 x7 (wrap64 (x8 - 1)) x122000 x122001 x122002 x122003 x122004 x122005) else (tags_Suffix.j1 k x4 x5 x6 x7 x8 x122000 x122001 x122002 x122003 x122004 x122005)
def tags_Suffix.j1 : Nat → ByteArray → ByteArray → Bool → List ByteArray → Int → List ByteArray → List ByteArray → List ByteArray → List ByteArray → List ByteArray → List ByteArray → Option (ByteArray × ByteArray × Bool)
  | 0, _, _, _, _, _, _, _, _, _, _, _ => none
  | k + 1, x4, x5, x6, x7, x8, x122000, x122001, x122002, x122003, x122004, x122005 => if x8 > 1 then (if 0 ≤ (wrap64 (x8 - 1)) then (if (wrap64 (x8 - 1)) < (x7.length : Int) then ((slices_Contains_string_string.f k x122002 (rdOf ByteArray.empty x7 (wrap64 (x8 - 1)))).bind fun t130 => (tags_Suffix.j2 k x4 x5 x6 x7 x8 t130 x122000 x122001 x122002 x122003 x122004 x122005)) else (none)) else (none)) else (tags_Suffix.j2 k x4 x5 x6 x7 x8 false x122000 x122001 x122002 x122003 x122004 x122005)
def tags_Suffix.j2 : Nat → ByteArray → ByteArray → Bool → List ByteArray → Int → Bool → List ByteArray → List ByteArray → List ByteArray → List ByteArray → List ByteArray → List ByteArray → Option (ByteArray × ByteArray × Bool)
  | 0, _, _, _, _, _, _, _, _, _, _, _, _ => none
  | k + 1, x4, x5, x6, x7, x8, x43, x122000, x122001, x122002, x122003, x122004, x122005 => if x43 = true then (if 0 ≤ (wrap64 (x8 - 1)) then (if (wrap64 (x8 - 1)) < (x7.length : Int) then (if (wrap64 (x8 - 1)) > 1 then (if 0 ≤ (wrap64 ((wrap64 (x8 - 1)) - 1)) then (if (wrap64 ((wrap64 (x8 - 1)) - 1)) < (x7.length : Int) then ((slices_Contains_string_string.f k x122000 (rdOf ByteArray.empty x7 (wrap64 ((wrap64 (x8 - 1)) - 1)))).bind fun t133 => (if t133 = true then (some (rdOf ByteArray.empty x7 (wrap64 ((wrap64 (x8 - 1)) - 1)), rdOf ByteArray.empty x7 (wrap64 (x8 - 1)), x6)) else (some (x4, rdOf ByteArray.empty x7 (wrap64 (x8 - 1)), x6)))) else (none)) else (none)) else (some (x4, rdOf ByteArray.empty x7 (wrap64 (x8 - 1)), x6))) else (none)) else (none)) else (if x8 > 1 then (if 0 ≤ (wrap64 (x8 - 1)) then (if (wrap64 (x8 - 1)) < (x7.length : Int) then ((slices_Contains_string_string.f k x122000 (rdOf ByteArray.empty x7 (wrap64 (x8 - 1)))).bind fun t136 => (if t136 = true then (some (rdOf ByteArray.empty x7 (wrap64 (x8 - 1)), x5, x6)) else (some (x4, x5, x6)))) else (none)) else (none)) else (some (x4, x5, x6)))
end
def tags_Suffix.f (k : Nat) (l0_0 : List ByteArray) (l0_1 : List ByteArray) (l0_2 : List ByteArray) (l0_3 : List ByteArray) (l0_4 : List ByteArray) (l0_5 : List ByteArray) (a1 : ByteArray) : Option (ByteArray × ByteArray × Bool) := (strings_Cut.f a1 (⟨#[46]⟩ : ByteArray)).bind fun bt122 => ((strings_Split.f bt122.1 (⟨#[95]⟩ : ByteArray)).bind fun t125 => (if (t125.length : Int) > 1 then (if 0 ≤ (wrap64 ((t125.length : Int) - 1)) then (if (wrap64 ((t125.length : Int) - 1)) < (t125.length : Int) then (tags_Suffix.j0 k (⟨#[]⟩ : ByteArray) (⟨#[]⟩ : ByteArray) ((rdOf ByteArray.empty t125 (wrap64 ((t125.length : Int) - 1))).toList == ([116, 101, 115, 116] : List UInt8)) t125 (t125.length : Int) l0_0 l0_1 l0_2 l0_3 l0_4 l0_5) else (none)) else (none)) else (tags_Suffix.j0 k (⟨#[]⟩ : ByteArray) (⟨#[]⟩ : ByteArray) false t125 (t125.length : Int) l0_0 l0_1 l0_2 l0_3 l0_4 l0_5)))
theorem tags_Suffix.mono_l : ∀ k, (∀ y0 y1 y2 y3 y4 y5 y6 y7 y8 y9 y10, LeO (tags_Suffix.j0 k y0 y1 y2 y3 y4 y5 y6 y7 y8 y9 y10) (tags_Suffix.j0 (k + 1) y0 y1 y2 y3 y4 y5 y6 y7 y8 y9 y10)) ∧ (∀ y0 y1 y2 y3 y4 y5 y6 y7 y8 y9 y10, LeO (tags_Suffix.j1 k y0 y1 y2 y3 y4 y5 y6 y7 y8 y9 y10) (tags_Suffix.j1 (k + 1) y0 y1 y2 y3 y4 y5 y6 y7 y8 y9 y10)) ∧ (∀ y0 y1 y2 y3 y4 y5 y6 y7 y8 y9 y10 y11, LeO (tags_Suffix.j2 k y0 y1 y2 y3 y4 y5 y6 y7 y8 y9 y10 y11) (tags_Suffix.j2 (k + 1) y0 y1 y2 y3 y4 y5 y6 y7 y8 y9 y10 y11))
  | 0 => ⟨fun _ _ _ _ _ _ _ _ _ _ _ r h => by simp [tags_Suffix.j0] at h, fun _ _ _ _ _ _ _ _ _ _ _ r h => by simp [tags_Suffix.j1] at h, fun _ _ _ _ _ _ _ _ _ _ _ _ r h => by simp [tags_Suffix.j2] at h⟩
  | k + 1 => by
    obtain ⟨ih0, ih1, ih2⟩ := tags_Suffix.mono_l k
    refine ⟨?_, ?_, ?_⟩
    · intro y0 y1 y2 y3 y4 y5 y6 y7 y8 y9 y10
      unfold tags_Suffix.j0
      repeat' first
      | (with_reducible exact ih0 _ _ _ _ _ _ _ _ _ _ _)
      | (with_reducible exact ih1 _ _ _ _ _ _ _ _ _ _ _)
      | (with_reducible exact ih2 _ _ _ _ _ _ _ _ _ _ _ _)
      | (with_reducible exact slices_Contains_string_string.mono _ _ _)
      | (with_reducible exact LeO.refl _)
      | (with_reducible exact LeO.none _)
      | (with_reducible refine LeO.ite ?_ ?_)
      | (with_reducible refine LeO.bind ?_ (fun _ => ?_))
      | exact ih0 _ _ _ _ _ _ _ _ _ _ _
      | exact ih1 _ _ _ _ _ _ _ _ _ _ _
      | exact ih2 _ _ _ _ _ _ _ _ _ _ _ _
      | exact slices_Contains_string_string.mono _ _ _
      | exact LeO.none _
      | refine LeO.ite ?_ ?_
      | refine LeO.bind ?_ (fun _ => ?_)
    · intro y0 y1 y2 y3 y4 y5 y6 y7 y8 y9 y10
      unfold tags_Suffix.j1
      repeat' first
      | (with_reducible exact ih0 _ _ _ _ _ _ _ _ _ _ _)
      | (with_reducible exact ih1 _ _ _ _ _ _ _ _ _ _ _)
      | (with_reducible exact ih2 _ _ _ _ _ _ _ _ _ _ _ _)
      | (with_reducible exact slices_Contains_string_string.mono _ _ _)
      | (with_reducible exact LeO.refl _)
      | (with_reducible exact LeO.none _)
      | (with_reducible refine LeO.ite ?_ ?_)
      | (with_reducible refine LeO.bind ?_ (fun _ => ?_))
      | exact ih0 _ _ _ _ _ _ _ _ _ _ _
      | exact ih1 _ _ _ _ _ _ _ _ _ _ _
      | exact ih2 _ _ _ _ _ _ _ _ _ _ _ _
      | exact slices_Contains_string_string.mono _ _ _
      | exact LeO.none _
      | refine LeO.ite ?_ ?_
      | refine LeO.bind ?_ (fun _ => ?_)
    · intro y0 y1 y2 y3 y4 y5 y6 y7 y8 y9 y10 y11
      unfold tags_Suffix.j2
      repeat' first
      | (with_reducible exact ih0 _ _ _ _ _ _ _ _ _ _ _)
      | (with_reducible exact ih1 _ _ _ _ _ _ _ _ _ _ _)
      | (with_reducible exact ih2 _ _ _ _ _ _ _ _ _ _ _ _)
      | (with_reducible exact slices_Contains_string_string.mono _ _ _)
      | (with_reducible exact LeO.refl _)
      | (with_reducible exact LeO.none _)
      | (with_reducible refine LeO.ite ?_ ?_)
      | (with_reducible refine LeO.bind ?_ (fun _ => ?_))
      | exact ih0 _ _ _ _ _ _ _ _ _ _ _
      | exact ih1 _ _ _ _ _ _ _ _ _ _ _
      | exact ih2 _ _ _ _ _ _ _ _ _ _ _ _
      | exact slices_Contains_string_string.mono _ _ _
      | exact LeO.none _
      | refine LeO.ite ?_ ?_
      | refine LeO.bind ?_ (fun _ => ?_)
theorem tags_Suffix.mono : ∀ a0 a1 a2 a3 a4 a5 a6 k, LeO (tags_Suffix.f k a0 a1 a2 a3 a4 a5 a6) (tags_Suffix.f (k + 1) a0 a1 a2 a3 a4 a5 a6) := by
  intro a0 a1 a2 a3 a4 a5 a6 k
  obtain ⟨ih0, ih1, ih2⟩ := tags_Suffix.mono_l k
  unfold tags_Suffix.f
  repeat' first
      | (with_reducible exact ih0 _ _ _ _ _ _ _ _ _ _ _)
      | (with_reducible exact ih1 _ _ _ _ _ _ _ _ _ _ _)
      | (with_reducible exact ih2 _ _ _ _ _ _ _ _ _ _ _ _)
      | (with_reducible exact slices_Contains_string_string.mono _ _ _)
      | (with_reducible exact LeO.refl _)
      | (with_reducible exact LeO.none _)
      | (with_reducible refine LeO.ite ?_ ?_)
      | (with_reducible refine LeO.bind ?_ (fun _ => ?_))
      | exact ih0 _ _ _ _ _ _ _ _ _ _ _
      | exact ih1 _ _ _ _ _ _ _ _ _ _ _
      | exact ih2 _ _ _ _ _ _ _ _ _ _ _ _
      | exact slices_Contains_string_string.mono _ _ _
      | exact LeO.none _
      | refine LeO.ite ?_ ?_
      | refine LeO.bind ?_ (fun _ => ?_)
set_option maxHeartbeats 8000000 in
set_option maxRecDepth 100000 in
theorem tags_Suffix.calls (k : Nat) (A0_0 : Option Addr) (c0_0 : Nat) (l0_0 : List ByteArray) (A0_1 : Option Addr) (c0_1 : Nat) (l0_1 : List ByteArray) (A0_2 : Option Addr) (c0_2 : Nat) (l0_2 : List ByteArray) (A0_3 : Option Addr) (c0_3 : Nat) (l0_3 : List ByteArray) (A0_4 : Option Addr) (c0_4 : Nat) (l0_4 : List ByteArray) (A0_5 : Option Addr) (c0_5 : Nat) (l0_5 : List ByteArray) (a1 : ByteArray) (r1 : ByteArray) (r2 : ByteArray) (r3 : Bool) (w : World) (hr0_0 : Kd.C Kd.string w A0_0 l0_0.length l0_0) (hc0_0 : l0_0.length ≤ c0_0) (hr0_1 : Kd.C Kd.string w A0_1 l0_1.length l0_1) (hc0_1 : l0_1.length ≤ c0_1) (hr0_2 : Kd.C Kd.string w A0_2 l0_2.length l0_2) (hc0_2 : l0_2.length ≤ c0_2) (hr0_3 : Kd.C Kd.string w A0_3 l0_3.length l0_3) (hc0_3 : l0_3.length ≤ c0_3) (hr0_4 : Kd.C Kd.string w A0_4 l0_4.length l0_4) (hc0_4 : l0_4.length ≤ c0_4) (hr0_5 : Kd.C Kd.string w A0_5 l0_5.length l0_5) (hc0_5 : l0_5.length ≤ c0_5) (h : tags_Suffix.f k l0_0 l0_1 l0_2 l0_3 l0_4 l0_5 a1 = some (r1, r2, r3)) :
    Calls Tryd.prog 7 #[.agg #[.slice A0_0 l0_0.length c0_0, .slice A0_1 l0_1.length c0_1, .slice A0_2 l0_2.length c0_2, .slice A0_3 l0_3.length c0_3, .slice A0_4 l0_4.length c0_4, .slice A0_5 l0_5.length c0_5], .string a1] w fun e w' => e = .returned (.tuple #[.string r1, .string r2, .bool r3]) ∧ Below w.heap.size w w' := by
  have hu24 := Tryd.underlying24
  have HR0_0 := Aside0.mk hr0_0
  have HC0_0 := Aside0.mk hc0_0
  clear hr0_0 hc0_0
  have HR0_1 := Aside0.mk hr0_1
  have HC0_1 := Aside0.mk hc0_1
  clear hr0_1 hc0_1
  have HR0_2 := Aside0.mk hr0_2
  have HC0_2 := Aside0.mk hc0_2
  clear hr0_2 hc0_2
  have HR0_3 := Aside0.mk hr0_3
  have HC0_3 := Aside0.mk hc0_3
  clear hr0_3 hc0_3
  have HR0_4 := Aside0.mk hr0_4
  have HC0_4 := Aside0.mk hc0_4
  clear hr0_4 hc0_4
  have HR0_5 := Aside0.mk hr0_5
  have HC0_5 := Aside0.mk hc0_5
  clear hr0_5 hc0_5
  have HB := Aside0.mk (Below.refl w.heap.size w)
  have H : ((strings_Cut.f a1 (⟨#[46]⟩ : ByteArray)).bind fun bt122 => ((strings_Split.f bt122.1 (⟨#[95]⟩ : ByteArray)).bind fun t125 => (if (t125.length : Int) > 1 then (if 0 ≤ (wrap64 ((t125.length : Int) - 1)) then (if (wrap64 ((t125.length : Int) - 1)) < (t125.length : Int) then (tags_Suffix.j0 k (⟨#[]⟩ : ByteArray) (⟨#[]⟩ : ByteArray) ((rdOf ByteArray.empty t125 (wrap64 ((t125.length : Int) - 1))).toList == ([116, 101, 115, 116] : List UInt8)) t125 (t125.length : Int) l0_0 l0_1 l0_2 l0_3 l0_4 l0_5) else (none)) else (none)) else (tags_Suffix.j0 k (⟨#[]⟩ : ByteArray) (⟨#[]⟩ : ByteArray) false t125 (t125.length : Int) l0_0 l0_1 l0_2 l0_3 l0_4 l0_5)))) = some (r1, r2, r3) := h
  clear h
  replace H := Option.bind_eq_some_iff.mp H
  obtain ⟨⟨t122, t123, t124⟩, A30, H⟩ := H
  replace H : ((strings_Split.f t122 (⟨#[95]⟩ : ByteArray)).bind fun t125 => (if (t125.length : Int) > 1 then (if 0 ≤ (wrap64 ((t125.length : Int) - 1)) then (if (wrap64 ((t125.length : Int) - 1)) < (t125.length : Int) then (tags_Suffix.j0 k (⟨#[]⟩ : ByteArray) (⟨#[]⟩ : ByteArray) ((rdOf ByteArray.empty t125 (wrap64 ((t125.length : Int) - 1))).toList == ([116, 101, 115, 116] : List UInt8)) t125 (t125.length : Int) l0_0 l0_1 l0_2 l0_3 l0_4 l0_5) else (none)) else (none)) else (tags_Suffix.j0 k (⟨#[]⟩ : ByteArray) (⟨#[]⟩ : ByteArray) false t125 (t125.length : Int) l0_0 l0_1 l0_2 l0_3 l0_4 l0_5))) = some (r1, r2, r3) := H
  have A3 := Aside0.mk A30
  clear A30
  replace H := Option.bind_eq_some_iff.mp H
  obtain ⟨t125, A40, H⟩ := H
  replace H : (if (t125.length : Int) > 1 then (if 0 ≤ (wrap64 ((t125.length : Int) - 1)) then (if (wrap64 ((t125.length : Int) - 1)) < (t125.length : Int) then (tags_Suffix.j0 k (⟨#[]⟩ : ByteArray) (⟨#[]⟩ : ByteArray) ((rdOf ByteArray.empty t125 (wrap64 ((t125.length : Int) - 1))).toList == ([116, 101, 115, 116] : List UInt8)) t125 (t125.length : Int) l0_0 l0_1 l0_2 l0_3 l0_4 l0_5) else (none)) else (none)) else (tags_Suffix.j0 k (⟨#[]⟩ : ByteArray) (⟨#[]⟩ : ByteArray) false t125 (t125.length : Int) l0_0 l0_1 l0_2 l0_3 l0_4 l0_5)) = some (r1, r2, r3) := H
  have A4 := Aside0.mk A40
  clear A40
  have HC5 := Aside0.mk H
  clear H
  go_enter Tryd.func7, Tryd.ntmps7
  go_upto_region 4 with (first | ((with_reducible refine gate_dst (N := 2) rfl ?_); refine box_event ?hg (N := 2) ?hd (cs := #[.slice A0_0 l0_0.length c0_0, .slice A0_1 l0_1.length c0_1, .slice A0_2 l0_2.length c0_2, .slice A0_3 l0_3.length c0_3, .slice A0_4 l0_4.length c0_4, .slice A0_5 l0_5.length c0_5]) (t := 24) ?hr ?_; (case hd => rfl); (case hg => rfl); (case hr => first | (go_simp; done) | (go_simp; rfl)); intro gb121 hg w6 hbox hb; have n0_ := Aside0.mk (below_step (by repeat (first | (with_reducible first | exact HB.out | apply below_alloc | apply pw_below_drewN | apply below_drew1) | exact HB.out)) hb); have n1_ := Aside0.mk (hbox); have n2_ := Aside0.mk ((by rw [hg]; exact (below_size (by repeat (first | (with_reducible first | exact HB.out | apply below_alloc | apply pw_below_drewN | apply below_drew1) | exact HB.out))) : w.heap.size ≤ gb121)); have n3_ := Aside0.mk ((by rw [hg]; exact (below_size (by repeat (first | (with_reducible first | exact HB.out | apply below_alloc | apply pw_below_drewN | apply below_drew1) | exact HB.out))) : w.heap.size ≤ gb121)); clear HB; have HB := n0_; have BK121 := n1_; have GW121 := n2_; have GE121 := n3_; clear n0_ n1_ n2_ n3_; clear hb hbox hg) | (go_at_call 18; (with_reducible refine (strings_Cut.calls a1 (⟨#[46]⟩ : ByteArray) t122 t123 t124 _ A3.out).mono ?_); rintro e w' ⟨rfl, ⟨nd, rfl⟩⟩; (try first | exact ⟨rfl, _, World.drewN_drewN _ _ _⟩ | exact ⟨rfl, _, Eq.trans (World.drewN_drewN _ _ _) (congrArg (World.drewN _) (Nat.add_assoc _ _ _))⟩)) | (go_at_call 19; (with_reducible refine (strings_Split.calls t122 (⟨#[95]⟩ : ByteArray) t125 _ A4.out).mono ?_); rintro e w7 ⟨v126, rfl, ho0, hb⟩; have n0_ := Aside0.mk (Kd.R_lower ho0 (below_size (by repeat (first | (with_reducible first | exact HB.out | apply below_alloc | apply pw_below_drewN | apply below_drew1 | refine below_set ?_ GE121.out) | exact HB.out)))); have n1_ := Aside0.mk (blk_below (g := gb121) (o := .cells #[.slice A0_0 l0_0.length c0_0, .slice A0_1 l0_1.length c0_1, .slice A0_2 l0_2.length c0_2, .slice A0_3 l0_3.length c0_3, .slice A0_4 l0_4.length c0_4, .slice A0_5 l0_5.length c0_5] 24 (0, 0)) (by (with_reducible repeat (first | refine blk_drewN ?_ _ | refine blk_drew ?_ | refine blk_alloc ?_ _)); exact BK121.out) hb); have n2_ := Aside0.mk (below_step (by repeat (first | (with_reducible first | exact HB.out | apply below_alloc | apply pw_below_drewN | apply below_drew1 | refine below_set ?_ GE121.out) | exact HB.out)) hb); clear BK121; clear HB; have HO127 := n0_; have BK121 := n1_; have HB := n2_; clear n0_ n1_ n2_; (try clear hb); (try clear hb2); (try clear hk); (try clear hi); (try clear ho0); obtain ⟨Ao8, co8, eo8⟩ := Kd.R_slice HO127.out; subst eo8))
  repeat (go_quiet (first | ((with_reducible refine gate_dst (N := 2) rfl ?_); refine box_event ?hg (N := 2) ?hd (cs := #[.slice A0_0 l0_0.length c0_0, .slice A0_1 l0_1.length c0_1, .slice A0_2 l0_2.length c0_2, .slice A0_3 l0_3.length c0_3, .slice A0_4 l0_4.length c0_4, .slice A0_5 l0_5.length c0_5]) (t := 24) ?hr ?_; (case hd => rfl); (case hg => rfl); (case hr => first | (go_simp; done) | (go_simp; rfl)); intro gb121 hg w6 hbox hb; have n0_ := Aside0.mk (below_step (by repeat (first | (with_reducible first | exact HB.out | apply below_alloc | apply pw_below_drewN | apply below_drew1) | exact HB.out)) hb); have n1_ := Aside0.mk (hbox); have n2_ := Aside0.mk ((by rw [hg]; exact (below_size (by repeat (first | (with_reducible first | exact HB.out | apply below_alloc | apply pw_below_drewN | apply below_drew1) | exact HB.out))) : w.heap.size ≤ gb121)); have n3_ := Aside0.mk ((by rw [hg]; exact (below_size (by repeat (first | (with_reducible first | exact HB.out | apply below_alloc | apply pw_below_drewN | apply below_drew1) | exact HB.out))) : w.heap.size ≤ gb121)); clear HB; have HB := n0_; have BK121 := n1_; have GW121 := n2_; have GE121 := n3_; clear n0_ n1_ n2_ n3_; clear hb hbox hg) | (go_at_call 18; (with_reducible refine (strings_Cut.calls a1 (⟨#[46]⟩ : ByteArray) t122 t123 t124 _ A3.out).mono ?_); rintro e w' ⟨rfl, ⟨nd, rfl⟩⟩; (try first | exact ⟨rfl, _, World.drewN_drewN _ _ _⟩ | exact ⟨rfl, _, Eq.trans (World.drewN_drewN _ _ _) (congrArg (World.drewN _) (Nat.add_assoc _ _ _))⟩)) | (go_at_call 19; (with_reducible refine (strings_Split.calls t122 (⟨#[95]⟩ : ByteArray) t125 _ A4.out).mono ?_); rintro e w7 ⟨v126, rfl, ho0, hb⟩; have n0_ := Aside0.mk (Kd.R_lower ho0 (below_size (by repeat (first | (with_reducible first | exact HB.out | apply below_alloc | apply pw_below_drewN | apply below_drew1 | refine below_set ?_ GE121.out) | exact HB.out)))); have n1_ := Aside0.mk (blk_below (g := gb121) (o := .cells #[.slice A0_0 l0_0.length c0_0, .slice A0_1 l0_1.length c0_1, .slice A0_2 l0_2.length c0_2, .slice A0_3 l0_3.length c0_3, .slice A0_4 l0_4.length c0_4, .slice A0_5 l0_5.length c0_5] 24 (0, 0)) (by (with_reducible repeat (first | refine blk_drewN ?_ _ | refine blk_drew ?_ | refine blk_alloc ?_ _)); exact BK121.out) hb); have n2_ := Aside0.mk (below_step (by repeat (first | (with_reducible first | exact HB.out | apply below_alloc | apply pw_below_drewN | apply below_drew1 | refine below_set ?_ GE121.out) | exact HB.out)) hb); clear BK121; clear HB; have HO127 := n0_; have BK121 := n1_; have HB := n2_; clear n0_ n1_ n2_; (try clear hb); (try clear hb2); (try clear hk); (try clear hi); (try clear ho0); obtain ⟨Ao8, co8, eo8⟩ := Kd.R_slice HO127.out; subst eo8)); go_upto_region 4 with (first | ((with_reducible refine gate_dst (N := 2) rfl ?_); refine box_event ?hg (N := 2) ?hd (cs := #[.slice A0_0 l0_0.length c0_0, .slice A0_1 l0_1.length c0_1, .slice A0_2 l0_2.length c0_2, .slice A0_3 l0_3.length c0_3, .slice A0_4 l0_4.length c0_4, .slice A0_5 l0_5.length c0_5]) (t := 24) ?hr ?_; (case hd => rfl); (case hg => rfl); (case hr => first | (go_simp; done) | (go_simp; rfl)); intro gb121 hg w6 hbox hb; have n0_ := Aside0.mk (below_step (by repeat (first | (with_reducible first | exact HB.out | apply below_alloc | apply pw_below_drewN | apply below_drew1) | exact HB.out)) hb); have n1_ := Aside0.mk (hbox); have n2_ := Aside0.mk ((by rw [hg]; exact (below_size (by repeat (first | (with_reducible first | exact HB.out | apply below_alloc | apply pw_below_drewN | apply below_drew1) | exact HB.out))) : w.heap.size ≤ gb121)); have n3_ := Aside0.mk ((by rw [hg]; exact (below_size (by repeat (first | (with_reducible first | exact HB.out | apply below_alloc | apply pw_below_drewN | apply below_drew1) | exact HB.out))) : w.heap.size ≤ gb121)); clear HB; have HB := n0_; have BK121 := n1_; have GW121 := n2_; have GE121 := n3_; clear n0_ n1_ n2_ n3_; clear hb hbox hg) | (go_at_call 18; (with_reducible refine (strings_Cut.calls a1 (⟨#[46]⟩ : ByteArray) t122 t123 t124 _ A3.out).mono ?_); rintro e w' ⟨rfl, ⟨nd, rfl⟩⟩; (try first | exact ⟨rfl, _, World.drewN_drewN _ _ _⟩ | exact ⟨rfl, _, Eq.trans (World.drewN_drewN _ _ _) (congrArg (World.drewN _) (Nat.add_assoc _ _ _))⟩)) | (go_at_call 19; (with_reducible refine (strings_Split.calls t122 (⟨#[95]⟩ : ByteArray) t125 _ A4.out).mono ?_); rintro e w7 ⟨v126, rfl, ho0, hb⟩; have n0_ := Aside0.mk (Kd.R_lower ho0 (below_size (by repeat (first | (with_reducible first | exact HB.out | apply below_alloc | apply pw_below_drewN | apply below_drew1 | refine below_set ?_ GE121.out) | exact HB.out)))); have n1_ := Aside0.mk (blk_below (g := gb121) (o := .cells #[.slice A0_0 l0_0.length c0_0, .slice A0_1 l0_1.length c0_1, .slice A0_2 l0_2.length c0_2, .slice A0_3 l0_3.length c0_3, .slice A0_4 l0_4.length c0_4, .slice A0_5 l0_5.length c0_5] 24 (0, 0)) (by (with_reducible repeat (first | refine blk_drewN ?_ _ | refine blk_drew ?_ | refine blk_alloc ?_ _)); exact BK121.out) hb); have n2_ := Aside0.mk (below_step (by repeat (first | (with_reducible first | exact HB.out | apply below_alloc | apply pw_below_drewN | apply below_drew1 | refine below_set ?_ GE121.out) | exact HB.out)) hb); clear BK121; clear HB; have HO127 := n0_; have BK121 := n1_; have HB := n2_; clear n0_ n1_ n2_; (try clear hb); (try clear hb2); (try clear hk); (try clear hi); (try clear ho0); obtain ⟨Ao8, co8, eo8⟩ := Kd.R_slice HO127.out; subst eo8)))
  (try simp only [Act.put, List.setIfInBounds_toArray, List.set_cons_zero, List.set_cons_succ])
  go_cut [6] (fun v6 wc => ∃ (kq : Nat) (x6_4 : Bool), v6 = .bool x6_4 ∧ Aside0 (tags_Suffix.j0 kq (⟨#[]⟩ : ByteArray) (⟨#[]⟩ : ByteArray) x6_4 t125 (t125.length : Int) l0_0 l0_1 l0_2 l0_3 l0_4 l0_5 = some (r1, r2, r3)) ∧ Aside0 (kq ≤ k) ∧ Aside0 (Kd.R Kd.string 9 wc w.heap.size (fun _ => True) (.slice Ao8 t125.length co8) t125) ∧ Aside0 (wc.heap[gb121]? = some (.cells #[(.slice A0_0 l0_0.length c0_0), (.slice A0_1 l0_1.length c0_1), (.slice A0_2 l0_2.length c0_2), (.slice A0_3 l0_3.length c0_3), (.slice A0_4 l0_4.length c0_4), (.slice A0_5 l0_5.length c0_5)] 24 (0, 0))) ∧ Aside0 (Below w.heap.size w wc))
  case first =>
    have H := HC5.out
    clear HC5
    by_cases c9 : (t125.length : Int) > 1
    · rw [if_pos c9] at H
      have c9b0 : decide (1 < (t125.length : Int)) = true := decide_eq_true c9
      have c9b1 : decide (1 < t125.length) = true := decide_eq_true (by omega)
      clear c9
      (first | rw [c9b0] | (simp only [i64_w, i32_w]; rw [c9b0]) | skip)
      obtain ⟨ji10, hji10⟩ : ∃ j_ : Int, (wrap64 ((t125.length : Int) - 1)) = j_ := ⟨_, rfl⟩
      replace H : (if 0 ≤ (ji10) then (if (ji10) < (t125.length : Int) then (tags_Suffix.j0 k (⟨#[]⟩ : ByteArray) (⟨#[]⟩ : ByteArray) ((rdOf ByteArray.empty t125 (ji10)).toList == ([116, 101, 115, 116] : List UInt8)) t125 (t125.length : Int) l0_0 l0_1 l0_2 l0_3 l0_4 l0_5) else (none)) else (none)) = some (r1, r2, r3) := by first | (rw [hji10] at H; exact H) | (simp only [hji10] at H ⊢; exact H)
      have hji10w : (IntKind.i64.wrap ((t125.length : Int) - 1)) = ji10 := (i64_w _).trans hji10
      by_cases c11 : 0 ≤ (ji10)
      · rw [if_pos c11] at H
        have c11b0 : decide (0 ≤ (ji10)) = true := decide_eq_true c11
        clear c11
        by_cases c12 : (ji10) < (t125.length : Int)
        · rw [if_pos c12] at H
          have c12b0 : decide ((ji10) < (t125.length : Int)) = true := decide_eq_true c12
          clear c12
          have H' := Aside0.mk H
          clear H
          have p128 : 0 ≤ ((ji10) : Int) := of_decide_eq_true (by first | (with_reducible assumption) | assumption)
          have q128 : (ji10) < (t125.length : Int) := of_decide_eq_true (by first | (with_reducible assumption) | assumption)
          obtain ⟨ad128, e128, hx128_0⟩ := Kd.at_string (Kd.R_reads' HO127.out).2.2 (ji10) p128 q128
          cases e128
          replace p128 := eq_true p128
          replace q128 := eq_true q128
          go_wp2
          repeat (go_quiet (fail); try go_wp2)
          go_meet
          case rel => exact ⟨_, (((rdOf ByteArray.empty t125 (ji10)).toList == ([116, 101, 115, 116] : List UInt8))), (by first | rfl | (simp; done) | (simp only [← hji10] <;> (first | rfl | simp)) | (simp [*]; done)), (by first | exact H' | (rw [hji10]; exact H')), ⟨by first | omega | exact Nat.le_refl _⟩, ⟨by (with_reducible repeat (first | apply Kd.R_alloc | apply Kd.R_drewN | apply Kd.R_drew)); first | exact HO127.out | (have e_ := HO127.out; simp only [StrOrd.own_any] at e_ ⊢; exact e_)⟩, ⟨by (with_reducible repeat (first | refine blk_drewN ?_ _ | refine blk_drew ?_ | refine blk_alloc ?_ _)); exact BK121.out⟩, ⟨by repeat (first | (with_reducible first | exact HB.out | apply below_alloc | apply pw_below_drewN | apply below_drew1 | refine below_set ?_ GE121.out) | exact HB.out)⟩⟩
        · rw [if_neg c12] at H
          exact absurd H (by simp)
      · rw [if_neg c11] at H
        exact absurd H (by simp)
    · rw [if_neg c9] at H
      have c9b0 : decide (1 < (t125.length : Int)) = false := decide_eq_false c9
      have c9b1 : decide (1 < t125.length) = false := decide_eq_false (by omega)
      clear c9
      (first | rw [c9b0] | (simp only [i64_w, i32_w]; rw [c9b0]) | skip)
      have H' := Aside0.mk H
      clear H
      go_wp2
      repeat (go_quiet (fail); try go_wp2)
      go_meet
      case rel => exact ⟨_, (false), (by first | rfl | (simp; done) | (simp [*]; done)), H', ⟨by first | omega | exact Nat.le_refl _⟩, ⟨by (with_reducible repeat (first | apply Kd.R_alloc | apply Kd.R_drewN | apply Kd.R_drew)); first | exact HO127.out | (have e_ := HO127.out; simp only [StrOrd.own_any] at e_ ⊢; exact e_)⟩, ⟨by (with_reducible repeat (first | refine blk_drewN ?_ _ | refine blk_drew ?_ | refine blk_alloc ?_ _)); exact BK121.out⟩, ⟨by repeat (first | (with_reducible first | exact HB.out | apply below_alloc | apply pw_below_drewN | apply below_drew1 | refine below_set ?_ GE121.out) | exact HB.out)⟩⟩
  case rest =>
    clear HC5
    try clear c1
    try clear p1
    try clear q1
    try clear hx1
    try clear p2
    try clear p6
    try clear c7
    try clear c9
    try clear c9b0
    try clear c9b1
    try clear c11
    try clear c11b0
    try clear c12
    try clear c12b0
    try clear p12
    try clear q12
    try clear hx12
    try clear hx128_0
    try clear p128
    try clear q128
    obtain ⟨kq, x6_4, rfl, HA, HJ4, HO_7, BK121, HB⟩ := hcut
    cases kq with
    | zero => exact absurd HA.out (by simp [tags_Suffix.j0])
    | succ kj4 =>
      have H := HA.out
      clear HA
      simp only [tags_Suffix.j0] at H
      have HC13 := Aside0.mk H
      clear H
      go_upto_if 29 with (fail)
      repeat (go_quiet (fail); go_upto_if 29 with (fail))
      go_cut [8] (fun v8 wc => ∃ (kq : Nat) (x8_12 : Int), v8 = .int .i64 x8_12 ∧ Aside0 (tags_Suffix.j1 kq (⟨#[]⟩ : ByteArray) (⟨#[]⟩ : ByteArray) x6_4 t125 x8_12 l0_0 l0_1 l0_2 l0_3 l0_4 l0_5 = some (r1, r2, r3)) ∧ Aside0 (kq ≤ kj4) ∧ Aside0 (Kd.R Kd.string 9 wc w.heap.size (fun _ => True) (.slice Ao8 t125.length co8) t125) ∧ Aside0 (wc.heap[gb121]? = some (.cells #[(.slice A0_0 l0_0.length c0_0), (.slice A0_1 l0_1.length c0_1), (.slice A0_2 l0_2.length c0_2), (.slice A0_3 l0_3.length c0_3), (.slice A0_4 l0_4.length c0_4), (.slice A0_5 l0_5.length c0_5)] 24 (0, 0))) ∧ Aside0 (Below w.heap.size w wc))
      case first =>
        have H := HC13.out
        clear HC13
        by_cases c14 : x6_4 = true
        · subst c14
          have H1 : (tags_Suffix.j1 kj4 (⟨#[]⟩ : ByteArray) (⟨#[]⟩ : ByteArray) true t125 (wrap64 ((t125.length : Int) - 1)) l0_0 l0_1 l0_2 l0_3 l0_4 l0_5) = some (r1, r2, r3) := by rw [if_pos rfl] at H; exact H
          clear H
          have H := H1
          clear H1
          have H' := Aside0.mk H
          clear H
          go_wp2
          repeat (go_quiet (fail); try go_wp2)
          go_meet
          case rel => exact ⟨_, (wrap64 ((t125.length : Int) - 1)), (by first | rfl | (simp; done) | (simp [*]; done)), H', ⟨by have := HJ4.out; first | omega | exact Nat.le_refl _⟩, ⟨by (with_reducible repeat (first | apply Kd.R_alloc | apply Kd.R_drewN | apply Kd.R_drew)); first | exact HO_7.out | (have e_ := HO_7.out; simp only [StrOrd.own_any] at e_ ⊢; exact e_)⟩, ⟨by (with_reducible repeat (first | refine blk_drewN ?_ _ | refine blk_drew ?_ | refine blk_alloc ?_ _)); exact BK121.out⟩, ⟨by repeat (first | (with_reducible first | exact HB.out | apply below_alloc | apply pw_below_drewN | apply below_drew1 | refine below_set ?_ GE121.out) | exact HB.out)⟩⟩
        · replace c14 := Bool.eq_false_iff.mpr c14
          subst c14
          have H1 : (tags_Suffix.j1 kj4 (⟨#[]⟩ : ByteArray) (⟨#[]⟩ : ByteArray) false t125 (t125.length : Int) l0_0 l0_1 l0_2 l0_3 l0_4 l0_5) = some (r1, r2, r3) := by rw [if_neg (show ¬ (false = true) by decide)] at H; exact H
          clear H
          have H := H1
          clear H1
          have H' := Aside0.mk H
          clear H
          go_wp2
          repeat (go_quiet (fail); try go_wp2)
          go_meet
          case rel => exact ⟨_, ((t125.length : Int)), (by first | rfl | (simp; done) | (simp [*]; done)), H', ⟨by have := HJ4.out; first | omega | exact Nat.le_refl _⟩, ⟨by (with_reducible repeat (first | apply Kd.R_alloc | apply Kd.R_drewN | apply Kd.R_drew)); first | exact HO_7.out | (have e_ := HO_7.out; simp only [StrOrd.own_any] at e_ ⊢; exact e_)⟩, ⟨by (with_reducible repeat (first | refine blk_drewN ?_ _ | refine blk_drew ?_ | refine blk_alloc ?_ _)); exact BK121.out⟩, ⟨by repeat (first | (with_reducible first | exact HB.out | apply below_alloc | apply pw_below_drewN | apply below_drew1 | refine below_set ?_ GE121.out) | exact HB.out)⟩⟩
      case rest =>
        clear HC13
        try clear c1
        try clear p1
        try clear q1
        try clear hx1
        try clear p2
        try clear p6
        try clear c7
        try clear c9
        try clear c9b0
        try clear c9b1
        try clear c11
        try clear c11b0
        try clear c12
        try clear c12b0
        try clear p12
        try clear q12
        try clear hx12
        try clear c14
        try clear hx128_0
        try clear p1
        try clear p12
        try clear p128
        try clear p2
        try clear p6
        try clear q1
        try clear q12
        try clear q128
        obtain ⟨kq, x8_12, rfl, HA, HJ12, HO_7, BK121, HB⟩ := hcut
        cases kq with
        | zero => exact absurd HA.out (by simp [tags_Suffix.j1])
        | succ kj12 =>
          have H := HA.out
          clear HA
          simp only [tags_Suffix.j1] at H
          have HC15 := Aside0.mk H
          clear H
          go_upto_region 7 with (fail)
          repeat (go_quiet (fail); go_upto_region 7 with (fail))
          go_cut [43] (fun v43 wc => ∃ (kq : Nat) (x43_14 : Bool), v43 = .bool x43_14 ∧ Aside0 (tags_Suffix.j2 kq (⟨#[]⟩ : ByteArray) (⟨#[]⟩ : ByteArray) x6_4 t125 x8_12 x43_14 l0_0 l0_1 l0_2 l0_3 l0_4 l0_5 = some (r1, r2, r3)) ∧ Aside0 (kq ≤ kj12) ∧ Aside0 (Kd.R Kd.string 9 wc w.heap.size (fun _ => True) (.slice Ao8 t125.length co8) t125) ∧ Aside0 (wc.heap[gb121]? = some (.cells #[(.slice A0_0 l0_0.length c0_0), (.slice A0_1 l0_1.length c0_1), (.slice A0_2 l0_2.length c0_2), (.slice A0_3 l0_3.length c0_3), (.slice A0_4 l0_4.length c0_4), (.slice A0_5 l0_5.length c0_5)] 24 (0, 0))) ∧ Aside0 (Below w.heap.size w wc))
          case first =>
            have H := HC15.out
            clear HC15
            by_cases c16 : x8_12 > 1
            · rw [if_pos c16] at H
              have c16b0 : decide (1 < x8_12) = true := decide_eq_true c16
              clear c16
              (first | rw [c16b0] | (simp only [i64_w, i32_w]; rw [c16b0]) | skip)
              obtain ⟨ji17, hji17⟩ : ∃ j_ : Int, (wrap64 (x8_12 - 1)) = j_ := ⟨_, rfl⟩
              replace H : (if 0 ≤ (ji17) then (if (ji17) < (t125.length : Int) then ((slices_Contains_string_string.f kj12 l0_2 (rdOf ByteArray.empty t125 (ji17))).bind fun t130 => (tags_Suffix.j2 kj12 (⟨#[]⟩ : ByteArray) (⟨#[]⟩ : ByteArray) x6_4 t125 x8_12 t130 l0_0 l0_1 l0_2 l0_3 l0_4 l0_5)) else (none)) else (none)) = some (r1, r2, r3) := by first | (rw [hji17] at H; exact H) | (simp only [hji17] at H ⊢; exact H)
              have hji17w : (IntKind.i64.wrap (x8_12 - 1)) = ji17 := (i64_w _).trans hji17
              by_cases c18 : 0 ≤ (ji17)
              · rw [if_pos c18] at H
                have c18b0 : decide (0 ≤ (ji17)) = true := decide_eq_true c18
                clear c18
                by_cases c19 : (ji17) < (t125.length : Int)
                · rw [if_pos c19] at H
                  have c19b0 : decide ((ji17) < (t125.length : Int)) = true := decide_eq_true c19
                  clear c19
                  replace H := Option.bind_eq_some_iff.mp H
                  obtain ⟨t130, A200, H⟩ := H
                  replace H : (tags_Suffix.j2 kj12 (⟨#[]⟩ : ByteArray) (⟨#[]⟩ : ByteArray) x6_4 t125 x8_12 t130 l0_0 l0_1 l0_2 l0_3 l0_4 l0_5) = some (r1, r2, r3) := H
                  have A20 := Aside0.mk A200
                  clear A200
                  have H' := Aside0.mk H
                  clear H
                  have hcz21_0 : wc.cell? ⟨gb121, 0, none⟩ = some (.slice A0_0 l0_0.length c0_0) := (blk_cell BK121.out 0).trans rfl
                  have hcz21_1 : wc.cell? ⟨gb121, 1, none⟩ = some (.slice A0_1 l0_1.length c0_1) := (blk_cell BK121.out 1).trans rfl
                  have hcz21_2 : wc.cell? ⟨gb121, 2, none⟩ = some (.slice A0_2 l0_2.length c0_2) := (blk_cell BK121.out 2).trans rfl
                  have hcz21_3 : wc.cell? ⟨gb121, 3, none⟩ = some (.slice A0_3 l0_3.length c0_3) := (blk_cell BK121.out 3).trans rfl
                  have hcz21_4 : wc.cell? ⟨gb121, 4, none⟩ = some (.slice A0_4 l0_4.length c0_4) := (blk_cell BK121.out 4).trans rfl
                  have hcz21_5 : wc.cell? ⟨gb121, 5, none⟩ = some (.slice A0_5 l0_5.length c0_5) := (blk_cell BK121.out 5).trans rfl
                  have hfz21_0 := blk_frozen BK121.out 0
                  have hfz21_1 := blk_frozen BK121.out 1
                  have hfz21_2 := blk_frozen BK121.out 2
                  have hfz21_3 := blk_frozen BK121.out 3
                  have hfz21_4 := blk_frozen BK121.out 4
                  have hfz21_5 := blk_frozen BK121.out 5
                  have p129 : 0 ≤ ((ji17) : Int) := of_decide_eq_true (by first | (with_reducible assumption) | assumption)
                  have q129 : (ji17) < (t125.length : Int) := of_decide_eq_true (by first | (with_reducible assumption) | assumption)
                  obtain ⟨ad129, e129, hx129_0⟩ := Kd.at_string (Kd.R_reads' HO_7.out).2.2 (ji17) p129 q129
                  cases e129
                  replace p129 := eq_true p129
                  replace q129 := eq_true q129
                  go_wp2_with (first | (go_at_call 20; (with_reducible refine (slices_Contains_string_string.calls kj12 _ _ l0_2 (rdOf ByteArray.empty t125 (ji17)) t130 _ ?side1 ?side2 A20.out).mono ?_); (case side1 => repeat (first | exact (Kd.C_below HR0_2.out HB.out) | (with_reducible refine Kd.C_alloc ?_ _) | (with_reducible refine Kd.C_drewN ?_ _) | (with_reducible refine Kd.C_drew ?_))); (case side2 => exact HC0_2.out); rintro e w' ⟨rfl, ⟨nd, rfl⟩⟩; (try first | exact ⟨rfl, _, World.drewN_drewN _ _ _⟩ | exact ⟨rfl, _, Eq.trans (World.drewN_drewN _ _ _) (congrArg (World.drewN _) (Nat.add_assoc _ _ _))⟩)))
                  repeat (go_quiet (first | (go_at_call 20; (with_reducible refine (slices_Contains_string_string.calls kj12 _ _ l0_2 (rdOf ByteArray.empty t125 (ji17)) t130 _ ?side1 ?side2 A20.out).mono ?_); (case side1 => repeat (first | exact (Kd.C_below HR0_2.out HB.out) | (with_reducible refine Kd.C_alloc ?_ _) | (with_reducible refine Kd.C_drewN ?_ _) | (with_reducible refine Kd.C_drew ?_))); (case side2 => exact HC0_2.out); rintro e w' ⟨rfl, ⟨nd, rfl⟩⟩; (try first | exact ⟨rfl, _, World.drewN_drewN _ _ _⟩ | exact ⟨rfl, _, Eq.trans (World.drewN_drewN _ _ _) (congrArg (World.drewN _) (Nat.add_assoc _ _ _))⟩))); try go_wp2_with (first | (go_at_call 20; (with_reducible refine (slices_Contains_string_string.calls kj12 _ _ l0_2 (rdOf ByteArray.empty t125 (ji17)) t130 _ ?side1 ?side2 A20.out).mono ?_); (case side1 => repeat (first | exact (Kd.C_below HR0_2.out HB.out) | (with_reducible refine Kd.C_alloc ?_ _) | (with_reducible refine Kd.C_drewN ?_ _) | (with_reducible refine Kd.C_drew ?_))); (case side2 => exact HC0_2.out); rintro e w' ⟨rfl, ⟨nd, rfl⟩⟩; (try first | exact ⟨rfl, _, World.drewN_drewN _ _ _⟩ | exact ⟨rfl, _, Eq.trans (World.drewN_drewN _ _ _) (congrArg (World.drewN _) (Nat.add_assoc _ _ _))⟩))))
                  go_meet
                  case rel => exact ⟨_, (t130), (by first | rfl | (simp; done) | (simp [*]; done)), H', ⟨by have := HJ4.out; have := HJ12.out; first | omega | exact Nat.le_refl _⟩, ⟨by (with_reducible repeat (first | apply Kd.R_alloc | apply Kd.R_drewN | apply Kd.R_drew)); first | exact HO_7.out | (have e_ := HO_7.out; simp only [StrOrd.own_any] at e_ ⊢; exact e_)⟩, ⟨by (with_reducible repeat (first | refine blk_drewN ?_ _ | refine blk_drew ?_ | refine blk_alloc ?_ _)); exact BK121.out⟩, ⟨by repeat (first | (with_reducible first | exact HB.out | apply below_alloc | apply pw_below_drewN | apply below_drew1 | refine below_set ?_ GE121.out) | exact HB.out)⟩⟩
                · rw [if_neg c19] at H
                  exact absurd H (by simp)
              · rw [if_neg c18] at H
                exact absurd H (by simp)
            · rw [if_neg c16] at H
              have c16b0 : decide (1 < x8_12) = false := decide_eq_false c16
              clear c16
              (first | rw [c16b0] | (simp only [i64_w, i32_w]; rw [c16b0]) | skip)
              have H' := Aside0.mk H
              clear H
              go_wp2
              repeat (go_quiet (fail); try go_wp2)
              go_meet
              case rel => exact ⟨_, (false), (by first | rfl | (simp; done) | (simp [*]; done)), H', ⟨by have := HJ4.out; have := HJ12.out; first | omega | exact Nat.le_refl _⟩, ⟨by (with_reducible repeat (first | apply Kd.R_alloc | apply Kd.R_drewN | apply Kd.R_drew)); first | exact HO_7.out | (have e_ := HO_7.out; simp only [StrOrd.own_any] at e_ ⊢; exact e_)⟩, ⟨by (with_reducible repeat (first | refine blk_drewN ?_ _ | refine blk_drew ?_ | refine blk_alloc ?_ _)); exact BK121.out⟩, ⟨by repeat (first | (with_reducible first | exact HB.out | apply below_alloc | apply pw_below_drewN | apply below_drew1 | refine below_set ?_ GE121.out) | exact HB.out)⟩⟩
          case rest =>
            clear HC15
            try clear c1
            try clear p1
            try clear q1
            try clear hx1
            try clear p2
            try clear p6
            try clear c7
            try clear c9
            try clear c9b0
            try clear c9b1
            try clear c11
            try clear c11b0
            try clear c12
            try clear c12b0
            try clear p12
            try clear q12
            try clear hx12
            try clear c14
            try clear c16
            try clear c16b0
            try clear c18
            try clear c18b0
            try clear c19
            try clear c19b0
            try clear hcz21_0
            try clear hcz21_1
            try clear hcz21_2
            try clear hcz21_3
            try clear hcz21_4
            try clear hcz21_5
            try clear hfz21_0
            try clear hfz21_1
            try clear hfz21_2
            try clear hfz21_3
            try clear hfz21_4
            try clear hfz21_5
            try clear hx128_0
            try clear hx129_0
            try clear p1
            try clear p12
            try clear p128
            try clear p129
            try clear p2
            try clear p6
            try clear q1
            try clear q12
            try clear q128
            try clear q129
            obtain ⟨kq, x43_14, rfl, HA, HJ14, HO_7, BK121, HB⟩ := hcut
            cases kq with
            | zero => exact absurd HA.out (by simp [tags_Suffix.j2])
            | succ kj14 =>
              have H := HA.out
              clear HA
              simp only [tags_Suffix.j2] at H
              by_cases c22 : x43_14 = true
              · subst c22
                have H1 : (if 0 ≤ (wrap64 (x8_12 - 1)) then (if (wrap64 (x8_12 - 1)) < (t125.length : Int) then (if (wrap64 (x8_12 - 1)) > 1 then (if 0 ≤ (wrap64 ((wrap64 (x8_12 - 1)) - 1)) then (if (wrap64 ((wrap64 (x8_12 - 1)) - 1)) < (t125.length : Int) then ((slices_Contains_string_string.f kj14 l0_0 (rdOf ByteArray.empty t125 (wrap64 ((wrap64 (x8_12 - 1)) - 1)))).bind fun t133 => (if t133 = true then (some (rdOf ByteArray.empty t125 (wrap64 ((wrap64 (x8_12 - 1)) - 1)), rdOf ByteArray.empty t125 (wrap64 (x8_12 - 1)), x6_4)) else (some ((⟨#[]⟩ : ByteArray), rdOf ByteArray.empty t125 (wrap64 (x8_12 - 1)), x6_4)))) else (none)) else (none)) else (some ((⟨#[]⟩ : ByteArray), rdOf ByteArray.empty t125 (wrap64 (x8_12 - 1)), x6_4))) else (none)) else (none)) = some (r1, r2, r3) := by rw [if_pos rfl] at H; exact H
                clear H
                have H := H1
                clear H1
                obtain ⟨ji23, hji23⟩ : ∃ j_ : Int, (wrap64 (x8_12 - 1)) = j_ := ⟨_, rfl⟩
                replace H : (if 0 ≤ (ji23) then (if (ji23) < (t125.length : Int) then (if (ji23) > 1 then (if 0 ≤ (wrap64 ((ji23) - 1)) then (if (wrap64 ((ji23) - 1)) < (t125.length : Int) then ((slices_Contains_string_string.f kj14 l0_0 (rdOf ByteArray.empty t125 (wrap64 ((ji23) - 1)))).bind fun t133 => (if t133 = true then (some (rdOf ByteArray.empty t125 (wrap64 ((ji23) - 1)), rdOf ByteArray.empty t125 (ji23), x6_4)) else (some ((⟨#[]⟩ : ByteArray), rdOf ByteArray.empty t125 (ji23), x6_4)))) else (none)) else (none)) else (some ((⟨#[]⟩ : ByteArray), rdOf ByteArray.empty t125 (ji23), x6_4))) else (none)) else (none)) = some (r1, r2, r3) := by first | (rw [hji23] at H; exact H) | (simp only [hji23] at H ⊢; exact H)
                have hji23w : (IntKind.i64.wrap (x8_12 - 1)) = ji23 := (i64_w _).trans hji23
                by_cases c24 : 0 ≤ (ji23)
                · rw [if_pos c24] at H
                  have c24b0 : decide (0 ≤ (ji23)) = true := decide_eq_true c24
                  clear c24
                  by_cases c25 : (ji23) < (t125.length : Int)
                  · rw [if_pos c25] at H
                    have c25b0 : decide ((ji23) < (t125.length : Int)) = true := decide_eq_true c25
                    clear c25
                    by_cases c26 : (ji23) > 1
                    · rw [if_pos c26] at H
                      have c26b0 : decide (1 < (ji23)) = true := decide_eq_true c26
                      clear c26
                      obtain ⟨ji27, hji27⟩ : ∃ j_ : Int, (wrap64 ((ji23) - 1)) = j_ := ⟨_, rfl⟩
                      replace H : (if 0 ≤ (ji27) then (if (ji27) < (t125.length : Int) then ((slices_Contains_string_string.f kj14 l0_0 (rdOf ByteArray.empty t125 (ji27))).bind fun t133 => (if t133 = true then (some (rdOf ByteArray.empty t125 (ji27), rdOf ByteArray.empty t125 (ji23), x6_4)) else (some ((⟨#[]⟩ : ByteArray), rdOf ByteArray.empty t125 (ji23), x6_4)))) else (none)) else (none)) = some (r1, r2, r3) := by first | (rw [hji27] at H; exact H) | (simp only [hji27] at H ⊢; exact H)
                      have hji27w : (IntKind.i64.wrap ((ji23) - 1)) = ji27 := (i64_w _).trans hji27
                      by_cases c28 : 0 ≤ (ji27)
                      · rw [if_pos c28] at H
                        have c28b0 : decide (0 ≤ (ji27)) = true := decide_eq_true c28
                        clear c28
                        by_cases c29 : (ji27) < (t125.length : Int)
                        · rw [if_pos c29] at H
                          have c29b0 : decide ((ji27) < (t125.length : Int)) = true := decide_eq_true c29
                          clear c29
                          replace H := Option.bind_eq_some_iff.mp H
                          obtain ⟨t133, A300, H⟩ := H
                          replace H : (if t133 = true then (some (rdOf ByteArray.empty t125 (ji27), rdOf ByteArray.empty t125 (ji23), x6_4)) else (some ((⟨#[]⟩ : ByteArray), rdOf ByteArray.empty t125 (ji23), x6_4))) = some (r1, r2, r3) := H
                          have A30 := Aside0.mk A300
                          clear A300
                          by_cases c31 : t133 = true
                          · subst c31
                            have H1 : (some (rdOf ByteArray.empty t125 (ji27), rdOf ByteArray.empty t125 (ji23), x6_4)) = some (r1, r2, r3) := by rw [if_pos rfl] at H; exact H
                            clear H
                            have H := H1
                            clear H1
                            simp only [Option.some.injEq, Prod.mk.injEq] at H
                            obtain ⟨rfl, rfl, rfl⟩ := H
                            have p131 : 0 ≤ ((ji23) : Int) := of_decide_eq_true (by first | (with_reducible assumption) | assumption)
                            have q131 : (ji23) < (t125.length : Int) := of_decide_eq_true (by first | (with_reducible assumption) | assumption)
                            obtain ⟨ad131, e131, hx131_0⟩ := Kd.at_string (Kd.R_reads' HO_7.out).2.2 (ji23) p131 q131
                            cases e131
                            replace p131 := eq_true p131
                            replace q131 := eq_true q131
                            have hcz32_0 : wc.cell? ⟨gb121, 0, none⟩ = some (.slice A0_0 l0_0.length c0_0) := (blk_cell BK121.out 0).trans rfl
                            have hcz32_1 : wc.cell? ⟨gb121, 1, none⟩ = some (.slice A0_1 l0_1.length c0_1) := (blk_cell BK121.out 1).trans rfl
                            have hcz32_2 : wc.cell? ⟨gb121, 2, none⟩ = some (.slice A0_2 l0_2.length c0_2) := (blk_cell BK121.out 2).trans rfl
                            have hcz32_3 : wc.cell? ⟨gb121, 3, none⟩ = some (.slice A0_3 l0_3.length c0_3) := (blk_cell BK121.out 3).trans rfl
                            have hcz32_4 : wc.cell? ⟨gb121, 4, none⟩ = some (.slice A0_4 l0_4.length c0_4) := (blk_cell BK121.out 4).trans rfl
                            have hcz32_5 : wc.cell? ⟨gb121, 5, none⟩ = some (.slice A0_5 l0_5.length c0_5) := (blk_cell BK121.out 5).trans rfl
                            have hfz32_0 := blk_frozen BK121.out 0
                            have hfz32_1 := blk_frozen BK121.out 1
                            have hfz32_2 := blk_frozen BK121.out 2
                            have hfz32_3 := blk_frozen BK121.out 3
                            have hfz32_4 := blk_frozen BK121.out 4
                            have hfz32_5 := blk_frozen BK121.out 5
                            have p132 : 0 ≤ ((ji27) : Int) := of_decide_eq_true (by first | (with_reducible assumption) | assumption)
                            have q132 : (ji27) < (t125.length : Int) := of_decide_eq_true (by first | (with_reducible assumption) | assumption)
                            obtain ⟨ad132, e132, hx132_0⟩ := Kd.at_string (Kd.R_reads' HO_7.out).2.2 (ji27) p132 q132
                            obtain rfl : ad131 = ad132 := (by injection e132)
                            replace p132 := eq_true p132
                            replace q132 := eq_true q132
                            go_wp2_with (first | (go_at_call 20; (with_reducible refine (slices_Contains_string_string.calls kj14 _ _ l0_0 (rdOf ByteArray.empty t125 (ji27)) true _ ?side1 ?side2 A30.out).mono ?_); (case side1 => repeat (first | exact (Kd.C_below HR0_0.out HB.out) | (with_reducible refine Kd.C_alloc ?_ _) | (with_reducible refine Kd.C_drewN ?_ _) | (with_reducible refine Kd.C_drew ?_))); (case side2 => exact HC0_0.out); rintro e w' ⟨rfl, ⟨nd, rfl⟩⟩; (try first | exact ⟨rfl, _, World.drewN_drewN _ _ _⟩ | exact ⟨rfl, _, Eq.trans (World.drewN_drewN _ _ _) (congrArg (World.drewN _) (Nat.add_assoc _ _ _))⟩); have p134 : 0 ≤ ((ji27) : Int) := of_decide_eq_true (by first | (with_reducible assumption) | assumption); have q134 : (ji27) < (t125.length : Int) := of_decide_eq_true (by first | (with_reducible assumption) | assumption); obtain ⟨ad134, e134, hx134_0⟩ := Kd.at_string (Kd.R_reads' HO_7.out).2.2 (ji27) p134 q134; obtain rfl : ad131 = ad134 := (by injection e134); replace p134 := eq_true p134; replace q134 := eq_true q134))
                            repeat (go_quiet (first | (go_at_call 20; (with_reducible refine (slices_Contains_string_string.calls kj14 _ _ l0_0 (rdOf ByteArray.empty t125 (ji27)) true _ ?side1 ?side2 A30.out).mono ?_); (case side1 => repeat (first | exact (Kd.C_below HR0_0.out HB.out) | (with_reducible refine Kd.C_alloc ?_ _) | (with_reducible refine Kd.C_drewN ?_ _) | (with_reducible refine Kd.C_drew ?_))); (case side2 => exact HC0_0.out); rintro e w' ⟨rfl, ⟨nd, rfl⟩⟩; (try first | exact ⟨rfl, _, World.drewN_drewN _ _ _⟩ | exact ⟨rfl, _, Eq.trans (World.drewN_drewN _ _ _) (congrArg (World.drewN _) (Nat.add_assoc _ _ _))⟩); have p134 : 0 ≤ ((ji27) : Int) := of_decide_eq_true (by first | (with_reducible assumption) | assumption); have q134 : (ji27) < (t125.length : Int) := of_decide_eq_true (by first | (with_reducible assumption) | assumption); obtain ⟨ad134, e134, hx134_0⟩ := Kd.at_string (Kd.R_reads' HO_7.out).2.2 (ji27) p134 q134; obtain rfl : ad131 = ad134 := (by injection e134); replace p134 := eq_true p134; replace q134 := eq_true q134)); try go_wp2_with (first | (go_at_call 20; (with_reducible refine (slices_Contains_string_string.calls kj14 _ _ l0_0 (rdOf ByteArray.empty t125 (ji27)) true _ ?side1 ?side2 A30.out).mono ?_); (case side1 => repeat (first | exact (Kd.C_below HR0_0.out HB.out) | (with_reducible refine Kd.C_alloc ?_ _) | (with_reducible refine Kd.C_drewN ?_ _) | (with_reducible refine Kd.C_drew ?_))); (case side2 => exact HC0_0.out); rintro e w' ⟨rfl, ⟨nd, rfl⟩⟩; (try first | exact ⟨rfl, _, World.drewN_drewN _ _ _⟩ | exact ⟨rfl, _, Eq.trans (World.drewN_drewN _ _ _) (congrArg (World.drewN _) (Nat.add_assoc _ _ _))⟩); have p134 : 0 ≤ ((ji27) : Int) := of_decide_eq_true (by first | (with_reducible assumption) | assumption); have q134 : (ji27) < (t125.length : Int) := of_decide_eq_true (by first | (with_reducible assumption) | assumption); obtain ⟨ad134, e134, hx134_0⟩ := Kd.at_string (Kd.R_reads' HO_7.out).2.2 (ji27) p134 q134; obtain rfl : ad131 = ad134 := (by injection e134); replace p134 := eq_true p134; replace q134 := eq_true q134)))
                            go_ret3
                            exact ⟨by first | rfl | (simp [errW_none, errW_some] <;> rfl) | (simp only [← hji23, ← hji27]; first | rfl | (simp [errW_none, errW_some] <;> rfl)) | (simp [*, errW_none, errW_some] <;> rfl), by repeat (first | (with_reducible first | exact HB.out | apply below_alloc | apply pw_below_drewN | apply below_drew1 | refine below_set ?_ GE121.out) | exact HB.out)⟩
                          · replace c31 := Bool.eq_false_iff.mpr c31
                            subst c31
                            have H1 : (some ((⟨#[]⟩ : ByteArray), rdOf ByteArray.empty t125 (ji23), x6_4)) = some (r1, r2, r3) := by rw [if_neg (show ¬ (false = true) by decide)] at H; exact H
                            clear H
                            have H := H1
                            clear H1
                            simp only [Option.some.injEq, Prod.mk.injEq] at H
                            obtain ⟨rfl, rfl, rfl⟩ := H
                            have p131 : 0 ≤ ((ji23) : Int) := of_decide_eq_true (by first | (with_reducible assumption) | assumption)
                            have q131 : (ji23) < (t125.length : Int) := of_decide_eq_true (by first | (with_reducible assumption) | assumption)
                            obtain ⟨ad131, e131, hx131_0⟩ := Kd.at_string (Kd.R_reads' HO_7.out).2.2 (ji23) p131 q131
                            cases e131
                            replace p131 := eq_true p131
                            replace q131 := eq_true q131
                            have hcz33_0 : wc.cell? ⟨gb121, 0, none⟩ = some (.slice A0_0 l0_0.length c0_0) := (blk_cell BK121.out 0).trans rfl
                            have hcz33_1 : wc.cell? ⟨gb121, 1, none⟩ = some (.slice A0_1 l0_1.length c0_1) := (blk_cell BK121.out 1).trans rfl
                            have hcz33_2 : wc.cell? ⟨gb121, 2, none⟩ = some (.slice A0_2 l0_2.length c0_2) := (blk_cell BK121.out 2).trans rfl
                            have hcz33_3 : wc.cell? ⟨gb121, 3, none⟩ = some (.slice A0_3 l0_3.length c0_3) := (blk_cell BK121.out 3).trans rfl
                            have hcz33_4 : wc.cell? ⟨gb121, 4, none⟩ = some (.slice A0_4 l0_4.length c0_4) := (blk_cell BK121.out 4).trans rfl
                            have hcz33_5 : wc.cell? ⟨gb121, 5, none⟩ = some (.slice A0_5 l0_5.length c0_5) := (blk_cell BK121.out 5).trans rfl
                            have hfz33_0 := blk_frozen BK121.out 0
                            have hfz33_1 := blk_frozen BK121.out 1
                            have hfz33_2 := blk_frozen BK121.out 2
                            have hfz33_3 := blk_frozen BK121.out 3
                            have hfz33_4 := blk_frozen BK121.out 4
                            have hfz33_5 := blk_frozen BK121.out 5
                            have p132 : 0 ≤ ((ji27) : Int) := of_decide_eq_true (by first | (with_reducible assumption) | assumption)
                            have q132 : (ji27) < (t125.length : Int) := of_decide_eq_true (by first | (with_reducible assumption) | assumption)
                            obtain ⟨ad132, e132, hx132_0⟩ := Kd.at_string (Kd.R_reads' HO_7.out).2.2 (ji27) p132 q132
                            obtain rfl : ad131 = ad132 := (by injection e132)
                            replace p132 := eq_true p132
                            replace q132 := eq_true q132
                            go_wp2_with (first | (go_at_call 20; (with_reducible refine (slices_Contains_string_string.calls kj14 _ _ l0_0 (rdOf ByteArray.empty t125 (ji27)) false _ ?side1 ?side2 A30.out).mono ?_); (case side1 => repeat (first | exact (Kd.C_below HR0_0.out HB.out) | (with_reducible refine Kd.C_alloc ?_ _) | (with_reducible refine Kd.C_drewN ?_ _) | (with_reducible refine Kd.C_drew ?_))); (case side2 => exact HC0_0.out); rintro e w' ⟨rfl, ⟨nd, rfl⟩⟩; (try first | exact ⟨rfl, _, World.drewN_drewN _ _ _⟩ | exact ⟨rfl, _, Eq.trans (World.drewN_drewN _ _ _) (congrArg (World.drewN _) (Nat.add_assoc _ _ _))⟩)))
                            repeat (go_quiet (first | (go_at_call 20; (with_reducible refine (slices_Contains_string_string.calls kj14 _ _ l0_0 (rdOf ByteArray.empty t125 (ji27)) false _ ?side1 ?side2 A30.out).mono ?_); (case side1 => repeat (first | exact (Kd.C_below HR0_0.out HB.out) | (with_reducible refine Kd.C_alloc ?_ _) | (with_reducible refine Kd.C_drewN ?_ _) | (with_reducible refine Kd.C_drew ?_))); (case side2 => exact HC0_0.out); rintro e w' ⟨rfl, ⟨nd, rfl⟩⟩; (try first | exact ⟨rfl, _, World.drewN_drewN _ _ _⟩ | exact ⟨rfl, _, Eq.trans (World.drewN_drewN _ _ _) (congrArg (World.drewN _) (Nat.add_assoc _ _ _))⟩))); try go_wp2_with (first | (go_at_call 20; (with_reducible refine (slices_Contains_string_string.calls kj14 _ _ l0_0 (rdOf ByteArray.empty t125 (ji27)) false _ ?side1 ?side2 A30.out).mono ?_); (case side1 => repeat (first | exact (Kd.C_below HR0_0.out HB.out) | (with_reducible refine Kd.C_alloc ?_ _) | (with_reducible refine Kd.C_drewN ?_ _) | (with_reducible refine Kd.C_drew ?_))); (case side2 => exact HC0_0.out); rintro e w' ⟨rfl, ⟨nd, rfl⟩⟩; (try first | exact ⟨rfl, _, World.drewN_drewN _ _ _⟩ | exact ⟨rfl, _, Eq.trans (World.drewN_drewN _ _ _) (congrArg (World.drewN _) (Nat.add_assoc _ _ _))⟩))))
                            go_ret3
                            exact ⟨by first | rfl | (simp [errW_none, errW_some] <;> rfl) | (simp only [← hji23, ← hji27]; first | rfl | (simp [errW_none, errW_some] <;> rfl)) | (simp [*, errW_none, errW_some] <;> rfl), by repeat (first | (with_reducible first | exact HB.out | apply below_alloc | apply pw_below_drewN | apply below_drew1 | refine below_set ?_ GE121.out) | exact HB.out)⟩
                        · rw [if_neg c29] at H
                          exact absurd H (by simp)
                      · rw [if_neg c28] at H
                        exact absurd H (by simp)
                    · rw [if_neg c26] at H
                      have c26b0 : decide (1 < (ji23)) = false := decide_eq_false c26
                      clear c26
                      simp only [Option.some.injEq, Prod.mk.injEq] at H
                      obtain ⟨rfl, rfl, rfl⟩ := H
                      have p131 : 0 ≤ ((ji23) : Int) := of_decide_eq_true (by first | (with_reducible assumption) | assumption)
                      have q131 : (ji23) < (t125.length : Int) := of_decide_eq_true (by first | (with_reducible assumption) | assumption)
                      obtain ⟨ad131, e131, hx131_0⟩ := Kd.at_string (Kd.R_reads' HO_7.out).2.2 (ji23) p131 q131
                      cases e131
                      replace p131 := eq_true p131
                      replace q131 := eq_true q131
                      go_wp2
                      repeat (go_quiet (fail); try go_wp2)
                      go_ret3
                      exact ⟨by first | rfl | (simp [errW_none, errW_some] <;> rfl) | (simp only [← hji23]; first | rfl | (simp [errW_none, errW_some] <;> rfl)) | (simp [*, errW_none, errW_some] <;> rfl), by repeat (first | (with_reducible first | exact HB.out | apply below_alloc | apply pw_below_drewN | apply below_drew1 | refine below_set ?_ GE121.out) | exact HB.out)⟩
                  · rw [if_neg c25] at H
                    exact absurd H (by simp)
                · rw [if_neg c24] at H
                  exact absurd H (by simp)
              · replace c22 := Bool.eq_false_iff.mpr c22
                subst c22
                have H1 : (if x8_12 > 1 then (if 0 ≤ (wrap64 (x8_12 - 1)) then (if (wrap64 (x8_12 - 1)) < (t125.length : Int) then ((slices_Contains_string_string.f kj14 l0_0 (rdOf ByteArray.empty t125 (wrap64 (x8_12 - 1)))).bind fun t136 => (if t136 = true then (some (rdOf ByteArray.empty t125 (wrap64 (x8_12 - 1)), (⟨#[]⟩ : ByteArray), x6_4)) else (some ((⟨#[]⟩ : ByteArray), (⟨#[]⟩ : ByteArray), x6_4)))) else (none)) else (none)) else (some ((⟨#[]⟩ : ByteArray), (⟨#[]⟩ : ByteArray), x6_4))) = some (r1, r2, r3) := by rw [if_neg (show ¬ (false = true) by decide)] at H; exact H
                clear H
                have H := H1
                clear H1
                by_cases c34 : x8_12 > 1
                · rw [if_pos c34] at H
                  have c34b0 : decide (1 < x8_12) = true := decide_eq_true c34
                  clear c34
                  obtain ⟨ji35, hji35⟩ : ∃ j_ : Int, (wrap64 (x8_12 - 1)) = j_ := ⟨_, rfl⟩
                  replace H : (if 0 ≤ (ji35) then (if (ji35) < (t125.length : Int) then ((slices_Contains_string_string.f kj14 l0_0 (rdOf ByteArray.empty t125 (ji35))).bind fun t136 => (if t136 = true then (some (rdOf ByteArray.empty t125 (ji35), (⟨#[]⟩ : ByteArray), x6_4)) else (some ((⟨#[]⟩ : ByteArray), (⟨#[]⟩ : ByteArray), x6_4)))) else (none)) else (none)) = some (r1, r2, r3) := by first | (rw [hji35] at H; exact H) | (simp only [hji35] at H ⊢; exact H)
                  have hji35w : (IntKind.i64.wrap (x8_12 - 1)) = ji35 := (i64_w _).trans hji35
                  by_cases c36 : 0 ≤ (ji35)
                  · rw [if_pos c36] at H
                    have c36b0 : decide (0 ≤ (ji35)) = true := decide_eq_true c36
                    clear c36
                    by_cases c37 : (ji35) < (t125.length : Int)
                    · rw [if_pos c37] at H
                      have c37b0 : decide ((ji35) < (t125.length : Int)) = true := decide_eq_true c37
                      clear c37
                      replace H := Option.bind_eq_some_iff.mp H
                      obtain ⟨t136, A380, H⟩ := H
                      replace H : (if t136 = true then (some (rdOf ByteArray.empty t125 (ji35), (⟨#[]⟩ : ByteArray), x6_4)) else (some ((⟨#[]⟩ : ByteArray), (⟨#[]⟩ : ByteArray), x6_4))) = some (r1, r2, r3) := H
                      have A38 := Aside0.mk A380
                      clear A380
                      by_cases c39 : t136 = true
                      · subst c39
                        have H1 : (some (rdOf ByteArray.empty t125 (ji35), (⟨#[]⟩ : ByteArray), x6_4)) = some (r1, r2, r3) := by rw [if_pos rfl] at H; exact H
                        clear H
                        have H := H1
                        clear H1
                        simp only [Option.some.injEq, Prod.mk.injEq] at H
                        obtain ⟨rfl, rfl, rfl⟩ := H
                        have hcz40_0 : wc.cell? ⟨gb121, 0, none⟩ = some (.slice A0_0 l0_0.length c0_0) := (blk_cell BK121.out 0).trans rfl
                        have hcz40_1 : wc.cell? ⟨gb121, 1, none⟩ = some (.slice A0_1 l0_1.length c0_1) := (blk_cell BK121.out 1).trans rfl
                        have hcz40_2 : wc.cell? ⟨gb121, 2, none⟩ = some (.slice A0_2 l0_2.length c0_2) := (blk_cell BK121.out 2).trans rfl
                        have hcz40_3 : wc.cell? ⟨gb121, 3, none⟩ = some (.slice A0_3 l0_3.length c0_3) := (blk_cell BK121.out 3).trans rfl
                        have hcz40_4 : wc.cell? ⟨gb121, 4, none⟩ = some (.slice A0_4 l0_4.length c0_4) := (blk_cell BK121.out 4).trans rfl
                        have hcz40_5 : wc.cell? ⟨gb121, 5, none⟩ = some (.slice A0_5 l0_5.length c0_5) := (blk_cell BK121.out 5).trans rfl
                        have hfz40_0 := blk_frozen BK121.out 0
                        have hfz40_1 := blk_frozen BK121.out 1
                        have hfz40_2 := blk_frozen BK121.out 2
                        have hfz40_3 := blk_frozen BK121.out 3
                        have hfz40_4 := blk_frozen BK121.out 4
                        have hfz40_5 := blk_frozen BK121.out 5
                        have p135 : 0 ≤ ((ji35) : Int) := of_decide_eq_true (by first | (with_reducible assumption) | assumption)
                        have q135 : (ji35) < (t125.length : Int) := of_decide_eq_true (by first | (with_reducible assumption) | assumption)
                        obtain ⟨ad135, e135, hx135_0⟩ := Kd.at_string (Kd.R_reads' HO_7.out).2.2 (ji35) p135 q135
                        cases e135
                        replace p135 := eq_true p135
                        replace q135 := eq_true q135
                        go_wp2_with (first | (go_at_call 20; (with_reducible refine (slices_Contains_string_string.calls kj14 _ _ l0_0 (rdOf ByteArray.empty t125 (ji35)) true _ ?side1 ?side2 A38.out).mono ?_); (case side1 => repeat (first | exact (Kd.C_below HR0_0.out HB.out) | (with_reducible refine Kd.C_alloc ?_ _) | (with_reducible refine Kd.C_drewN ?_ _) | (with_reducible refine Kd.C_drew ?_))); (case side2 => exact HC0_0.out); rintro e w' ⟨rfl, ⟨nd, rfl⟩⟩; (try first | exact ⟨rfl, _, World.drewN_drewN _ _ _⟩ | exact ⟨rfl, _, Eq.trans (World.drewN_drewN _ _ _) (congrArg (World.drewN _) (Nat.add_assoc _ _ _))⟩); have p137 : 0 ≤ ((ji35) : Int) := of_decide_eq_true (by first | (with_reducible assumption) | assumption); have q137 : (ji35) < (t125.length : Int) := of_decide_eq_true (by first | (with_reducible assumption) | assumption); obtain ⟨ad137, e137, hx137_0⟩ := Kd.at_string (Kd.R_reads' HO_7.out).2.2 (ji35) p137 q137; obtain rfl : ad135 = ad137 := (by injection e137); replace p137 := eq_true p137; replace q137 := eq_true q137))
                        repeat (go_quiet (first | (go_at_call 20; (with_reducible refine (slices_Contains_string_string.calls kj14 _ _ l0_0 (rdOf ByteArray.empty t125 (ji35)) true _ ?side1 ?side2 A38.out).mono ?_); (case side1 => repeat (first | exact (Kd.C_below HR0_0.out HB.out) | (with_reducible refine Kd.C_alloc ?_ _) | (with_reducible refine Kd.C_drewN ?_ _) | (with_reducible refine Kd.C_drew ?_))); (case side2 => exact HC0_0.out); rintro e w' ⟨rfl, ⟨nd, rfl⟩⟩; (try first | exact ⟨rfl, _, World.drewN_drewN _ _ _⟩ | exact ⟨rfl, _, Eq.trans (World.drewN_drewN _ _ _) (congrArg (World.drewN _) (Nat.add_assoc _ _ _))⟩); have p137 : 0 ≤ ((ji35) : Int) := of_decide_eq_true (by first | (with_reducible assumption) | assumption); have q137 : (ji35) < (t125.length : Int) := of_decide_eq_true (by first | (with_reducible assumption) | assumption); obtain ⟨ad137, e137, hx137_0⟩ := Kd.at_string (Kd.R_reads' HO_7.out).2.2 (ji35) p137 q137; obtain rfl : ad135 = ad137 := (by injection e137); replace p137 := eq_true p137; replace q137 := eq_true q137)); try go_wp2_with (first | (go_at_call 20; (with_reducible refine (slices_Contains_string_string.calls kj14 _ _ l0_0 (rdOf ByteArray.empty t125 (ji35)) true _ ?side1 ?side2 A38.out).mono ?_); (case side1 => repeat (first | exact (Kd.C_below HR0_0.out HB.out) | (with_reducible refine Kd.C_alloc ?_ _) | (with_reducible refine Kd.C_drewN ?_ _) | (with_reducible refine Kd.C_drew ?_))); (case side2 => exact HC0_0.out); rintro e w' ⟨rfl, ⟨nd, rfl⟩⟩; (try first | exact ⟨rfl, _, World.drewN_drewN _ _ _⟩ | exact ⟨rfl, _, Eq.trans (World.drewN_drewN _ _ _) (congrArg (World.drewN _) (Nat.add_assoc _ _ _))⟩); have p137 : 0 ≤ ((ji35) : Int) := of_decide_eq_true (by first | (with_reducible assumption) | assumption); have q137 : (ji35) < (t125.length : Int) := of_decide_eq_true (by first | (with_reducible assumption) | assumption); obtain ⟨ad137, e137, hx137_0⟩ := Kd.at_string (Kd.R_reads' HO_7.out).2.2 (ji35) p137 q137; obtain rfl : ad135 = ad137 := (by injection e137); replace p137 := eq_true p137; replace q137 := eq_true q137)))
                        go_ret3
                        exact ⟨by first | rfl | (simp [errW_none, errW_some] <;> rfl) | (simp only [← hji35]; first | rfl | (simp [errW_none, errW_some] <;> rfl)) | (simp [*, errW_none, errW_some] <;> rfl), by repeat (first | (with_reducible first | exact HB.out | apply below_alloc | apply pw_below_drewN | apply below_drew1 | refine below_set ?_ GE121.out) | exact HB.out)⟩
                      · replace c39 := Bool.eq_false_iff.mpr c39
                        subst c39
                        have H1 : (some ((⟨#[]⟩ : ByteArray), (⟨#[]⟩ : ByteArray), x6_4)) = some (r1, r2, r3) := by rw [if_neg (show ¬ (false = true) by decide)] at H; exact H
                        clear H
                        have H := H1
                        clear H1
                        simp only [Option.some.injEq, Prod.mk.injEq] at H
                        obtain ⟨rfl, rfl, rfl⟩ := H
                        have hcz41_0 : wc.cell? ⟨gb121, 0, none⟩ = some (.slice A0_0 l0_0.length c0_0) := (blk_cell BK121.out 0).trans rfl
                        have hcz41_1 : wc.cell? ⟨gb121, 1, none⟩ = some (.slice A0_1 l0_1.length c0_1) := (blk_cell BK121.out 1).trans rfl
                        have hcz41_2 : wc.cell? ⟨gb121, 2, none⟩ = some (.slice A0_2 l0_2.length c0_2) := (blk_cell BK121.out 2).trans rfl
                        have hcz41_3 : wc.cell? ⟨gb121, 3, none⟩ = some (.slice A0_3 l0_3.length c0_3) := (blk_cell BK121.out 3).trans rfl
                        have hcz41_4 : wc.cell? ⟨gb121, 4, none⟩ = some (.slice A0_4 l0_4.length c0_4) := (blk_cell BK121.out 4).trans rfl
                        have hcz41_5 : wc.cell? ⟨gb121, 5, none⟩ = some (.slice A0_5 l0_5.length c0_5) := (blk_cell BK121.out 5).trans rfl
                        have hfz41_0 := blk_frozen BK121.out 0
                        have hfz41_1 := blk_frozen BK121.out 1
                        have hfz41_2 := blk_frozen BK121.out 2
                        have hfz41_3 := blk_frozen BK121.out 3
                        have hfz41_4 := blk_frozen BK121.out 4
                        have hfz41_5 := blk_frozen BK121.out 5
                        have p135 : 0 ≤ ((ji35) : Int) := of_decide_eq_true (by first | (with_reducible assumption) | assumption)
                        have q135 : (ji35) < (t125.length : Int) := of_decide_eq_true (by first | (with_reducible assumption) | assumption)
                        obtain ⟨ad135, e135, hx135_0⟩ := Kd.at_string (Kd.R_reads' HO_7.out).2.2 (ji35) p135 q135
                        cases e135
                        replace p135 := eq_true p135
                        replace q135 := eq_true q135
                        go_wp2_with (first | (go_at_call 20; (with_reducible refine (slices_Contains_string_string.calls kj14 _ _ l0_0 (rdOf ByteArray.empty t125 (ji35)) false _ ?side1 ?side2 A38.out).mono ?_); (case side1 => repeat (first | exact (Kd.C_below HR0_0.out HB.out) | (with_reducible refine Kd.C_alloc ?_ _) | (with_reducible refine Kd.C_drewN ?_ _) | (with_reducible refine Kd.C_drew ?_))); (case side2 => exact HC0_0.out); rintro e w' ⟨rfl, ⟨nd, rfl⟩⟩; (try first | exact ⟨rfl, _, World.drewN_drewN _ _ _⟩ | exact ⟨rfl, _, Eq.trans (World.drewN_drewN _ _ _) (congrArg (World.drewN _) (Nat.add_assoc _ _ _))⟩)))
                        repeat (go_quiet (first | (go_at_call 20; (with_reducible refine (slices_Contains_string_string.calls kj14 _ _ l0_0 (rdOf ByteArray.empty t125 (ji35)) false _ ?side1 ?side2 A38.out).mono ?_); (case side1 => repeat (first | exact (Kd.C_below HR0_0.out HB.out) | (with_reducible refine Kd.C_alloc ?_ _) | (with_reducible refine Kd.C_drewN ?_ _) | (with_reducible refine Kd.C_drew ?_))); (case side2 => exact HC0_0.out); rintro e w' ⟨rfl, ⟨nd, rfl⟩⟩; (try first | exact ⟨rfl, _, World.drewN_drewN _ _ _⟩ | exact ⟨rfl, _, Eq.trans (World.drewN_drewN _ _ _) (congrArg (World.drewN _) (Nat.add_assoc _ _ _))⟩))); try go_wp2_with (first | (go_at_call 20; (with_reducible refine (slices_Contains_string_string.calls kj14 _ _ l0_0 (rdOf ByteArray.empty t125 (ji35)) false _ ?side1 ?side2 A38.out).mono ?_); (case side1 => repeat (first | exact (Kd.C_below HR0_0.out HB.out) | (with_reducible refine Kd.C_alloc ?_ _) | (with_reducible refine Kd.C_drewN ?_ _) | (with_reducible refine Kd.C_drew ?_))); (case side2 => exact HC0_0.out); rintro e w' ⟨rfl, ⟨nd, rfl⟩⟩; (try first | exact ⟨rfl, _, World.drewN_drewN _ _ _⟩ | exact ⟨rfl, _, Eq.trans (World.drewN_drewN _ _ _) (congrArg (World.drewN _) (Nat.add_assoc _ _ _))⟩))))
                        go_ret3
                        exact ⟨by first | rfl | (simp [errW_none, errW_some] <;> rfl) | (simp only [← hji35]; first | rfl | (simp [errW_none, errW_some] <;> rfl)) | (simp [*, errW_none, errW_some] <;> rfl), by repeat (first | (with_reducible first | exact HB.out | apply below_alloc | apply pw_below_drewN | apply below_drew1 | refine below_set ?_ GE121.out) | exact HB.out)⟩
                    · rw [if_neg c37] at H
                      exact absurd H (by simp)
                  · rw [if_neg c36] at H
                    exact absurd H (by simp)
                · rw [if_neg c34] at H
                  have c34b0 : decide (1 < x8_12) = false := decide_eq_false c34
                  clear c34
                  simp only [Option.some.injEq, Prod.mk.injEq] at H
                  obtain ⟨rfl, rfl, rfl⟩ := H
                  go_wp2
                  repeat (go_quiet (fail); try go_wp2)
                  go_ret3
                  exact ⟨by first | rfl | (simp [errW_none, errW_some] <;> rfl) | (simp [*, errW_none, errW_some] <;> rfl) | (exfalso; simp only [decide_eq_true_eq, decide_eq_false_iff_not, beq_iff_eq, beq_eq_false_iff_ne] at *; first | contradiction | omega), by repeat (first | (with_reducible first | exact HB.out | apply below_alloc | apply pw_below_drewN | apply below_drew1 | refine below_set ?_ GE121.out) | exact HB.out)⟩

end Go.Proofs.YtbfkdcegdhkcmaaDoor.PTn
