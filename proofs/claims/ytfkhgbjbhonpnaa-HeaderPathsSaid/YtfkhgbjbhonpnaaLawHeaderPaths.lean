/- HeaderPaths: the row: whatever is read of the arguments, the law answers true. No condition but the machine's own. -/
import Derived.Test.YtfkhgbjbhonpnaaRows
import Derived.Test.YtfkhgbjbhonpnaaPHpx5
import Derived.Test.YtfkhgbjbhonpnaaPureHeaderPaths
import Derived.WalkKit
import Derived.ProofKit
import Derived.OpenShut
import Derived.ShutString
import Derived.ChangeOld
import Derived.Below
import Derived.SizedLaws
import Derived.Carry
import Derived.Test.YtfkhgbjbhonpnaaRowOksHeaderPaths
namespace Go.Proofs.Ytfkhgbjbhonpnaa.headerPaths
open Go.ChangeShapes Go.WideShapes Go.ChangeAt Go.RowKit Go.Proofs.YtfkhgbjbhonpnaaW.PrintWords Go.Proofs.Ytfkhgbjbhonpnaa.Opens Go.Proofs.Ytfkhgbjbhonpnaa.PHp Go.Proofs.Ytfkhgbjbhonpnaa.RowOksHeaderPaths
open Go.ChangeMaps (open_string shut_string)
set_option linter.unusedVariables false
theorem own : ownKnob Try.prog.godebug = none := by kernel_rfl
theorem laidOut : laidOutB Try.prog = true := by kernel_rfl
set_option maxRecDepth 100000 in
theorem lifted (os : Os) (started : os.Started) (H : Type) (enc : TypeId × Value → H) :
    ReturnsInHanded {} Try.checked os 3 .any (Rows.headerPathsSpec.pre6 enc Try.prog Try.f3 Rows.headerPathsRow.domain false) (Rows.headerPathsSpec.post enc Try.prog Try.f3 false true false false) := by
  refine returnsInHanded_of_change_sized (C := Try.checked) own started (by kernel_rfl) Try.func3
    (ChangeSpec.witness6 (enc := enc) (C := Try.checked) false ⟨#[], #[.agg #[.string ByteArray.empty, .slice none 0 0, .string ByteArray.empty, .slice none 0 0, .slice none 0 0]], []⟩ 8 (by kernel_rfl) (by kernel_rfl) (by kernel_rfl) (by kernel_rfl)) ?_
  intro W base args ds gs before hval0 hW hcnd hsz0 _
  have hsz : (DataW.weightsEach Try.prog (Try.f3.params.toList ++ Rows.headerPathsSpec.plain.varTypes Try.prog) (ds ++ gs)).all (· ≤ reachBytes) = true := hsz0
  have hval : ∀ (j : Nat) t v, Try.f3.params[j]? = some t → args[j]? = some v → Value.okWide Try.prog W .any base t v := hval0
  have hW' := hW
  obtain ⟨p, q, hA0, hV, rfl, hfz, hnd⟩ := hW
  have hA : DataW.TrodAll enc Try.prog W 0 (fun _ => true) true Try.f3.params.toList args.toList ds p := hA0
  rw [Try.params3] at hA hval hsz
  obtain ⟨v0, vs0, d0, ds0, p0, q0, hargs, rfl, rfl, h0, r0⟩ := trodAll_cons hA
  obtain ⟨rfl, rfl, rfl⟩ := trodAll_nil r0
  obtain rfl : args = #[v0] := by cases args; simp_all
  obtain ⟨rfl, rfl⟩ := trodVars_none hV
  have lt0 : ∀ x ∈ p0, x.block < W.heap.size := by obtain ⟨m, hm⟩ := h0; exact DataW.trod_lt m _ _ _ hm
  obtain ⟨cs0, rfl, _⟩ := okWide_struct Try.underlying26 (hval 0 26 v0 rfl rfl)
  obtain ⟨⟨a0_0, l0_1, a0_2, l0_3, l0_4⟩, hK0, w0⟩ := opens_arg opens26 hsz (j := 0) rfl rfl h0
  obtain ⟨_, _, e1_, rfl, ⟨_, _, rfl, ⟨A0_1, c0_1, rfl, hc0_1, hr0_1⟩, ⟨_, _, rfl, rfl, ⟨_, _, rfl, ⟨A0_3, c0_3, rfl, hc0_3, hr0_3⟩, ⟨A0_4, c0_4, rfl, hc0_4, hr0_4⟩⟩⟩⟩⟩ := hK0
  obtain rfl : cs0 = #[.string a0_0, .slice A0_1 l0_1.length c0_1, .string a0_2, .slice A0_3 l0_3.length c0_3, .slice A0_4 l0_4.length c0_4] := Array.toList_inj.1 e1_
  clear e1_
  clear hA0 hval0 hsz0 hsz
  obtain ⟨k, hf⟩ := Pure.HeaderPaths a0_0 l0_1 a0_2 l0_3 l0_4 w0
  refine (PHp.graftbedlaw11_HeaderPaths.calls (k := k) (a0_0 := a0_0) (A0_1 := A0_1) (c0_1 := c0_1) (l0_1 := l0_1) (a0_2 := a0_2) (A0_3 := A0_3) (c0_3 := c0_3) (l0_3 := l0_3) (A0_4 := A0_4) (c0_4 := c0_4) (l0_4 := l0_4) (r := true) (hr_ := ⟨rfl⟩) (w := W) (hr0_1 := hr0_1) (hc0_1 := hc0_1) (hr0_3 := hr0_3) (hc0_3 := hc0_3) (hr0_4 := hr0_4) (hc0_4 := hc0_4) (h := hf)).mono fun e W' ⟨he, bel⟩ => ?_
  subst he
  exact ⟨_, rfl, _, _, _, [], _, [], hW', trodAll_mk1 (shut_bool Try.underlying4 _), (trodAll_cons_mk (Below.trod laidOut (by kernel_rfl) (of_decide_eq_true (by kernel_rfl)) h0 bel lt0) trodAll_mk0), rfl, bel.frame _, fun h => by cases h⟩
theorem over : Rows.headerPathsRow.holds Try.pinned (OpenSpec.ofChange Rows.headerPathsSpec) :=
  OpenClaim.holds_of_wide 3 Try.f3 rfl rfl rfl rfl rfl rfl rfl ⟨rfl, rfl, rfl, rfl, rfl⟩ rfl rfl rfl rfl rfl (by kernel_rfl) Try.func3 (by kernel_rfl)
    (of_decide_eq_true (by kernel_rfl)) (by unfold Func.isWrapper; first | (rw [if_pos (by decide +kernel)]; kernel_rfl) | (rw [if_neg (by decide +kernel)]; exact ⟨rfl, rfl⟩))
    (fun os started H enc _ => lifted os started H enc)
theorem proved : Rows.HeaderPathsSaid := over
#print axioms proved
end Go.Proofs.Ytfkhgbjbhonpnaa.headerPaths
namespace Go.Proofs.Ytfkhgbjbhonpnaa
/-- The row, under a short name, for the claim. -/
theorem headerPaths_holds : Rows.HeaderPathsSaid := headerPaths.proved
end Go.Proofs.Ytfkhgbjbhonpnaa
