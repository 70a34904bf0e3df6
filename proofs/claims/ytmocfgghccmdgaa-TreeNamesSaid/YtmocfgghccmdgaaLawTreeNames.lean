/- TreeNames: the row: whatever is read of the arguments, the law answers true. No condition but the machine's own. -/
import Derived.Test.YtmocfgghccmdgaaRows
import Derived.Test.YtmocfgghccmdgaaMpc
import Derived.Test.YtmocfgghccmdgaaMua
import Derived.WalkKit
import Derived.ProofKit
import Derived.OpenShut
import Derived.ShutString
import Derived.ChangeOld
import Derived.Below
import Derived.SizedLaws
import Derived.Carry
import Derived.Test.YtmocfgghccmdgaaRowOksTreeNames
namespace Go.Proofs.Ytmocfgghccmdgaa.treeNames
open Go.ChangeShapes Go.WideShapes Go.ChangeAt Go.RowKit Go.Proofs.YtmocfgghccmdgaaW.PrintWords Go.Proofs.Ytmocfgghccmdgaa.Opens Go.Proofs.Ytmocfgghccmdgaa.PTn Go.Proofs.Ytmocfgghccmdgaa.RowOksTreeNames
open Go.ChangeMaps (open_string shut_string)
set_option linter.unusedVariables false
theorem own : ownKnob Try.prog.godebug = none := by kernel_rfl
theorem laidOut : laidOutB Try.prog = true := by kernel_rfl
set_option maxRecDepth 100000 in
theorem lifted (os : Os) (started : os.Started) (H : Type) (enc : TypeId × Value → H) :
    ReturnsInHanded {} Try.checked os 8 .any (Rows.treeNamesSpec.pre6 enc Try.prog Try.f8 Rows.treeNamesRow.domain false) (Rows.treeNamesSpec.post enc Try.prog Try.f8 false true false false) := by
  refine returnsInHanded_of_change_sized (C := Try.checked) own started (by kernel_rfl) Try.func8
    (ChangeSpec.witness6 (enc := enc) (C := Try.checked) false ⟨#[], #[.slice none 0 0, .string ByteArray.empty], []⟩ 8 (by kernel_rfl) (by kernel_rfl) (by kernel_rfl) (by kernel_rfl)) ?_
  intro W base args ds gs before hval0 hW hcnd hsz0 _
  have hsz : (DataW.weightsEach Try.prog (Try.f8.params.toList ++ Rows.treeNamesSpec.plain.varTypes Try.prog) (ds ++ gs)).all (· ≤ reachBytes) = true := hsz0
  have hval : ∀ (j : Nat) t v, Try.f8.params[j]? = some t → args[j]? = some v → Value.okWide Try.prog W .any base t v := hval0
  have hW' := hW
  obtain ⟨p, q, hA0, hV, rfl, hfz, hnd⟩ := hW
  have hA : DataW.TrodAll enc Try.prog W 0 (fun _ => true) true Try.f8.params.toList args.toList ds p := hA0
  rw [Try.params8] at hA hval hsz
  obtain ⟨v0, vs0, d0, ds0, p0, q0, hargs, rfl, rfl, h0, r0⟩ := trodAll_cons hA
  obtain ⟨v1, vs1, d1, ds1, p1, q1, rfl, rfl, rfl, h1, r1⟩ := trodAll_cons r0
  obtain ⟨rfl, rfl, rfl⟩ := trodAll_nil r1
  obtain rfl : args = #[v0, v1] := by cases args; simp_all
  obtain ⟨rfl, rfl⟩ := trodVars_none hV
  have lt0 : ∀ x ∈ p0, x.block < W.heap.size := by obtain ⟨m, hm⟩ := h0; exact DataW.trod_lt m _ _ _ hm
  have lt1 : ∀ x ∈ p1, x.block < W.heap.size := by obtain ⟨m, hm⟩ := h1; exact DataW.trod_lt m _ _ _ hm
  obtain ⟨A0, c0, l0, rfl, hc0, hr0, w0⟩ := arg_slice Try.underlying22 (hval 0 22 v0 rfl rfl) (opens_slice (B := 32) Try.underlying22 opens24 (by kernel_rfl) (by kernel_rfl)) hsz (j := 0) rfl rfl h0
  obtain ⟨a1, rfl⟩ := okWide_string Try.underlying9 (hval 1 9 v1 rfl rfl)
  have w1 : a1.size ≤ 140737488351232 := by
    obtain ⟨s_, hK, h_⟩ := opens_arg (opens_string Try.underlying9) hsz (j := 1) rfl rfl h1
    have e_ : (.string a1 : Value) = .string s_ := List.head_eq_of_cons_eq hK
    cases e_; exact h_
  clear hA0 hval0 hsz0 hsz
  obtain ⟨k, hf⟩ := Pure.TreeNames l0 a1 w0 w1
  refine (PTn.graftbedlaw02_TreeNames.calls (k := k) (A0 := A0) (c0 := c0) (l0 := l0) (a1 := a1) (r := true) (hr_ := ⟨rfl⟩) (w := W) (hr0 := hr0) (hc0 := hc0) (h := hf)).mono fun e W' ⟨he, bel⟩ => ?_
  subst he
  exact ⟨_, rfl, _, _, _, [], _, [], hW', trodAll_mk1 (shut_bool Try.underlying4 _), (trodAll_cons_mk (Below.trod laidOut (by kernel_rfl) (of_decide_eq_true (by kernel_rfl)) h0 bel lt0) (trodAll_cons_mk (Below.trod laidOut (by kernel_rfl) (of_decide_eq_true (by kernel_rfl)) h1 bel lt1) trodAll_mk0)), rfl, bel.frame _, fun h => by cases h⟩
theorem over : Rows.treeNamesRow.holds Try.pinned (OpenSpec.ofChange Rows.treeNamesSpec) :=
  OpenClaim.holds_of_wide 8 Try.f8 rfl rfl rfl rfl rfl rfl rfl ⟨rfl, rfl, rfl, rfl, rfl⟩ rfl rfl rfl rfl rfl (by kernel_rfl) Try.func8 (by kernel_rfl)
    (of_decide_eq_true (by kernel_rfl)) (by unfold Func.isWrapper; first | (rw [if_pos (by decide +kernel)]; kernel_rfl) | (rw [if_neg (by decide +kernel)]; exact ⟨rfl, rfl⟩))
    (fun os started H enc _ => lifted os started H enc)
theorem proved : Rows.TreeNamesSaid := over
#print axioms proved
end Go.Proofs.Ytmocfgghccmdgaa.treeNames
namespace Go.Proofs.Ytmocfgghccmdgaa
/-- The row, under a short name, for the claim. -/
theorem treeNames_holds : Rows.TreeNamesSaid := treeNames.proved
end Go.Proofs.Ytmocfgghccmdgaa
