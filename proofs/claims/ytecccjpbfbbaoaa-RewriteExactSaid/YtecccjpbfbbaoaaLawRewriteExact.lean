/- RewriteExact: the row: whatever is read of the arguments, the law answers true. No condition but the machine's own. -/
import Derived.Test.YtecccjpbfbbaoaaRows
import Derived.Test.YtecccjpbfbbaoaaPRxx5
import Derived.Test.YtecccjpbfbbaoaaPureRewriteExact
import Derived.WalkKit
import Derived.ProofKit
import Derived.OpenShut
import Derived.ShutString
import Derived.ChangeOld
import Derived.Below
import Derived.SizedLaws
import Derived.Carry
import Derived.Test.YtecccjpbfbbaoaaRowOksRewriteExact
namespace Go.Proofs.Ytecccjpbfbbaoaa.rewriteExact
open Go.ChangeShapes Go.WideShapes Go.ChangeAt Go.RowKit Go.Proofs.YtecccjpbfbbaoaaW.PrintWords Go.Proofs.Ytecccjpbfbbaoaa.Opens Go.Proofs.Ytecccjpbfbbaoaa.PRx Go.Proofs.Ytecccjpbfbbaoaa.RowOksRewriteExact
open Go.ChangeMaps (open_string shut_string)
set_option linter.unusedVariables false
theorem own : ownKnob Try.prog.godebug = none := by kernel_rfl
theorem laidOut : laidOutB Try.prog = true := by kernel_rfl
set_option maxRecDepth 100000 in
theorem lifted (os : Os) (started : os.Started) (H : Type) (enc : TypeId × Value → H) :
    ReturnsInHanded {} Try.checked os 3 .any (Rows.rewriteExactSpec.pre6 enc Try.prog Try.f3 Rows.rewriteExactRow.domain false) (Rows.rewriteExactSpec.post enc Try.prog Try.f3 false true false false) := by
  refine returnsInHanded_of_change_sized (C := Try.checked) own started (by kernel_rfl) Try.func3
    (ChangeSpec.witness6 (enc := enc) (C := Try.checked) false ⟨#[], #[.agg #[.string ByteArray.empty, .string ByteArray.empty, .slice none 0 0, .slice none 0 0, .slice none 0 0, .slice none 0 0], .agg #[.string ByteArray.empty, .string ByteArray.empty], .agg #[.string ByteArray.empty, .string ByteArray.empty], .agg #[.string ByteArray.empty, .string ByteArray.empty], .bool false], []⟩ 8 (by kernel_rfl) (by kernel_rfl) (by kernel_rfl) (by kernel_rfl)) ?_
  intro W base args ds gs before hval0 hW hcnd hsz0 _
  have hsz : (DataW.weightsEach Try.prog (Try.f3.params.toList ++ Rows.rewriteExactSpec.plain.varTypes Try.prog) (ds ++ gs)).all (· ≤ reachBytes) = true := hsz0
  have hval : ∀ (j : Nat) t v, Try.f3.params[j]? = some t → args[j]? = some v → Value.okWide Try.prog W .any base t v := hval0
  have hW' := hW
  obtain ⟨p, q, hA0, hV, rfl, hfz, hnd⟩ := hW
  have hA : DataW.TrodAll enc Try.prog W 0 (fun _ => true) true Try.f3.params.toList args.toList ds p := hA0
  rw [Try.params3] at hA hval hsz
  obtain ⟨v0, vs0, d0, ds0, p0, q0, hargs, rfl, rfl, h0, r0⟩ := trodAll_cons hA
  obtain ⟨v1, vs1, d1, ds1, p1, q1, rfl, rfl, rfl, h1, r1⟩ := trodAll_cons r0
  obtain ⟨v2, vs2, d2, ds2, p2, q2, rfl, rfl, rfl, h2, r2⟩ := trodAll_cons r1
  obtain ⟨v3, vs3, d3, ds3, p3, q3, rfl, rfl, rfl, h3, r3⟩ := trodAll_cons r2
  obtain ⟨v4, vs4, d4, ds4, p4, q4, rfl, rfl, rfl, h4, r4⟩ := trodAll_cons r3
  obtain ⟨rfl, rfl, rfl⟩ := trodAll_nil r4
  obtain rfl : args = #[v0, v1, v2, v3, v4] := by cases args; simp_all
  obtain ⟨rfl, rfl⟩ := trodVars_none hV
  have lt0 : ∀ x ∈ p0, x.block < W.heap.size := by obtain ⟨m, hm⟩ := h0; exact DataW.trod_lt m _ _ _ hm
  have lt1 : ∀ x ∈ p1, x.block < W.heap.size := by obtain ⟨m, hm⟩ := h1; exact DataW.trod_lt m _ _ _ hm
  have lt2 : ∀ x ∈ p2, x.block < W.heap.size := by obtain ⟨m, hm⟩ := h2; exact DataW.trod_lt m _ _ _ hm
  have lt3 : ∀ x ∈ p3, x.block < W.heap.size := by obtain ⟨m, hm⟩ := h3; exact DataW.trod_lt m _ _ _ hm
  have lt4 : ∀ x ∈ p4, x.block < W.heap.size := by obtain ⟨m, hm⟩ := h4; exact DataW.trod_lt m _ _ _ hm
  obtain ⟨cs0, rfl, _⟩ := okWide_struct Try.underlying27 (hval 0 27 v0 rfl rfl)
  obtain ⟨⟨a0_0, a0_1, l0_2, l0_3, l0_4, l0_5⟩, hK0, w0⟩ := opens_arg opens27 hsz (j := 0) rfl rfl h0
  obtain ⟨_, _, e1_, rfl, ⟨_, _, rfl, rfl, ⟨_, _, rfl, ⟨A0_2, c0_2, rfl, hc0_2, hr0_2⟩, ⟨_, _, rfl, ⟨A0_3, c0_3, rfl, hc0_3, hr0_3⟩, ⟨_, _, rfl, ⟨A0_4, c0_4, rfl, hc0_4, hr0_4⟩, ⟨A0_5, c0_5, rfl, hc0_5, hr0_5⟩⟩⟩⟩⟩⟩ := hK0
  obtain rfl : cs0 = #[.string a0_0, .string a0_1, .slice A0_2 l0_2.length c0_2, .slice A0_3 l0_3.length c0_3, .slice A0_4 l0_4.length c0_4, .slice A0_5 l0_5.length c0_5] := Array.toList_inj.1 e1_
  clear e1_
  obtain ⟨cs1, rfl, _⟩ := okWide_struct Try.underlying29 (hval 1 29 v1 rfl rfl)
  obtain ⟨⟨a1_0, a1_1⟩, hK1, w1⟩ := opens_arg opens29 hsz (j := 1) rfl rfl h1
  obtain ⟨_, _, e1_, rfl, rfl⟩ := hK1
  obtain rfl : cs1 = #[.string a1_0, .string a1_1] := Array.toList_inj.1 e1_
  clear e1_
  obtain ⟨cs2, rfl, _⟩ := okWide_struct Try.underlying29 (hval 2 29 v2 rfl rfl)
  obtain ⟨⟨a2_0, a2_1⟩, hK2, w2⟩ := opens_arg opens29 hsz (j := 2) rfl rfl h2
  obtain ⟨_, _, e1_, rfl, rfl⟩ := hK2
  obtain rfl : cs2 = #[.string a2_0, .string a2_1] := Array.toList_inj.1 e1_
  clear e1_
  obtain ⟨cs3, rfl, _⟩ := okWide_struct Try.underlying29 (hval 3 29 v3 rfl rfl)
  obtain ⟨⟨a3_0, a3_1⟩, hK3, w3⟩ := opens_arg opens29 hsz (j := 3) rfl rfl h3
  obtain ⟨_, _, e1_, rfl, rfl⟩ := hK3
  obtain rfl : cs3 = #[.string a3_0, .string a3_1] := Array.toList_inj.1 e1_
  clear e1_
  obtain ⟨a4, rfl⟩ := okWide_bool Try.underlying4 (hval 4 4 v4 rfl rfl)
  clear hA0 hval0 hsz0 hsz
  obtain ⟨k, hf⟩ := Pure.RewriteExact a0_0 a0_1 l0_2 l0_3 l0_4 l0_5 a1_0 a1_1 a2_0 a2_1 a3_0 a3_1 a4 w0 w1 w2 w3
  refine (PRx.graftbedlaw08_RewriteExact.calls (k := k) (a0_0 := a0_0) (a0_1 := a0_1) (A0_2 := A0_2) (c0_2 := c0_2) (l0_2 := l0_2) (A0_3 := A0_3) (c0_3 := c0_3) (l0_3 := l0_3) (A0_4 := A0_4) (c0_4 := c0_4) (l0_4 := l0_4) (A0_5 := A0_5) (c0_5 := c0_5) (l0_5 := l0_5) (a1_0 := a1_0) (a1_1 := a1_1) (a2_0 := a2_0) (a2_1 := a2_1) (a3_0 := a3_0) (a3_1 := a3_1) (a4 := a4) (r := true) (hr_ := ⟨rfl⟩) (w := W) (hr0_2 := hr0_2) (hc0_2 := hc0_2) (hr0_3 := hr0_3) (hc0_3 := hc0_3) (hr0_4 := hr0_4) (hc0_4 := hc0_4) (hr0_5 := hr0_5) (hc0_5 := hc0_5) (h := hf)).mono fun e W' ⟨he, bel⟩ => ?_
  subst he
  exact ⟨_, rfl, _, _, _, [], _, [], hW', trodAll_mk1 (shut_bool Try.underlying4 _), (trodAll_cons_mk (Below.trod laidOut (by kernel_rfl) (of_decide_eq_true (by kernel_rfl)) h0 bel lt0) (trodAll_cons_mk (Below.trod laidOut (by kernel_rfl) (of_decide_eq_true (by kernel_rfl)) h1 bel lt1) (trodAll_cons_mk (Below.trod laidOut (by kernel_rfl) (of_decide_eq_true (by kernel_rfl)) h2 bel lt2) (trodAll_cons_mk (Below.trod laidOut (by kernel_rfl) (of_decide_eq_true (by kernel_rfl)) h3 bel lt3) (trodAll_cons_mk (Below.trod laidOut (by kernel_rfl) (of_decide_eq_true (by kernel_rfl)) h4 bel lt4) trodAll_mk0))))), rfl, bel.frame _, fun h => by cases h⟩
theorem over : Rows.rewriteExactRow.holds Try.pinned (OpenSpec.ofChange Rows.rewriteExactSpec) :=
  OpenClaim.holds_of_wide 3 Try.f3 rfl rfl rfl rfl rfl rfl rfl ⟨rfl, rfl, rfl, rfl, rfl⟩ rfl rfl rfl rfl rfl (by kernel_rfl) Try.func3 (by kernel_rfl)
    (of_decide_eq_true (by kernel_rfl)) (by unfold Func.isWrapper; first | (rw [if_pos (by decide +kernel)]; kernel_rfl) | (rw [if_neg (by decide +kernel)]; exact ⟨rfl, rfl⟩))
    (fun os started H enc _ => lifted os started H enc)
theorem proved : Rows.RewriteExactSaid := over
#print axioms proved
end Go.Proofs.Ytecccjpbfbbaoaa.rewriteExact
namespace Go.Proofs.Ytecccjpbfbbaoaa
/-- The row, under a short name, for the claim. -/
theorem rewriteExact_holds : Rows.RewriteExactSaid := rewriteExact.proved
end Go.Proofs.Ytecccjpbfbbaoaa
