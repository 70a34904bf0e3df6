/- What is known of the arguments of TreeNames: sizes alone. -/
import Derived.Test.YtmocfgghccmdgaaMpa
import Derived.Test.YtmocfgghccmdgaaOpens
namespace Go.Proofs.Ytmocfgghccmdgaa.RowOksTreeNames
open Go.RowKit Go.Proofs.YtmocfgghccmdgaaW.PrintWords Go.Proofs.Ytmocfgghccmdgaa.Opens Go.Proofs.Ytmocfgghccmdgaa.PTn Go.WideShapes
def ok24 (x : S24) : Prop := (x.f0.size ≤ 140737488351232) ∧ (x.f1.size ≤ 140737488351232)
theorem opens24 : Opens Try.prog 24 k24 ok24 :=
  opens_struct Try.underlying24 (opensF_cons (opens_string Try.underlying9) (by kernel_rfl) (opensF_one (opens_string Try.underlying9) (by kernel_rfl) (by kernel_rfl))) _ (fun a => ⟨a.1, a.2⟩) (fun _ => rfl)
end Go.Proofs.Ytmocfgghccmdgaa.RowOksTreeNames
