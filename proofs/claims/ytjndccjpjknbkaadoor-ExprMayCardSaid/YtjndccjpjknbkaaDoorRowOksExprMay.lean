/- What is known of the arguments of ExprMay: sizes alone. -/
import Derived.Test.YtjndccjpjknbkaaDoorMpa
import Derived.Test.YtjndccjpjknbkaaDoorOpens
namespace Go.Proofs.YtjndccjpjknbkaaDoor.RowOksExprMay
open Go.RowKit Go.Proofs.YtjndccjpjknbkaaDoorW.PrintWords Go.Proofs.YtjndccjpjknbkaaDoor.Opens Go.Proofs.YtjndccjpjknbkaaDoor.PEx Go.WideShapes
def ok52 (x : S52) : Prop := ((Lit.int .i64 x.f0).wf = true) ∧ (x.f1.size ≤ 140737488351232) ∧ ((Lit.int .i64 x.f2).wf = true) ∧ ((Lit.int .i64 x.f3).wf = true)
theorem opens52 : Opens Tryd.prog 52 k52 ok52 :=
  opens_struct Tryd.underlying52 (opensF_cons (opens_int Tryd.underlying3) (by kernel_rfl) (opensF_cons (opens_string Tryd.underlying9) (by kernel_rfl) (opensF_cons (opens_int Tryd.underlying3) (by kernel_rfl) (opensF_one (opens_int Tryd.underlying3) (by kernel_rfl) (by kernel_rfl))))) _ (fun a => ⟨a.1, a.2.1, a.2.2.1, a.2.2.2⟩) (fun _ => rfl)
end Go.Proofs.YtjndccjpjknbkaaDoor.RowOksExprMay
