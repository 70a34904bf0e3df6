/- What is known of the arguments of HeaderPaths: sizes alone. -/
import Derived.Test.YtfkhgbjbhonpnaaPHpx0
import Derived.Test.YtfkhgbjbhonpnaaOpens
namespace Go.Proofs.Ytfkhgbjbhonpnaa.RowOksHeaderPaths
open Go.RowKit Go.Proofs.YtfkhgbjbhonpnaaW.PrintWords Go.Proofs.Ytfkhgbjbhonpnaa.Opens Go.Proofs.Ytfkhgbjbhonpnaa.PHp Go.WideShapes
def ok28 (x : S28) : Prop := (x.f0.size ≤ 140737488351232) ∧ (x.f1.size ≤ 140737488351232) ∧ ((Lit.int .i64 x.f2).wf = true)
theorem opens28 : Opens Try.prog 28 k28 ok28 :=
  opens_struct Try.underlying28 (opensF_cons (opens_string Try.underlying9) (by kernel_rfl) (opensF_cons (opens_string Try.underlying9) (by kernel_rfl) (opensF_one (opens_int Try.underlying3) (by kernel_rfl) (by kernel_rfl)))) _ (fun a => ⟨a.1, a.2.1, a.2.2⟩) (fun _ => rfl)
def ok43 (x : S43) : Prop := (x.f0.size ≤ 140737488351232) ∧ ((Lit.int .i64 x.f1).wf = true)
theorem opens43 : Opens Try.prog 43 k43 ok43 :=
  opens_struct Try.underlying43 (opensF_cons (opens_string Try.underlying9) (by kernel_rfl) (opensF_one (opens_int Try.underlying3) (by kernel_rfl) (by kernel_rfl))) _ (fun a => ⟨a.1, a.2⟩) (fun _ => rfl)
def ok26 (x : S26) : Prop := (x.f0.size ≤ 140737488351232) ∧ (x.f1.length * 40 ≤ 140737488351232 ∧ ∀ y ∈ x.f1, ok28 y) ∧ (x.f2.size ≤ 140737488351232) ∧ (x.f3.length * 16 ≤ 140737488351232 ∧ ∀ y ∈ x.f3, y.size ≤ 140737488351232) ∧ (x.f4.length * 24 ≤ 140737488351232 ∧ ∀ y ∈ x.f4, ok43 y)
theorem opens26 : Opens Try.prog 26 k26 ok26 :=
  opens_struct Try.underlying26 (opensF_cons (opens_string Try.underlying9) (by kernel_rfl) (opensF_cons (opens_slice (B := 40) Try.underlying22 opens28 (by kernel_rfl) (by kernel_rfl)) (by kernel_rfl) (opensF_cons (opens_string Try.underlying9) (by kernel_rfl) (opensF_cons (opens_slice (B := 16) Try.underlying23 (opens_string Try.underlying9) (by kernel_rfl) (by kernel_rfl)) (by kernel_rfl) (opensF_one (opens_slice (B := 24) Try.underlying24 opens43 (by kernel_rfl) (by kernel_rfl)) (by kernel_rfl) (by kernel_rfl)))))) _ (fun a => ⟨a.1, a.2.1, a.2.2.1, a.2.2.2.1, a.2.2.2.2⟩) (fun _ => rfl)
end Go.Proofs.Ytfkhgbjbhonpnaa.RowOksHeaderPaths
