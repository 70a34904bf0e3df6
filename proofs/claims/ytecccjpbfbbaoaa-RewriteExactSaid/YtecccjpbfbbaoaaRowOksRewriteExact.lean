/- What is known of the arguments of RewriteExact: sizes alone. -/
import Derived.Test.YtecccjpbfbbaoaaPRxx0
import Derived.Test.YtecccjpbfbbaoaaOpens
namespace Go.Proofs.Ytecccjpbfbbaoaa.RowOksRewriteExact
open Go.RowKit Go.Proofs.YtecccjpbfbbaoaaW.PrintWords Go.Proofs.Ytecccjpbfbbaoaa.Opens Go.Proofs.Ytecccjpbfbbaoaa.PRx Go.WideShapes
def ok29 (x : S29) : Prop := (x.f0.size ≤ 140737488351232) ∧ (x.f1.size ≤ 140737488351232)
theorem opens29 : Opens Try.prog 29 k29 ok29 :=
  opens_struct Try.underlying29 (opensF_cons (opens_string Try.underlying9) (by kernel_rfl) (opensF_one (opens_string Try.underlying9) (by kernel_rfl) (by kernel_rfl))) _ (fun a => ⟨a.1, a.2⟩) (fun _ => rfl)
def ok64 (x : S64) : Prop := (ok29 x.f0) ∧ (True)
theorem opens64 : Opens Try.prog 64 k64 ok64 :=
  opens_struct Try.underlying64 (opensF_cons opens29 (by kernel_rfl) (opensF_one (opens_bool Try.underlying4) (by kernel_rfl) (by kernel_rfl))) _ (fun a => ⟨a.1, a.2⟩) (fun _ => rfl)
def ok33 (x : S33) : Prop := (ok29 x.f0) ∧ (ok29 x.f1)
theorem opens33 : Opens Try.prog 33 k33 ok33 :=
  opens_struct Try.underlying33 (opensF_cons opens29 (by kernel_rfl) (opensF_one opens29 (by kernel_rfl) (by kernel_rfl))) _ (fun a => ⟨a.1, a.2⟩) (fun _ => rfl)
def ok42 (x : S42) : Prop := (x.f0.size ≤ 140737488351232) ∧ (x.f1.size ≤ 140737488351232) ∧ (x.f2.size ≤ 140737488351232)
theorem opens42 : Opens Try.prog 42 k42 ok42 :=
  opens_struct Try.underlying42 (opensF_cons (opens_string Try.underlying9) (by kernel_rfl) (opensF_cons (opens_string Try.underlying9) (by kernel_rfl) (opensF_one (opens_string Try.underlying9) (by kernel_rfl) (by kernel_rfl)))) _ (fun a => ⟨a.1, a.2.1, a.2.2⟩) (fun _ => rfl)
def ok27 (x : S27) : Prop := (x.f0.size ≤ 140737488351232) ∧ (x.f1.size ≤ 140737488351232) ∧ (x.f2.length * 40 ≤ 140737488351232 ∧ ∀ y ∈ x.f2, ok64 y) ∧ (x.f3.length * 64 ≤ 140737488351232 ∧ ∀ y ∈ x.f3, ok33 y) ∧ (x.f4.length * 32 ≤ 140737488351232 ∧ ∀ y ∈ x.f4, ok29 y) ∧ (x.f5.length * 48 ≤ 140737488351232 ∧ ∀ y ∈ x.f5, ok42 y)
theorem opens27 : Opens Try.prog 27 k27 ok27 :=
  opens_struct Try.underlying27 (opensF_cons (opens_string Try.underlying9) (by kernel_rfl) (opensF_cons (opens_string Try.underlying9) (by kernel_rfl) (opensF_cons (opens_slice (B := 40) Try.underlying22 opens64 (by kernel_rfl) (by kernel_rfl)) (by kernel_rfl) (opensF_cons (opens_slice (B := 64) Try.underlying23 opens33 (by kernel_rfl) (by kernel_rfl)) (by kernel_rfl) (opensF_cons (opens_slice (B := 32) Try.underlying24 opens29 (by kernel_rfl) (by kernel_rfl)) (by kernel_rfl) (opensF_one (opens_slice (B := 48) Try.underlying25 opens42 (by kernel_rfl) (by kernel_rfl)) (by kernel_rfl) (by kernel_rfl))))))) _ (fun a => ⟨a.1, a.2.1, a.2.2.1, a.2.2.2.1, a.2.2.2.2.1, a.2.2.2.2.2⟩) (fun _ => rfl)
end Go.Proofs.Ytecccjpbfbbaoaa.RowOksRewriteExact
