/- expr.Parse: the walk. The conditions: the machine's sizes. -/
import Derived.Test.YtjndccjpjknbkaaDoorExNot
import Derived.Test.YtjndccjpjknbkaaDoorExCheck
namespace Go.Proofs.YtjndccjpjknbkaaDoor.ExPar
open Go Go.Proofs Go.RowKit Go.Proofs.YtjndccjpjknbkaaDoorW.PrintWords Go.Proofs.YtjndccjpjknbkaaDoor.BytesLib Go.Proofs.YtjndccjpjknbkaaDoor.ExLib Go.Proofs.YtjndccjpjknbkaaDoor.RowsLib Go.Proofs.YtjndccjpjknbkaaDoor.ExNode Go.Proofs.YtjndccjpjknbkaaDoor.ExTag Go.Proofs.YtjndccjpjknbkaaDoor.ExParse Go.Proofs.YtjndccjpjknbkaaDoor.ExNot
open Go.Proofs.YtjndccjpjknbkaaDoor.ExCheck (checkF Check_calls)
set_option linter.unusedVariables false
set_option linter.unusedSimpArgs false

/-! ### The parser's tags are no longer than the text -/
def Small (K : Nat) (l : List Nd) : Prop := ∀ n ∈ l, n.tag.size ≤ K
theorem Small.put {K : Nat} {l : List Nd} {n : Nd} (h : Small K l) (hn : n.tag.size ≤ K) : Small K (l ++ [n]) := by
  intro m hm
  rcases List.mem_append.1 hm with h1 | h1
  · exact h m h1
  · rw [List.mem_singleton] at h1
    subst h1; exact hn
/-! ### A parser's row, read -/
def kN : Kd Nd := Kd.iso (Kd.pair (Kd.int .i64) (Kd.pair Kd.string (Kd.pair (Kd.int .i64) (Kd.int .i64)))) (fun x : Nd => (x.kind, x.tag, x.a, x.b))
theorem kN_open {w : World} {x : Nd} {cs : List Value} (h : kN.K w x cs) : cs = encN x := by
  obtain ⟨_, _, rfl, rfl, ⟨_, _, rfl, rfl, ⟨_, _, rfl, rfl, rfl⟩⟩⟩ := h
  exact rfl
theorem kN_mkM (w : World) (base : Nat) (ok : Nat → Prop) (x : Nd) : kN.M w base ok x (encN x) := ⟨[.int .i64 x.kind], [.string x.tag, .int .i64 x.a, .int .i64 x.b], rfl, rfl, ⟨[.string x.tag], [.int .i64 x.a, .int .i64 x.b], rfl, rfl, ⟨[.int .i64 x.a], [.int .i64 x.b], rfl, rfl, rfl⟩⟩⟩
theorem own_C {w : World} {base : Nat} {v : Value} {l : List Nd} (h : w.ownsRow base 52 4 v l.length (cellsN l)) : ∃ A c, v = .slice A l.length c ∧ l.length ≤ c ∧ Kd.C kN w A l.length l :=
  Kd.R_reads (R_of (d := kN) (f := encN) (n := 4) (fun _ => rfl) rfl (fun ok x => kN_mkM w base ok x) h (Nat.le_refl _))

end Go.Proofs.YtjndccjpjknbkaaDoor.ExPar

