/- Texts cut at a sign, and what a version's parts are then. No condition on the program. -/
import Derived.Test.YtaddonafdllciaaDoorSemCmp
namespace Go.Proofs.YtaddonafdllciaaDoor.SemList
open Go.RowKit Go.Proofs.YtaddonafdllciaaDoorW.PrintWords Go.Proofs.YtaddonafdllciaaDoor.BytesLib Go.Proofs.YtaddonafdllciaaDoor.SemParts Go.Proofs.YtaddonafdllciaaDoor.SemNum Go.Proofs.YtaddonafdllciaaDoor.SemParse Go.Proofs.YtaddonafdllciaaDoor.SemOrder Go.Proofs.YtaddonafdllciaaDoor.SemSplit Go.Proofs.YtaddonafdllciaaDoor.SemCmp
set_option linter.unusedVariables false
set_option linter.unusedSimpArgs false

theorem takeWhile_split {c : UInt8} : ∀ {p : List UInt8} (q : List UInt8), c ∉ p → (p ++ c :: q).takeWhile (· != c) = p
  | [], q, _ => by simp
  | x :: p, q, h => by
    have h1 : x ≠ c := fun e => h (by rw [e]; exact List.mem_cons_self)
    have h2 : c ∉ p := fun e => h (List.mem_cons_of_mem _ e)
    rw [List.cons_append, List.takeWhile_cons, if_pos (by rw [bne_iff_ne]; exact h1), takeWhile_split q h2]
theorem takeWhile_none {c : UInt8} : ∀ {p : List UInt8}, c ∉ p → p.takeWhile (· != c) = p
  | [], _ => rfl
  | x :: p, h => by
    have h1 : x ≠ c := fun e => h (by rw [e]; exact List.mem_cons_self)
    have h2 : c ∉ p := fun e => h (List.mem_cons_of_mem _ e)
    rw [List.takeWhile_cons, if_pos (by rw [bne_iff_ne]; exact h1), takeWhile_none h2]
theorem L_cutA (c : UInt8) (s : ByteArray) : L (cutA c s) = (L s).takeWhile (· != c) := by
  unfold cutA
  by_cases h0 : 0 ≤ cutI c s
  · rw [if_pos h0, L_head]
    obtain ⟨h1, h2⟩ := index_split c (L s) h0
    conv => rhs; rw [h1]
    exact (takeWhile_split _ h2).symm
  · rw [if_neg h0]
    exact (takeWhile_none (index_none c (L s) h0)).symm
/-- A text that is a version, and its parts. -/
theorem parse_ok {s : ByteArray} (h : (parseF s).2.2.2.2.2 = 0) : (L s).head? = some 118 ∧ s.size ≤ 60 ∧ ok4 (s.extract 1 s.size) = true := by
  by_cases h1 : (L s).head? = some 118 ∧ s.size ≤ 60 ∧ ok4 (s.extract 1 s.size) = true
  · exact h1
  · unfold parseF at h
    rw [if_neg h1] at h
    exact absurd h (by decide)
end Go.Proofs.YtaddonafdllciaaDoor.SemList

