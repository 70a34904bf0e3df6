/- What the reference's order of identifiers comes to. -/
import Derived.Test.YtaddonafdllciaaDoorMpa
import Derived.Test.YtaddonafdllciaaDoorPureSemRef
namespace Go.Proofs.YtaddonafdllciaaDoor.Pure
open Go.RowKit Go.Proofs.YtaddonafdllciaaDoor.PAll Go.Proofs.YtaddonafdllciaaDoorW.PrintWords Go.Proofs.YtaddonafdllciaaDoorW.PrintLast
open Go.Proofs.YtaddonafdllciaaDoor.BytesLib Go.Proofs.YtaddonafdllciaaDoor.SemParts Go.Proofs.YtaddonafdllciaaDoor.SemNum Go.Proofs.YtaddonafdllciaaDoor.SemParse Go.Proofs.YtaddonafdllciaaDoor.SemOrder Go.Proofs.YtaddonafdllciaaDoor.SemSplit Go.Proofs.YtaddonafdllciaaDoor.SemCmp
set_option linter.unusedVariables false
set_option linter.unusedSimpArgs false

def lessF (b : Bool) : Int := if b = true then -1 else 1
theorem ref_less (b : Bool) : graftbedref03_less.f b = some (lessF b) := by
  unfold graftbedref03_less.f lessF
  split <;> rfl
theorem cmpS_less {a b : ByteArray} (h : a ≠ b) : cmpS a b = lessF (Op.bytesLess a.toList b.toList) := by
  rw [cmpS_eq, bytesLess_eq, toList_L, toList_L]
  unfold lessF
  rcases lt_tri (L a) (L b) with h1 | h1 | h1
  · rw [if_pos h1, decide_eq_true h1, if_pos rfl]
  · exact absurd (L_inj h1) h
  · rw [if_neg (lt_asy h1), if_pos h1, decide_eq_false (lt_asy h1), if_neg (by decide)]

theorem ref_order (a b : ByteArray) (ha : a.size ≤ 1099511627776) (hb : b.size ≤ 1099511627776) (k : Nat) (hk : a.size + b.size + 5 ≤ k) : graftbedref03_order.f k a b = some (orderF a b) := by
  obtain ⟨k, rfl⟩ : ∃ k', k = k' + 2 := ⟨k - 2, by omega⟩
  unfold graftbedref03_order.f
  by_cases h : a.toList = b.toList
  · rw [if_pos h, toList_inj.1 h, orderF_cmp.self]
  · have hne : a ≠ b := fun e => h (by rw [e])
    have hlt := cmpS_less hne
    have hj1 : ∀ (x y : Bool), graftbedref03_order.j1 (k + 1) a b x y = some (if y = true then lessF x else cmpS a b) := by
      intro x y
      simp only [graftbedref03_order.j1]
      rw [ref_less, ref_less, Option.bind_some, Option.bind_some, hlt]
      split <;> rfl
    rw [if_neg h, ref_digits a ha _ (by omega), Option.bind_some, ref_digits b hb _ (by omega), Option.bind_some, orderF_eq]
    unfold nd dl
    rw [show k + 2 = (k + 1) + 1 from rfl]
    generalize k + 1 = q at hj1 ⊢
    simp only [graftbedref03_order.j0]
    rw [hj1, hj1, ref_less, ref_less, ref_less]
    cases everyB digB a with
    | false =>
      rw [if_neg (by decide), if_neg (by decide), if_neg (by decide)]
      cases everyB digB b with
      | false => rfl
      | true => rfl
    | true =>
      rw [if_pos rfl]
      cases everyB digB b with
      | false => rfl
      | true =>
        rw [if_pos rfl]
        simp only [Option.bind_some, if_true]
        rw [show orI (cmpI 0 0) (orI (cmpI (a.size : Int) (b.size : Int)) (cmpS a b)) = orI (cmpI (a.size : Int) (b.size : Int)) (cmpS a b) from rfl]
        by_cases h1 : (a.size : Int) < b.size
        · have c1 : cmpI (a.size : Int) (b.size : Int) = -1 := by unfold cmpI; rw [if_pos h1]
          rw [if_pos h1, c1]; rfl
        · rw [if_neg h1]
          by_cases h2 : (a.size : Int) = b.size
          · have c1 : cmpI (a.size : Int) (b.size : Int) = 0 := by unfold cmpI; rw [if_neg (by omega), if_neg (by omega)]
            rw [if_pos h2, c1, ← hlt]; rfl
          · have c1 : cmpI (a.size : Int) (b.size : Int) = 1 := by unfold cmpI; rw [if_neg (by omega), if_pos (by omega)]
            rw [if_neg h2, c1]; rfl

end Go.Proofs.YtaddonafdllciaaDoor.Pure
