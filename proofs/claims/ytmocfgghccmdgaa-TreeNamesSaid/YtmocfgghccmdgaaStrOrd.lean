/- The order of texts as the walk spells it: greater is less the other way round. -/
import Derived.Laws.Strings
import Derived.Laws.AppendOwn
namespace Go.Proofs.Ytmocfgghccmdgaa.StrOrd
open Go.Op

theorem less_turn : ∀ (a b : List UInt8), (!(bytesLess a b || a == b)) = bytesLess b a
  | [], [] => by simp [bytesLess]
  | [], y :: b => by simp [bytesLess]
  | x :: a, [] => by simp [bytesLess]
  | x :: a, y :: b => by
    have ih := less_turn a b
    simp only [bytesLess, List.cons_beq_cons]
    by_cases h1 : x < y
    · have h2 : ¬ y < x := fun h => by have := UInt8.lt_asymm h1; exact this h
      have h3 : (y == x) = false := by rw [beq_eq_false_iff_ne]; rintro rfl; exact UInt8.lt_irrefl _ h1
      simp [h1, h2, h3]
    · by_cases h2 : y < x
      · have h3 : (x == y) = false := by rw [beq_eq_false_iff_ne]; rintro rfl; exact UInt8.lt_irrefl _ h2
        simp [h1, h2, h3]
      · obtain rfl : x = y := by
          rw [UInt8.lt_iff_toNat_lt] at h1 h2
          exact UInt8.toNat_inj.1 (by omega)
        rw [show decide (x < x) = false from decide_eq_false h1, show (x == x) = true from beq_self_eq_true x]
        simpa using ih

theorem leq_turn (a b : List UInt8) : (bytesLess a b || a == b) = !(bytesLess b a) := by rw [← less_turn a b, Bool.not_not]

@[go_sem high] theorem gtr_texts (t : TypeId) (a b : ByteArray) : binOp .gtr t (.string a) (.string b) = pure (.bool (bytesLess b.toList a.toList)) := by
  rw [← less_turn]; simp [binOp, Op.stringOp]
@[go_sem high] theorem leq_texts (t : TypeId) (a b : ByteArray) : binOp .leq t (.string a) (.string b) = pure (.bool !(bytesLess b.toList a.toList)) := by
  rw [← leq_turn]; simp [binOp, Op.stringOp]
@[go_sem high] theorem geq_texts (t : TypeId) (a b : ByteArray) : binOp .geq t (.string a) (.string b) = pure (.bool !(bytesLess a.toList b.toList)) := by
  simp [binOp, Op.stringOp]

theorem own_any (A : Option Addr) (n c : Nat) : (Value.slice A n c).ownBlock = A.map (·.block) := by cases A <;> rfl

end Go.Proofs.Ytmocfgghccmdgaa.StrOrd

