/- Numbers as digits, and versions put together of them. -/
import Derived.Test.YtaddonafdllciaaDoorMpb
import Derived.Test.YtaddonafdllciaaDoorSemList
import Derived.Test.YtaddonafdllciaaDoorPureSemProg
namespace Go.Proofs.YtaddonafdllciaaDoor.Pure
open Go.RowKit Go.Proofs.YtaddonafdllciaaDoor.PAll Go.Proofs.YtaddonafdllciaaDoorW.PrintWords Go.Proofs.YtaddonafdllciaaDoorW.PrintLast
open Go.Proofs.YtaddonafdllciaaDoor.BytesLib Go.Proofs.YtaddonafdllciaaDoor.SemParts Go.Proofs.YtaddonafdllciaaDoor.SemNum Go.Proofs.YtaddonafdllciaaDoor.SemParse Go.Proofs.YtaddonafdllciaaDoor.SemOrder Go.Proofs.YtaddonafdllciaaDoor.SemSplit Go.Proofs.YtaddonafdllciaaDoor.SemCmp Go.Proofs.YtaddonafdllciaaDoor.SemList
set_option linter.unusedVariables false
set_option linter.unusedSimpArgs false

def dg (n : Nat) : UInt8 := UInt8.ofNat (48 + n % 10)
theorem dg_nat (n : Nat) : (dg n).toNat = 48 + n % 10 := by
  unfold dg
  rw [UInt8.toNat_ofNat']
  omega
/-- The digits of a number. -/
def dL (n : Nat) : List UInt8 := if h : n < 10 then [dg n] else dL (n / 10) ++ [dg n]
termination_by n
decreasing_by omega
theorem dL_eq (n : Nat) : dL n = if n < 10 then [dg n] else dL (n / 10) ++ [dg n] := by
  rw [dL]
  split <;> rfl
theorem dL_small {n : Nat} (h : n < 10) : dL n = [dg n] := by rw [dL_eq, if_pos h]
theorem dL_big {n : Nat} (h : ¬ n < 10) : dL n = dL (n / 10) ++ [dg n] := by rw [dL_eq, if_neg h]

theorem dL_ne (n : Nat) : dL n ≠ [] := by
  rw [dL_eq]
  split <;> simp
theorem dL_len (d : Nat) : ∀ n, n < 10 ^ (d + 1) → (dL n).length ≤ d + 1 := by
  induction d with
  | zero => intro n h; rw [dL_small (by simpa using h)]; simp
  | succ d ih =>
    intro n h
    by_cases h1 : n < 10
    · rw [dL_small h1]; simp
    · rw [dL_big h1, List.length_append]
      have := ih (n / 10) (by rw [Nat.pow_succ] at h; omega)
      simp only [List.length_cons, List.length_nil]
      omega
theorem dL_len_pos (n : Nat) : 1 ≤ (dL n).length := by
  have := dL_ne n
  cases h : dL n with
  | nil => exact absurd h this
  | cons a l => simp
theorem digitVal_dg (n : Nat) : Lib.digitVal (dg n) = some (n % 10) := by
  unfold Lib.digitVal
  rw [dg_nat, if_pos ⟨by omega, by omega⟩]
  congr 1
  omega
theorem decFrom_append : ∀ (p q : List UInt8) (acc : Nat), p.all digB = true → Lib.decFrom acc (p ++ q) = (Lib.decFrom acc p).bind fun n => Lib.decFrom n q
  | [], q, acc, _ => rfl
  | c :: p, q, acc, h => by
    rw [List.all_cons, Bool.and_eq_true] at h
    have e : ∀ l, Lib.decFrom acc (c :: l) = match Lib.digitVal c with | some d => Lib.decFrom (acc * 10 + d) l | none => none := fun l => by
      conv => lhs; unfold Lib.decFrom
      cases Lib.digitVal c <;> rfl
    rw [List.cons_append, e, e]
    cases Lib.digitVal c with
    | none => rfl
    | some d => exact decFrom_append p q _ h.2
theorem decFrom_one (n acc : Nat) : Lib.decFrom acc [dg n] = some (acc * 10 + n % 10) := by
  unfold Lib.decFrom
  rw [digitVal_dg]
  rfl
def D (n : Nat) : ByteArray := ofL (dL n)
/-! ### the reference's Digits -/
/-! ### versions put together -/
end Go.Proofs.YtaddonafdllciaaDoor.Pure

