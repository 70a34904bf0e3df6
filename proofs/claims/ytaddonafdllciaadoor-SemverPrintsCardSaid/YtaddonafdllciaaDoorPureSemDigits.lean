/- Numbers as digits, and versions put together of them. -/
import Derived.Test.YtaddonafdllciaaDoorMpb
import Derived.Test.YtaddonafdllciaaDoorSemList
import Derived.Test.YtaddonafdllciaaDoorPureSemProg
namespace Go.Proofs.YtaddonafdllciaaDoor.Pure
open Go.RowKit Go.Proofs.YtaddonafdllciaaDoor.PAll Go.Proofs.YtaddonafdllciaaDoorW.PrintWords Go.Proofs.YtaddonafdllciaaDoorW.PrintLast
open Go.Proofs.YtaddonafdllciaaDoor.BytesLib Go.Proofs.YtaddonafdllciaaDoor.SemParts Go.Proofs.YtaddonafdllciaaDoor.SemNum Go.Proofs.YtaddonafdllciaaDoor.SemParse Go.Proofs.YtaddonafdllciaaDoor.SemOrder Go.Proofs.YtaddonafdllciaaDoor.SemSplit Go.Proofs.YtaddonafdllciaaDoor.SemCmp Go.Proofs.YtaddonafdllciaaDoor.SemList
set_option linter.unusedVariables false
set_option linter.unusedSimpArgs false

def dg (n : Nat) : UInt8 := UInt8.ofNat (48 + n % 10)
theorem dg_nat (n : Nat) : (dg n).toNat = 48 + n % 10 := by
  unfold dg
  rw [UInt8.toNat_ofNat']
  omega
/-- The digits of a number. -/
def dL (n : Nat) : List UInt8 := if h : n < 10 then [dg n] else dL (n / 10) ++ [dg n]
termination_by n
decreasing_by omega
theorem dL_eq (n : Nat) : dL n = if n < 10 then [dg n] else dL (n / 10) ++ [dg n] := by
  rw [dL]
  split <;> rfl
theorem dL_small {n : Nat} (h : n < 10) : dL n = [dg n] := by rw [dL_eq, if_pos h]
theorem dL_big {n : Nat} (h : ¬ n < 10) : dL n = dL (n / 10) ++ [dg n] := by rw [dL_eq, if_neg h]

theorem digB_dg (n : Nat) : digB (dg n) = true := by
  unfold digB
  rw [dg_nat, Bool.and_eq_true]
  exact ⟨decide_eq_true (by omega), decide_eq_true (by omega)⟩
theorem dL_digits (n : Nat) : (dL n).all digB = true := by
  induction n using Nat.strongRecOn with
  | _ n ih =>
    by_cases h : n < 10
    · rw [dL_small h]; simp [digB_dg]
    · rw [dL_big h, List.all_append, ih (n / 10) (by omega)]; simp [digB_dg]
theorem dL_len (d : Nat) : ∀ n, n < 10 ^ (d + 1) → (dL n).length ≤ d + 1 := by
  induction d with
  | zero => intro n h; rw [dL_small (by simpa using h)]; simp
  | succ d ih =>
    intro n h
    by_cases h1 : n < 10
    · rw [dL_small h1]; simp
    · rw [dL_big h1, List.length_append]
      have := ih (n / 10) (by rw [Nat.pow_succ] at h; omega)
      simp only [List.length_cons, List.length_nil]
      omega
def D (n : Nat) : ByteArray := ofL (dL n)
/-! ### the reference's Digits -/
theorem sign_extract {m : Nat} (h : m < 10) : (⟨#[48, 49, 50, 51, 52, 53, 54, 55, 56, 57]⟩ : ByteArray).extract m (m + 1) = ofL [dg m] := by
  refine L_inj ?_
  rw [L_extract, L_ofL, Nat.add_sub_cancel_left]
  have : ∀ k : Fin 10, ((L (⟨#[48, 49, 50, 51, 52, 53, 54, 55, 56, 57]⟩ : ByteArray)).drop k.val).take 1 = [UInt8.ofNat (48 + k.val % 10)] := by decide +kernel
  exact this ⟨m, h⟩
theorem dg_mod (n : Nat) : dg (n % 10) = dg n := by unfold dg; rw [Nat.mod_mod]
def dL0 (n : Nat) : List UInt8 := if n = 0 then [] else dL n
theorem dL_split (n : Nat) : dL n = dL0 (n / 10) ++ [dg n] := by
  unfold dL0
  by_cases h : n < 10
  · rw [dL_small h, if_pos (by omega)]; rfl
  · rw [dL_big h, if_neg (by omega)]
/-! ### versions put together -/
theorem dL_no {n : Nat} {c : UInt8} (h : digB c = false) : c ∉ dL n := fun hm => by
  have := List.all_eq_true.1 (dL_digits n) c hm
  rw [h] at this; cases this
theorem takeWhile_append {c : UInt8} : ∀ {p : List UInt8} (q : List UInt8), c ∉ p → (p ++ q).takeWhile (· != c) = p ++ q.takeWhile (· != c)
  | [], q, _ => rfl
  | x :: p, q, h => by
    have h1 : x ≠ c := fun e => h (by rw [e]; exact List.mem_cons_self)
    have h2 : c ∉ p := fun e => h (List.mem_cons_of_mem _ e)
    rw [List.cons_append, List.takeWhile_cons, if_pos (by rw [bne_iff_ne]; exact h1), takeWhile_append q h2, List.cons_append]
end Go.Proofs.YtaddonafdllciaaDoor.Pure

