/- Numbers as digits, and versions put together of them. -/
import Derived.Test.YtaddonafdllciaaDoorMpb
import Derived.Test.YtaddonafdllciaaDoorSemList
import Derived.Test.YtaddonafdllciaaDoorPureSemProg
namespace Go.Proofs.YtaddonafdllciaaDoor.Pure
open Go.RowKit Go.Proofs.YtaddonafdllciaaDoor.PAll Go.Proofs.YtaddonafdllciaaDoorW.PrintWords Go.Proofs.YtaddonafdllciaaDoorW.PrintLast
open Go.Proofs.YtaddonafdllciaaDoor.BytesLib Go.Proofs.YtaddonafdllciaaDoor.SemParts Go.Proofs.YtaddonafdllciaaDoor.SemNum Go.Proofs.YtaddonafdllciaaDoor.SemParse Go.Proofs.YtaddonafdllciaaDoor.SemOrder Go.Proofs.YtaddonafdllciaaDoor.SemSplit Go.Proofs.YtaddonafdllciaaDoor.SemCmp Go.Proofs.YtaddonafdllciaaDoor.SemList
set_option linter.unusedVariables false
set_option linter.unusedSimpArgs false

def dg (n : Nat) : UInt8 := UInt8.ofNat (48 + n % 10)
theorem dg_nat (n : Nat) : (dg n).toNat = 48 + n % 10 := by
  unfold dg
  rw [UInt8.toNat_ofNat']
  omega
/-- The digits of a number. -/
def dL (n : Nat) : List UInt8 := if h : n < 10 then [dg n] else dL (n / 10) ++ [dg n]
termination_by n
decreasing_by omega
theorem dL_eq (n : Nat) : dL n = if n < 10 then [dg n] else dL (n / 10) ++ [dg n] := by
  rw [dL]
  split <;> rfl
theorem dL_small {n : Nat} (h : n < 10) : dL n = [dg n] := by rw [dL_eq, if_pos h]
theorem dL_big {n : Nat} (h : ¬ n < 10) : dL n = dL (n / 10) ++ [dg n] := by rw [dL_eq, if_neg h]

theorem digB_dg (n : Nat) : digB (dg n) = true := by
  unfold digB
  rw [dg_nat, Bool.and_eq_true]
  exact ⟨decide_eq_true (by omega), decide_eq_true (by omega)⟩
theorem dL_digits (n : Nat) : (dL n).all digB = true := by
  induction n using Nat.strongRecOn with
  | _ n ih =>
    by_cases h : n < 10
    · rw [dL_small h]; simp [digB_dg]
    · rw [dL_big h, List.all_append, ih (n / 10) (by omega)]; simp [digB_dg]
theorem dL_ne (n : Nat) : dL n ≠ [] := by
  rw [dL_eq]
  split <;> simp
theorem dL_len (d : Nat) : ∀ n, n < 10 ^ (d + 1) → (dL n).length ≤ d + 1 := by
  induction d with
  | zero => intro n h; rw [dL_small (by simpa using h)]; simp
  | succ d ih =>
    intro n h
    by_cases h1 : n < 10
    · rw [dL_small h1]; simp
    · rw [dL_big h1, List.length_append]
      have := ih (n / 10) (by rw [Nat.pow_succ] at h; omega)
      simp only [List.length_cons, List.length_nil]
      omega
theorem digitVal_dg (n : Nat) : Lib.digitVal (dg n) = some (n % 10) := by
  unfold Lib.digitVal
  rw [dg_nat, if_pos ⟨by omega, by omega⟩]
  congr 1
  omega
theorem decFrom_append : ∀ (p q : List UInt8) (acc : Nat), p.all digB = true → Lib.decFrom acc (p ++ q) = (Lib.decFrom acc p).bind fun n => Lib.decFrom n q
  | [], q, acc, _ => rfl
  | c :: p, q, acc, h => by
    rw [List.all_cons, Bool.and_eq_true] at h
    have e : ∀ l, Lib.decFrom acc (c :: l) = match Lib.digitVal c with | some d => Lib.decFrom (acc * 10 + d) l | none => none := fun l => by
      conv => lhs; unfold Lib.decFrom
      cases Lib.digitVal c <;> rfl
    rw [List.cons_append, e, e]
    cases Lib.digitVal c with
    | none => rfl
    | some d => exact decFrom_append p q _ h.2
theorem decFrom_one (n acc : Nat) : Lib.decFrom acc [dg n] = some (acc * 10 + n % 10) := by
  unfold Lib.decFrom
  rw [digitVal_dg]
  rfl
theorem dL_dec (n : Nat) : Lib.decFrom 0 (dL n) = some n := by
  induction n using Nat.strongRecOn with
  | _ n ih =>
    by_cases h : n < 10
    · rw [dL_small h, decFrom_one]; congr 1; omega
    · rw [dL_big h, decFrom_append _ _ _ (dL_digits _), ih (n / 10) (by omega), Option.bind_some, decFrom_one]
      congr 1; omega
/-- No nought ahead. -/
theorem dL_head (n : Nat) (h : 10 ≤ n) : (dL n).head? ≠ some 48 := by
  induction n using Nat.strongRecOn with
  | _ n ih =>
    rw [dL_big (by omega)]
    have hne := dL_ne (n / 10)
    by_cases h1 : n / 10 < 10
    · rw [dL_small h1]
      intro e
      have e1 := congrArg UInt8.toNat (Option.some.inj e)
      rw [dg_nat] at e1
      have : (48 : UInt8).toNat = 48 := rfl
      omega
    · have := ih (n / 10) (by omega) (by omega)
      cases hd : dL (n / 10) with
      | nil => exact absurd hd hne
      | cons c l => rw [hd] at this; exact this

def D (n : Nat) : ByteArray := ofL (dL n)
theorem D_every (n : Nat) : everyB digB (D n) = true := by
  unfold everyB D
  rw [L_ofL, dL_digits]
  cases h : dL n with
  | nil => exact absurd h (dL_ne n)
  | cons c l => rfl
theorem D_size (n : Nat) : (D n).size = (dL n).length := size_ofL _
theorem D_nought (n : Nat) : noughtB (D n) = false := by
  unfold noughtB
  rw [D_size, show L (D n) = dL n from L_ofL _]
  by_cases h : n < 10
  · rw [dL_small h]; rfl
  · rw [show ((dL n).head? == some 48) = false from beq_eq_false_iff_ne.2 (dL_head n (by omega))]; simp
theorem D_num {n : Nat} (h : n < 1000000000) : numB (D n) = true ∧ (numF (D n)).1 = n := by
  have h1 : numB (D n) = true := by
    unfold numB
    rw [D_every, D_nought, D_size, decide_eq_true (dL_len 8 n (by simpa using h))]; rfl
  refine ⟨h1, ?_⟩
  unfold numF
  rw [h1, if_pos rfl, show L (D n) = dL n from L_ofL _, dL_dec]; rfl

/-! ### the reference's Digits -/
theorem sign_extract {m : Nat} (h : m < 10) : (⟨#[48, 49, 50, 51, 52, 53, 54, 55, 56, 57]⟩ : ByteArray).extract m (m + 1) = ofL [dg m] := by
  refine L_inj ?_
  rw [L_extract, L_ofL, Nat.add_sub_cancel_left]
  have : ∀ k : Fin 10, ((L (⟨#[48, 49, 50, 51, 52, 53, 54, 55, 56, 57]⟩ : ByteArray)).drop k.val).take 1 = [UInt8.ofNat (48 + k.val % 10)] := by decide +kernel
  exact this ⟨m, h⟩
theorem dg_mod (n : Nat) : dg (n % 10) = dg n := by unfold dg; rw [Nat.mod_mod]
def dL0 (n : Nat) : List UInt8 := if n = 0 then [] else dL n
theorem dL_split (n : Nat) : dL n = dL0 (n / 10) ++ [dg n] := by
  unfold dL0
  by_cases h : n < 10
  · rw [dL_small h, if_pos (by omega)]; rfl
  · rw [dL_big h, if_neg (by omega)]
theorem ref_Digits_loop (d : Nat) : ∀ (n k : Nat) (acc : ByteArray), n < 10 ^ d → d ≤ 18 → acc.size + d ≤ 1000 → d < k → graftbedref03_Digits.l0 k (n : Int) acc = some (ofL (dL0 n ++ L acc)) := by
  induction d with
  | zero =>
    intro n k acc h1 _ h2 h3
    obtain ⟨k, rfl⟩ : ∃ k', k = k' + 1 := ⟨k - 1, by omega⟩
    obtain rfl : n = 0 := by simpa using h1
    simp only [graftbedref03_Digits.l0]
    rw [if_neg (by omega)]
    unfold dL0
    rw [if_pos rfl, List.nil_append, ofL_L]
  | succ d ih =>
    intro n k acc h1 hd h2 h3
    obtain ⟨k, rfl⟩ : ∃ k', k = k' + 1 := ⟨k - 1, by omega⟩
    by_cases h0 : n = 0
    · subst h0
      simp only [graftbedref03_Digits.l0]
      rw [if_neg (by omega)]
      unfold dL0
      rw [if_pos rfl, List.nil_append, ofL_L]
    · have hp : 10 ^ (d + 1) ≤ 10 ^ 18 := Nat.pow_le_pow_right (by omega) hd
      have hn : n < 1000000000000000000 := by simpa using Nat.lt_of_lt_of_le h1 hp
      have m1 : Int.tmod (n : Int) 10 = ((n % 10 : Nat) : Int) := by rw [Int.tmod_eq_emod_of_nonneg (by omega)]; rfl
      have m2 : Int.tdiv (n : Int) 10 = ((n / 10 : Nat) : Int) := by rw [Int.tdiv_eq_ediv_of_nonneg (by omega)]; rfl
      have hx := sign_extract (m := n % 10) (by omega)
      have ih' := ih (n / 10) k (ofL [dg n] ++ acc) (by rw [Nat.pow_succ] at h1; omega) (by omega) (by rw [size_append, size_ofL]; simp; omega) (by omega)
      simp only [graftbedref03_Digits.l0]
      rw [if_pos (by omega), m1, m2, w64 (x := ((n % 10 : Nat) : Int) + 1) (by omega) (by omega), w64 (x := ((n / 10 : Nat) : Int)) (by omega) (by omega), if_pos (by omega), if_pos (by omega), if_pos (by omega)]
      rw [show (((n % 10 : Nat) : Int) + 1).toNat = n % 10 + 1 from rfl, Int.toNat_natCast, hx, dg_mod, if_pos (by rw [size_ofL]; simp; omega), ih']
      congr 2
      rw [L_append, L_ofL, ← List.append_assoc, ← dL_split]
      unfold dL0
      rw [if_neg h0]

theorem ref_Digits (n : Nat) (h : n < 1000000000000000000) (k : Nat) (hk : 20 ≤ k) : graftbedref03_Digits.f k (n : Int) = some (D n) := by
  have m1 : Int.tmod (n : Int) 10 = ((n % 10 : Nat) : Int) := by rw [Int.tmod_eq_emod_of_nonneg (by omega)]; rfl
  have m2 : Int.tdiv (n : Int) 10 = ((n / 10 : Nat) : Int) := by rw [Int.tdiv_eq_ediv_of_nonneg (by omega)]; rfl
  have hx := sign_extract (m := n % 10) (by omega)
  unfold graftbedref03_Digits.f
  rw [if_neg (by omega), m1, m2, w64 (x := ((n % 10 : Nat) : Int) + 1) (by omega) (by omega), w64 (x := ((n / 10 : Nat) : Int)) (by omega) (by omega), if_pos (by omega), if_pos (by omega), if_pos (by omega)]
  rw [show (((n % 10 : Nat) : Int) + 1).toNat = n % 10 + 1 from rfl, Int.toNat_natCast, hx, dg_mod]
  rw [ref_Digits_loop 18 (n / 10) k (ofL [dg n]) (by omega) (Nat.le_refl _) (by rw [size_ofL]; simp) (by omega), L_ofL, ← dL_split]
  rfl

/-! ### versions put together -/
theorem dL_no {n : Nat} {c : UInt8} (h : digB c = false) : c ∉ dL n := fun hm => by
  have := List.all_eq_true.1 (dL_digits n) c hm
  rw [h] at this; cases this
end Go.Proofs.YtaddonafdllciaaDoor.Pure

