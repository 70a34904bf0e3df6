/- The order of lists of texts. -/
import Derived.Test.YtmocfgghccmdgaaSplitLib
namespace Go.Proofs.Ytmocfgghccmdgaa.OrderLib
open Go.RowKit Go.Proofs.YtmocfgghccmdgaaW.PrintWords Go.Proofs.Ytmocfgghccmdgaa.BytesLib Go.Proofs.Ytmocfgghccmdgaa.SplitLib
set_option linter.unusedVariables false

theorem lt_irr (a : List UInt8) : ¬ a < a := by
  induction a with
  | nil => exact fun h => nomatch h
  | cons x a ih => rw [List.cons_lt_cons_iff]; rintro (h | ⟨_, h⟩); exact UInt8.lt_irrefl _ h; exact ih h

theorem lt_tri : ∀ (a b : List UInt8), a < b ∨ a = b ∨ b < a
  | [], [] => .inr (.inl rfl)
  | [], _ :: _ => .inl (List.nil_lt_cons _ _)
  | _ :: _, [] => .inr (.inr (List.nil_lt_cons _ _))
  | x :: a, y :: b => by
    rw [List.cons_lt_cons_iff, List.cons_lt_cons_iff]
    by_cases h1 : x < y
    · exact .inl (.inl h1)
    · by_cases h2 : y < x
      · exact .inr (.inr (.inl h2))
      · obtain rfl : x = y := by
          rw [UInt8.lt_iff_toNat_lt] at h1 h2
          exact UInt8.toNat_inj.1 (by omega)
        rcases lt_tri a b with h | h | h
        · exact .inl (.inr ⟨rfl, h⟩)
        · exact .inr (.inl (by rw [h]))
        · exact .inr (.inr (.inr ⟨rfl, h⟩))

theorem lt_tr : ∀ {a b c : List UInt8}, a < b → b < c → a < c
  | [], [], _, h, _ => nomatch h
  | _ :: _, [], _, h, _ => nomatch h
  | _, _ :: _, [], _, h => nomatch h
  | [], _ :: _, _ :: _, _, _ => List.nil_lt_cons _ _
  | x :: a, y :: b, z :: c, h, k => by
    rw [List.cons_lt_cons_iff] at h k ⊢
    rcases h with h | ⟨rfl, h⟩
    · rcases k with k | ⟨rfl, k⟩
      · exact .inl (UInt8.lt_trans h k)
      · exact .inl h
    · rcases k with k | ⟨rfl, k⟩
      · exact .inl k
      · exact .inr ⟨rfl, lt_tr h k⟩

theorem lt_asy {a b : List UInt8} (h : a < b) : ¬ b < a := fun k => lt_irr a (lt_tr h k)

/-- Of two lists of texts, element by element. -/
def cmpLL : List (List UInt8) → List (List UInt8) → Int
  | [], [] => 0
  | [], _ :: _ => -1
  | _ :: _, [] => 1
  | a :: x, b :: y => if a < b then -1 else if b < a then 1 else cmpLL x y

theorem cmpLL_self : ∀ x, cmpLL x x = 0
  | [] => rfl
  | a :: x => by rw [cmpLL, if_neg (lt_irr a), if_neg (lt_irr a), cmpLL_self x]

theorem cmpLL_turn : ∀ x y, cmpLL y x = - cmpLL x y
  | [], [] => rfl
  | [], _ :: _ => rfl
  | _ :: _, [] => rfl
  | a :: x, b :: y => by
    rw [cmpLL, cmpLL]
    by_cases h1 : a < b
    · rw [if_pos h1, if_neg (lt_asy h1), if_pos h1]; rfl
    · by_cases h2 : b < a
      · rw [if_pos h2, if_neg h1, if_pos h2]
      · rw [if_neg h2, if_neg h1, if_neg h1, if_neg h2, cmpLL_turn x y]

theorem cmpLL_zero : ∀ {x y}, cmpLL x y = 0 → x = y
  | [], [], _ => rfl
  | [], _ :: _, h => by cases h
  | _ :: _, [], h => by cases h
  | a :: x, b :: y, h => by
    rw [cmpLL] at h
    by_cases h1 : a < b
    · rw [if_pos h1] at h; cases h
    · by_cases h2 : b < a
      · rw [if_neg h1, if_pos h2] at h; cases h
      · rw [if_neg h1, if_neg h2] at h
        rcases lt_tri a b with k | rfl | k
        · exact absurd k h1
        · rw [cmpLL_zero h]
        · exact absurd k h2

theorem cmpLL_tr : ∀ {x y z}, cmpLL x y ≤ 0 → cmpLL y z ≤ 0 → cmpLL x z ≤ 0
  | [], _, [], _, _ => by decide
  | [], _, _ :: _, _, _ => show (-1 : Int) ≤ 0 by decide
  | _ :: _, [], _, h, _ => absurd (show (1 : Int) ≤ 0 from h) (by decide)
  | a :: x, b :: y, [], _, h => absurd (show (1 : Int) ≤ 0 from h) (by decide)
  | a :: x, b :: y, c :: z, h, k => by
    rw [cmpLL] at h k ⊢
    by_cases h1 : a < b
    · by_cases k1 : b < c
      · rw [if_pos (lt_tr h1 k1)]; decide
      · rw [if_neg k1] at k
        by_cases k2 : c < b
        · rw [if_pos k2] at k; exact absurd k (by decide)
        · obtain rfl : b = c := by
            rcases lt_tri b c with e | e | e
            · exact absurd e k1
            · exact e
            · exact absurd e k2
          rw [if_pos h1]; decide
    · rw [if_neg h1] at h
      by_cases h2 : b < a
      · rw [if_pos h2] at h; exact absurd h (by decide)
      · rw [if_neg h2] at h
        obtain rfl : a = b := by
          rcases lt_tri a b with e | e | e
          · exact absurd e h1
          · exact e
          · exact absurd e h2
        by_cases k1 : a < c
        · rw [if_pos k1]; decide
        · rw [if_neg k1] at k ⊢
          by_cases k2 : c < a
          · rw [if_pos k2] at k; exact absurd k (by decide)
          · rw [if_neg k2] at k ⊢
            exact cmpLL_tr h k

/-- One of two elements. -/
def cmpB (a b : List UInt8) : Int := if a < b then -1 else if b < a then 1 else 0

theorem cmpLL_cons (a b : List UInt8) (x y : List (List UInt8)) : cmpLL (a :: x) (b :: y) = if cmpB a b = 0 then cmpLL x y else cmpB a b := by
  rw [cmpLL]
  unfold cmpB
  by_cases h1 : a < b
  · rw [if_pos h1, if_pos h1]; rfl
  · by_cases h2 : b < a
    · rw [if_neg h1, if_pos h2, if_neg h1, if_pos h2]; rfl
    · rw [if_neg h1, if_neg h2, if_neg h1, if_neg h2]; rfl

/-- What is in a list, and something behind it, stands behind the list. -/
theorem cmpLL_within (D A : List (List UInt8)) (h : A ≠ []) : cmpLL D (D ++ A) = -1 := by
  induction D with
  | nil => cases A with
    | nil => exact absurd rfl h
    | cons a t => rfl
  | cons d D ih => rw [List.cons_append, cmpLL, if_neg (lt_irr d), if_neg (lt_irr d), ih]

/-- What stands between two that begin alike begins so, too. -/
theorem cmpLL_between : ∀ (D : List (List UInt8)) {A B C : List (List UInt8)}, cmpLL (D ++ A) C ≤ 0 → cmpLL C (D ++ B) ≤ 0 → ∃ R, C = D ++ R
  | [], _, _, C, _, _ => ⟨C, rfl⟩
  | d :: D, A, B, [], h, _ => by
    exact absurd (show (1 : Int) ≤ 0 from h) (by decide)
  | d :: D, A, B, c :: C, h, k => by
    rw [List.cons_append, cmpLL] at h k
    by_cases h1 : d < c
    · rw [if_neg (lt_asy h1), if_pos h1] at k
      exact absurd k (by decide)
    · rw [if_neg h1] at h
      by_cases h2 : c < d
      · rw [if_pos h2] at h; exact absurd h (by decide)
      · rw [if_neg h2] at h
        obtain rfl : d = c := by
          rcases lt_tri d c with e | e | e
          · exact absurd e h1
          · exact e
          · exact absurd e h2
        rw [if_neg h2, if_neg h2] at k
        obtain ⟨R, hR⟩ := cmpLL_between D h k
        exact ⟨R, by rw [hR]; rfl⟩

end Go.Proofs.Ytmocfgghccmdgaa.OrderLib

