/- A text's elements as a list of lists of bytes, and their order. -/
import Derived.Test.YtmocfgghccmdgaaBytesLib
import Derived.Test.YtmocfgghccmdgaaElems
namespace Go.Proofs.Ytmocfgghccmdgaa.SplitLib
open Go.RowKit Go.Proofs.YtmocfgghccmdgaaW.PrintWords Go.Proofs.Ytmocfgghccmdgaa.BytesLib Go.Proofs.Ytmocfgghccmdgaa.Elems
set_option linter.unusedVariables false

/-- Cut at each c. -/
def splitL (c : UInt8) : List UInt8 → List (List UInt8)
  | [] => [[]]
  | x :: l => if x = c then [] :: splitL c l else match splitL c l with
    | [] => [[x]]
    | h :: t => (x :: h) :: t

theorem splitL_ne (c : UInt8) (l : List UInt8) : splitL c l ≠ [] := by
  cases l with
  | nil => simp [splitL]
  | cons x l =>
    unfold splitL
    split
    · simp
    · split <;> simp

theorem splitL_none {c : UInt8} : ∀ {l : List UInt8}, c ∉ l → splitL c l = [l]
  | [], _ => rfl
  | x :: l, h => by
    have h1 : x ≠ c := fun e => h (by rw [e]; exact List.mem_cons_self)
    have h2 : c ∉ l := fun e => h (List.mem_cons_of_mem _ e)
    rw [splitL, if_neg h1, splitL_none h2]

theorem splitL_at {c : UInt8} : ∀ {p : List UInt8} (q : List UInt8), c ∉ p → splitL c (p ++ c :: q) = p :: splitL c q
  | [], q, _ => by rw [List.nil_append, splitL, if_pos rfl]
  | x :: p, q, h => by
    have h1 : x ≠ c := fun e => h (by rw [e]; exact List.mem_cons_self)
    have h2 : c ∉ p := fun e => h (List.mem_cons_of_mem _ e)
    rw [List.cons_append, splitL, if_neg h1, splitL_at q h2]

theorem splitL_join (c : UInt8) : ∀ (p q : List UInt8), splitL c (p ++ c :: q) = splitL c p ++ splitL c q
  | [], q => by
    show splitL c (c :: q) = [] :: splitL c q
    rw [splitL, if_pos rfl]
  | x :: p, q => by
    have ih := splitL_join c p q
    rw [List.cons_append, splitL, splitL]
    by_cases h : x = c
    · rw [if_pos h, if_pos h, ih]; rfl
    · rw [if_neg h, if_neg h, ih]
      cases hp : splitL c p with
      | nil => exact absurd hp (splitL_ne c p)
      | cons a t => rfl

/-- With c's between. -/
def joinL (c : UInt8) : List (List UInt8) → List UInt8
  | [] => []
  | [a] => a
  | a :: b :: t => a ++ c :: joinL c (b :: t)

theorem joinL_cons (c : UInt8) (a : List UInt8) {t : List (List UInt8)} (h : t ≠ []) : joinL c (a :: t) = a ++ c :: joinL c t := by
  cases t with
  | nil => exact absurd rfl h
  | cons b t => rfl

theorem joinL_split (c : UInt8) : ∀ (l : List UInt8), joinL c (splitL c l) = l
  | [] => rfl
  | x :: l => by
    have ih := joinL_split c l
    rw [splitL]
    by_cases hx : x = c
    · rw [if_pos hx, joinL_cons c [] (splitL_ne c l), ih, hx]; rfl
    · rw [if_neg hx]
      cases hs : splitL c l with
      | nil => exact absurd hs (splitL_ne c l)
      | cons a t =>
        rw [hs] at ih
        show joinL c ((x :: a) :: t) = x :: l
        cases t with
        | nil => rw [show joinL c [a] = a from rfl] at ih; rw [← ih]; rfl
        | cons b t => rw [joinL_cons c _ (by simp)] at ih ⊢; rw [← ih]; rfl

theorem joinL_append (c : UInt8) : ∀ (p q : List (List UInt8)), p ≠ [] → q ≠ [] → joinL c (p ++ q) = joinL c p ++ c :: joinL c q
  | [], _, h, _ => absurd rfl h
  | [a], q, _, hq => by rw [List.singleton_append, joinL_cons c a hq]; rfl
  | a :: b :: t, q, _, hq => by
    rw [List.cons_append, joinL_cons c a (by simp), joinL_append c (b :: t) q (by simp) hq, joinL_cons c a (by simp), List.append_assoc]; rfl

theorem index_split (c : UInt8) (l : List UInt8) (h : 0 ≤ Lib.indexByte l c) :
    l = l.take (Lib.indexByte l c).toNat ++ c :: l.drop ((Lib.indexByte l c).toNat + 1) ∧ c ∉ l.take (Lib.indexByte l c).toNat := by
  obtain ⟨o, ho⟩ : ∃ o : Nat, Lib.indexByte l c = o := ⟨(Lib.indexByte l c).toNat, by omega⟩
  obtain ⟨h1, h2⟩ := Lib.indexByte_some ho
  rw [ho, Int.toNat_natCast]
  obtain ⟨hl, he⟩ := List.getElem?_eq_some_iff.1 h1
  constructor
  · conv => lhs; rw [← List.take_append_drop o l, List.drop_eq_getElem_cons hl, he]
  · intro hm
    obtain ⟨k, hk, hk2⟩ := List.mem_iff_getElem.1 hm
    rw [List.length_take] at hk
    rw [List.getElem_take] at hk2
    exact h2 k (by omega) (by rw [List.getElem?_eq_some_iff]; exact ⟨by omega, hk2⟩)

theorem index_none (c : UInt8) (l : List UInt8) (h : ¬ 0 ≤ Lib.indexByte l c) : c ∉ l := by
  intro hm
  obtain ⟨k, hk, hk2⟩ := List.mem_iff_getElem.1 hm
  have h0 := Lib.indexByte_ge l c
  exact Lib.indexByte_none (by omega : Lib.indexByte l c = -1) k (by rw [List.getElem?_eq_some_iff]; exact ⟨hk, hk2⟩)

theorem split_list (c : UInt8) (s : ByteArray) : split c s = (splitL c (L s)).map ofL := by
  induction h : s.size using Nat.strongRecOn generalizing s with
  | _ k ih =>
    rw [split_eq]
    by_cases hF : 0 ≤ cutI c s
    · have hF' : cutF c s = true := decide_eq_true hF
      have hl := cutB_lt hF'
      rw [if_pos hF', ih (cutB c s).size (by omega) (cutB c s) rfl]
      obtain ⟨h1, h2⟩ := index_split c (L s) hF
      have eA : L (cutA c s) = (L s).take (Lib.indexByte (L s) c).toNat := by unfold cutA; rw [if_pos hF, L_head]; rfl
      have eB : L (cutB c s) = (L s).drop ((Lib.indexByte (L s) c).toNat + 1) := by
        unfold cutB; rw [if_pos hF, L_tail]
        have : (cutI c s + 1).toNat = (Lib.indexByte (L s) c).toNat + 1 := by
          have : cutI c s = Lib.indexByte (L s) c := rfl
          omega
        rw [this]
      conv => rhs; rw [h1, splitL_at _ h2, List.map_cons, ← eA, ofL_L, ← eB]
    · have hF' : cutF c s = false := decide_eq_false hF
      rw [if_neg (by rw [hF']; decide), splitL_none (index_none c (L s) hF), List.map_cons, ofL_L]
      unfold cutA; rw [if_neg hF]; rfl

/-- The elements, as lists. -/
def elemsL (l : List UInt8) : List (List UInt8) := if l = [] then [] else splitL 47 l

theorem elems_list (s : ByteArray) : elems s = (elemsL (L s)).map ofL := by
  unfold elems elemsL
  rw [toList_L]
  by_cases h : L s = []
  · rw [if_pos h, if_pos h]; rfl
  · rw [if_neg h, if_neg h, split_list]

theorem elemsL_join (l : List UInt8) : joinL 47 (elemsL l) = l := by
  unfold elemsL
  by_cases h : l = []
  · rw [if_pos h, h]; rfl
  · rw [if_neg h, joinL_split]

theorem elemsL_inj {a b : List UInt8} (h : elemsL a = elemsL b) : a = b := by rw [← elemsL_join a, ← elemsL_join b, h]

theorem elemsL_slash {a : List UInt8} (b : List UInt8) (h : a ≠ []) : elemsL (a ++ 47 :: b) = elemsL a ++ splitL 47 b := by
  unfold elemsL
  rw [if_neg (by simp), if_neg h, splitL_join]

theorem elemsL_nil {l : List UInt8} : elemsL l = [] ↔ l = [] := by
  unfold elemsL
  by_cases h : l = []
  · rw [if_pos h]; simp [h]
  · rw [if_neg h]; simp [h, splitL_ne]

theorem L_map (xs : List (List UInt8)) : (xs.map ofL).map L = xs := by
  rw [List.map_map]
  conv => rhs; rw [← List.map_id xs]
  apply List.map_congr_left
  intro x _
  exact L_ofL x

end Go.Proofs.Ytmocfgghccmdgaa.SplitLib

