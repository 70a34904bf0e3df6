/- A text's elements as a list of lists of bytes, and their order. -/
import Derived.Test.YtaddonafdllciaaDoorBytesLib
import Derived.Test.YtaddonafdllciaaDoorSemParts
namespace Go.Proofs.YtaddonafdllciaaDoor.SemSplit
open Go.RowKit Go.Proofs.YtaddonafdllciaaDoorW.PrintWords Go.Proofs.YtaddonafdllciaaDoor.BytesLib Go.Proofs.YtaddonafdllciaaDoor.SemParts
set_option linter.unusedVariables false

/-- Cut at each c. -/
def splitL (c : UInt8) : List UInt8 → List (List UInt8)
  | [] => [[]]
  | x :: l => if x = c then [] :: splitL c l else match splitL c l with
    | [] => [[x]]
    | h :: t => (x :: h) :: t

theorem splitL_ne (c : UInt8) (l : List UInt8) : splitL c l ≠ [] := by
  cases l with
  | nil => simp [splitL]
  | cons x l =>
    unfold splitL
    split
    · simp
    · split <;> simp

theorem splitL_none {c : UInt8} : ∀ {l : List UInt8}, c ∉ l → splitL c l = [l]
  | [], _ => rfl
  | x :: l, h => by
    have h1 : x ≠ c := fun e => h (by rw [e]; exact List.mem_cons_self)
    have h2 : c ∉ l := fun e => h (List.mem_cons_of_mem _ e)
    rw [splitL, if_neg h1, splitL_none h2]

theorem splitL_at {c : UInt8} : ∀ {p : List UInt8} (q : List UInt8), c ∉ p → splitL c (p ++ c :: q) = p :: splitL c q
  | [], q, _ => by rw [List.nil_append, splitL, if_pos rfl]
  | x :: p, q, h => by
    have h1 : x ≠ c := fun e => h (by rw [e]; exact List.mem_cons_self)
    have h2 : c ∉ p := fun e => h (List.mem_cons_of_mem _ e)
    rw [List.cons_append, splitL, if_neg h1, splitL_at q h2]

theorem index_split (c : UInt8) (l : List UInt8) (h : 0 ≤ Lib.indexByte l c) :
    l = l.take (Lib.indexByte l c).toNat ++ c :: l.drop ((Lib.indexByte l c).toNat + 1) ∧ c ∉ l.take (Lib.indexByte l c).toNat := by
  obtain ⟨o, ho⟩ : ∃ o : Nat, Lib.indexByte l c = o := ⟨(Lib.indexByte l c).toNat, by omega⟩
  obtain ⟨h1, h2⟩ := Lib.indexByte_some ho
  rw [ho, Int.toNat_natCast]
  obtain ⟨hl, he⟩ := List.getElem?_eq_some_iff.1 h1
  constructor
  · conv => lhs; rw [← List.take_append_drop o l, List.drop_eq_getElem_cons hl, he]
  · intro hm
    obtain ⟨k, hk, hk2⟩ := List.mem_iff_getElem.1 hm
    rw [List.length_take] at hk
    rw [List.getElem_take] at hk2
    exact h2 k (by omega) (by rw [List.getElem?_eq_some_iff]; exact ⟨by omega, hk2⟩)

theorem index_none (c : UInt8) (l : List UInt8) (h : ¬ 0 ≤ Lib.indexByte l c) : c ∉ l := by
  intro hm
  obtain ⟨k, hk, hk2⟩ := List.mem_iff_getElem.1 hm
  have h0 := Lib.indexByte_ge l c
  exact Lib.indexByte_none (by omega : Lib.indexByte l c = -1) k (by rw [List.getElem?_eq_some_iff]; exact ⟨hk, hk2⟩)

theorem split_list (c : UInt8) (s : ByteArray) : split c s = (splitL c (L s)).map ofL := by
  induction h : s.size using Nat.strongRecOn generalizing s with
  | _ k ih =>
    rw [split_eq]
    by_cases hF : 0 ≤ cutI c s
    · have hF' : cutF c s = true := decide_eq_true hF
      have hl := cutB_lt hF'
      rw [if_pos hF', ih (cutB c s).size (by omega) (cutB c s) rfl]
      obtain ⟨h1, h2⟩ := index_split c (L s) hF
      have eA : L (cutA c s) = (L s).take (Lib.indexByte (L s) c).toNat := by unfold cutA; rw [if_pos hF, L_head]; rfl
      have eB : L (cutB c s) = (L s).drop ((Lib.indexByte (L s) c).toNat + 1) := by
        unfold cutB; rw [if_pos hF, L_tail]
        have : (cutI c s + 1).toNat = (Lib.indexByte (L s) c).toNat + 1 := by
          have : cutI c s = Lib.indexByte (L s) c := rfl
          omega
        rw [this]
      conv => rhs; rw [h1, splitL_at _ h2, List.map_cons, ← eA, ofL_L, ← eB]
    · have hF' : cutF c s = false := decide_eq_false hF
      rw [if_neg (by rw [hF']; decide), splitL_none (index_none c (L s) hF), List.map_cons, ofL_L]
      unfold cutA; rw [if_neg hF]; rfl

theorem L_map (xs : List (List UInt8)) : (xs.map ofL).map L = xs := by
  rw [List.map_map]
  conv => rhs; rw [← List.map_id xs]
  apply List.map_congr_left
  intro x _
  exact L_ofL x

end Go.Proofs.YtaddonafdllciaaDoor.SemSplit

