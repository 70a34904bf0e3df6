/- slices.Sort and slices.Compact at a list of texts of the call's own. The conditions: its length. -/
import Derived.Test.YtfkhgbjbhonpnaaShelf
import Derived.Test.YtfkhgbjbhonpnaaWWords
import Derived.Sort.OwnSorted
import Derived.Sort.Grow
import Derived.Lib.OwnBridge
import Derived.KernelRfl
namespace Go.Proofs.Ytfkhgbjbhonpnaa.SortLib
open Go Go.Proofs Go.Shelf Go.RowKit Go.Lib Go.Sort Go.Proofs.YtfkhgbjbhonpnaaW.PrintWords
set_option linter.unusedVariables false

/-- Texts sorted. -/
def sorted (l : List ByteArray) : List ByteArray := ((l.map (·.data.toList)).mergeSort fun x y => decide (x ≤ y)).map fun b => ⟨b.toArray⟩
/-- Each once, where alike stand together. -/
def compacted (l : List ByteArray) : List ByteArray := (Lib.compact (l.map (·.data.toList))).map fun b => ⟨b.toArray⟩

theorem map_back (l : List (List UInt8)) : (l.map fun b => (⟨b.toArray⟩ : ByteArray)).map (·.data.toList) = l := by
  rw [List.map_map]
  conv => rhs; rw [← List.map_id l]
  apply List.map_congr_left
  intro x _
  rfl
theorem map_vals (l : List (List UInt8)) : (l.map fun b => (⟨b.toArray⟩ : ByteArray)).map Value.string = l.map encStr := by
  rw [List.map_map]; rfl
theorem sorted_length (l : List ByteArray) : (sorted l).length = l.length := by
  unfold sorted
  rw [List.length_map, List.length_mergeSort, List.length_map]
theorem compacted_le (l : List ByteArray) : (compacted l).length ≤ l.length := by
  unfold compacted
  rw [List.length_map]
  exact Nat.le_trans (Lib.compact_length_le _) (by rw [List.length_map]; exact Nat.le_refl _)

theorem own_ge {w : World} {base : Nat} {e : TypeId} {size n : Nat} {v : Value} {xs : List Value} (h : w.ownsRow base e size v n xs) : ∀ k, v.ownBlock = some k → base ≤ k := fun k hk => (h.lt k hk).1

theorem sort_own {w : World} {base : Nat} {v : Value} {l : List ByteArray} (h : w.ownsRow base 9 1 v l.length (l.map Value.string)) (hl : l.length < 4611686018427387904) (hbase : base ≤ w.heap.size) :
    Calls Try.prog 8 #[v] w fun e w' => e = .returned (.tuple #[]) ∧ w'.ownsRow base 9 1 v (sorted l).length ((sorted l).map Value.string) ∧ Below base w w' := by
  rcases h.2 with ⟨rfl, h0⟩ | ⟨g, cap, cur, rfl, hbg, hb, h1, h2, h3, h4⟩
  · have : l = [] := List.length_eq_zero_iff.1 h0
    subst this
    refine (Try.slices_Sort_string_none none 0 w).mono ?_
    rintro e w' ⟨rfl, rfl⟩
    have e0 : sorted [] = [] := by unfold sorted; simp
    rw [e0]
    exact ⟨rfl, ⟨rfl, .inl ⟨rfl, rfl⟩⟩, Below.refl _ _⟩
  · have hb2 : g < w.heap.size := (Array.getElem?_eq_some_iff.1 hb).1
    rw [← Lib.map_encStr] at h4
    have hH : Holds encStr w g 0 (l.map (·.data.toList)).toArray := holds_of_block hb (by rw [List.length_map]; simpa using h4)
    have hc := Try.slices_Sort_string g 0 cap (l.map (·.data.toList)) w hH hb2 (by rw [List.length_map]; exact hl)
    rw [List.length_map] at hc
    refine hc.mono ?_
    rintro e w' ⟨rfl, n, os, rfl⟩
    refine ⟨rfl, ?_, (Below.refl base w).grown (grownBy_sorted _) hbase (fun k hk => by cases hk; exact hbg)⟩
    have hs := ownsRow_sorted (n := n) (os := os) (ss := l.map (·.data.toList)) (ts := (l.map (·.data.toList)).mergeSort fun x y => decide (x ≤ y)) (List.length_mergeSort _) hbg hb (by rw [List.length_map]; exact h1) h2 h3
    rw [sorted_length]
    rw [List.length_map] at hs
    unfold sorted
    rw [map_vals]
    exact hs

theorem compact_own {w : World} {base : Nat} {v : Value} {l : List ByteArray} (h : w.ownsRow base 9 1 v l.length (l.map Value.string)) (hl : l.length < 4611686018427387904) :
    Calls Try.prog 9 #[v] w fun e w' => ∃ v', e = .returned v' ∧ w'.ownsRow base 9 1 v' (compacted l).length ((compacted l).map Value.string) ∧ Below base w w' := by
  rcases h.2 with ⟨rfl, h0⟩ | ⟨g, cap, cur, rfl, hbg, hb, h1, h2, h3, h4⟩
  · have : l = [] := List.length_eq_zero_iff.1 h0
    subst this
    refine (Try.slices_Compact_string_empty none 0 w).mono ?_
    rintro e w' ⟨rfl, rfl⟩
    exact ⟨_, rfl, ⟨rfl, .inl ⟨rfl, rfl⟩⟩, Below.refl _ _⟩
  · have h5 := h4
    rw [← Lib.map_encStr] at h4
    have hH : Holds encStr w g 0 (l.map (·.data.toList)).toArray := holds_of_block hb (by rw [List.length_map]; simpa using h4)
    have hc := Try.slices_Compact_string g 0 cap (l.map (·.data.toList)) w hH (by rw [List.length_map]; omega) (by rw [List.length_map]; exact h1)
    rw [List.length_map] at hc
    refine hc.mono ?_
    rintro e w' ⟨rfl, q, rfl⟩
    refine ⟨_, rfl, ?_, Lib.below_putRow (Below.refl base w) hbg⟩
    rw [← Lib.map_encStr] at h
    have hle : (Lib.compact (l.map (·.data.toList))).length ≤ l.length := Nat.le_trans (Lib.compact_length_le _) (by rw [List.length_map]; exact Nat.le_refl _)
    have hp := Lib.ownsRow_putRow (q := q) (k := (Lib.compact (l.map (·.data.toList))).length) (ys := Lib.compact (l.map (·.data.toList)) ++ List.replicate (l.length - (Lib.compact (l.map (·.data.toList))).length) []) h (by simp; omega) hle
    rw [List.take_left] at hp
    unfold compacted
    rw [List.length_map, map_vals]
    exact hp
end Go.Proofs.Ytfkhgbjbhonpnaa.SortLib
