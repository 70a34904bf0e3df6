/- Texts as lists of bytes: reading, cutting, and what the print's words say of them. -/
import Derived.Lib.Strings
import Derived.Lib.IndexBytes
import Derived.Lib.IndexLaws
import Derived.Test.YtmocfgghccmdgaaWWords
namespace Go.Proofs.Ytmocfgghccmdgaa.BytesLib
open Go.RowKit Go.Proofs.YtmocfgghccmdgaaW.PrintWords
set_option linter.unusedVariables false

/-- The bytes of a text. -/
def L (s : ByteArray) : List UInt8 := s.data.toList
/-- The text of bytes. -/
def ofL (l : List UInt8) : ByteArray := ⟨l.toArray⟩

theorem L_ofL (l : List UInt8) : L (ofL l) = l := by simp [L, ofL]
theorem ofL_L (s : ByteArray) : ofL (L s) = s := by
  obtain ⟨⟨l⟩⟩ := s
  rfl
theorem L_inj {s t : ByteArray} (h : L s = L t) : s = t := by rw [← ofL_L s, ← ofL_L t, h]
theorem L_length (s : ByteArray) : (L s).length = s.size := data_length s
theorem toList_L (s : ByteArray) : s.toList = L s := ByteArray.toList_eq s
theorem L_append (s t : ByteArray) : L (s ++ t) = L s ++ L t := by
  unfold L
  rw [ByteArray.data_append, Array.toList_append]
theorem L_extract (s : ByteArray) (a b : Nat) : L (s.extract a b) = ((L s).drop a).take (b - a) := Lib.extract_data s a b
theorem L_tail (s : ByteArray) (a : Nat) : L (s.extract a s.size) = (L s).drop a := Lib.extract_to_end s a
theorem L_head (s : ByteArray) (b : Nat) : L (s.extract 0 b) = (L s).take b := by rw [L_extract]; simp
theorem size_append (a b : ByteArray) : (a ++ b).size = a.size + b.size := ByteArray.size_append

theorem bt_eq {s : ByteArray} {i : Int} (h0 : 0 ≤ i) (h1 : i < (s.size : Int)) : ∃ h : i.toNat < (L s).length, bt s i = (((L s)[i.toNat]'h).toNat : Int) := by
  have h : i.toNat < s.size := by omega
  refine ⟨by rw [L_length]; exact h, ?_⟩
  unfold bt
  rw [dif_pos h]
  rfl
theorem bt_nat {s : ByteArray} {i : Nat} (h : i < (L s).length) : bt s (i : Int) = (((L s)[i]'h).toNat : Int) := by
  obtain ⟨h', e⟩ := bt_eq (s := s) (i := (i : Int)) (by omega) (by rw [L_length] at h; omega)
  rw [e]
  simp
theorem w64 {x : Int} (h0 : -9223372036854775808 ≤ x) (h1 : x ≤ 9223372036854775807) : wrap64 x = x := by
  unfold wrap64
  omega

theorem bytesLess_eq : ∀ (x y : List UInt8), Op.bytesLess x y = decide (x < y)
  | [], [] => by simp [Op.bytesLess]
  | _ :: _, [] => by simp [Op.bytesLess]
  | [], _ :: _ => by simp [Op.bytesLess]
  | a :: x, b :: y => by
    rw [Op.bytesLess, bytesLess_eq x y]
    simp only [List.cons_lt_cons_iff]
    by_cases h1 : a < b <;> by_cases h2 : a = b <;> by_cases h3 : x < y <;> simp [h1, h2, h3]

theorem less_iff (a b : List UInt8) : (Op.bytesLess a b = true) ↔ a < b := by rw [bytesLess_eq]; simp

/-- What a rd of a list of texts is. -/
theorem rdOf_get {α : Type} (d : α) {l : List α} {i : Nat} (h : i < l.length) : rdOf d l (i : Int) = l[i] := by
  unfold rdOf
  simp [h]

end Go.Proofs.Ytmocfgghccmdgaa.BytesLib

