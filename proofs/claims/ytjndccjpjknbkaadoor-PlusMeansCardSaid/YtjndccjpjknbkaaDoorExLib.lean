/- slices.Max, slices.Contains, strings.TrimLeft, strings.CutPrefix, slices.Clone in the print's words. The conditions: the machine's sizes. -/
import Derived.Test.YtjndccjpjknbkaaDoorShelf
import Derived.Test.YtjndccjpjknbkaaDoorWWords
import Derived.Shelf.Strings.SlTrimAscii
import Derived.Lib.OwnBridge
import Derived.OwnWalk
import Derived.WalkKit
import Derived.KernelRfl
namespace Go.Proofs.YtjndccjpjknbkaaDoor.ExLib
open Go Go.Proofs Go.Shelf Go.RowKit Go.Lib Go.Proofs.YtjndccjpjknbkaaDoorW.PrintWords
set_option linter.unusedVariables false

theorem addr_of {w : World} {a : Addr} {v : Value} (h : w.cell? a = some v) : ∃ b off, a = ⟨b, off, none⟩ := by
  obtain ⟨b, off, sp⟩ := a
  cases sp with
  | none => exact ⟨b, off, rfl⟩
  | some x =>
    unfold World.cell? at h
    split at h
    · simp at h
    · simp at h
theorem add_plain (b off j : Nat) : (⟨b, off, none⟩ : Addr).add j = ⟨b, off + j, none⟩ := by
  unfold Addr.add
  split
  · rename_i h; subst h; rfl
  · rfl

theorem strs_of {w : World} {A : Option Addr} {l : List ByteArray} (h : Kd.C Kd.string w A l.length l) (hn : 0 < l.length) : ∃ b off, A = some ⟨b, off, none⟩ ∧ ∀ j, j < l.length → w.cell? ⟨b, off + j, none⟩ = some (.string (l.getD j ByteArray.empty)) := by
  obtain ⟨ad, rfl, hc⟩ := Kd.at_string h 0 (by omega) (by omega)
  have h0 : w.cell? ad = some (.string (rdOf ByteArray.empty l 0)) := hc
  obtain ⟨b, off, rfl⟩ := addr_of h0
  refine ⟨b, off, rfl, fun j hj => ?_⟩
  obtain ⟨ad2, e, hc2⟩ := Kd.at_string h (j : Int) (by omega) (by omega)
  obtain rfl := Option.some.inj e
  rw [Int.toNat_natCast, add_plain] at hc2
  rw [hc2]
  unfold rdOf
  simp

theorem contains_calls {w : World} {A : Option Addr} {c : Nat} {l : List ByteArray} (h : Kd.C Kd.string w A l.length l) (x : ByteArray) :
    Calls Tryd.prog 40 #[.slice A l.length c, .string x] w fun e w' => e = .returned (.bool (Lib.containsS l x)) ∧ Drawn0 w w' := by
  rcases Nat.eq_zero_or_pos l.length with h0 | h0
  · have : l = [] := List.length_eq_zero_iff.1 h0
    subst this
    refine (Tryd.slices_Contains_string_empty A c x w).mono fun e w' ⟨h1, h2⟩ => ⟨h1, by rw [h2]; exact Drawn0.refl _⟩
  · obtain ⟨b, off, rfl, hc⟩ := strs_of h h0
    have := Tryd.slices_Contains_string b off l.length c l x w (Nat.le_refl _) (Kd.C_max h) hc
    rw [List.take_length] at this
    exact this.mono fun e w' ⟨h1, h2⟩ => ⟨h1, by rw [h2]; exact Drawn0.refl _⟩

def cutP (s t : ByteArray) : ByteArray := ⟨(Lib.trimPrefix s.data.toList t.data.toList).toArray⟩
def hasP (s t : ByteArray) : Bool := Lib.hasPrefix s.data.toList t.data.toList
theorem cutP_calls (s t : ByteArray) (w : World) : Calls Tryd.prog 67 #[.string s, .string t] w fun e w' => e = .returned (.tuple #[.string (cutP s t), .bool (hasP s t)]) ∧ w' = w :=
  Tryd.strings_CutPrefix s t w

end Go.Proofs.YtjndccjpjknbkaaDoor.ExLib

