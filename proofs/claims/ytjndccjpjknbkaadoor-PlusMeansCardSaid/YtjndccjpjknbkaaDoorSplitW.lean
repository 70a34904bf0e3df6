/- strings.Split at a sign of one byte: no premise on the world. -/
import Derived.Test.YtjndccjpjknbkaaDoorShelf
import Derived.Test.YtjndccjpjknbkaaDoorSplLay
import Derived.Test.YtjndccjpjknbkaaDoorWWords
import Derived.Shelf.Strings.SplitCore
import Derived.Lib.SplitLaws
import Derived.WalkKit
import Derived.BigCall
namespace Go.Proofs.YtjndccjpjknbkaaDoor.SplitW
open Go.Shelf Go.RowKit Go.Lib Go.Proofs.YtjndccjpjknbkaaDoorW.PrintWords
set_option linter.unusedVariables false

def one (c : UInt8) : ByteArray := ⟨#[c]⟩
theorem count_c (s : ByteArray) (c : UInt8) (w : World) : Calls Tryd.prog 91 #[.string s, .string (one c)] w fun e w' => e = .returned (.int .i64 (Lib.countB s (one c))) ∧ w' = w := by
  refine (Tryd.strings_Count_one s c w).mono fun e w' ⟨he, hw⟩ => ⟨?_, hw⟩
  rw [he]
  show _ = Ending.returned (Value.int .i64 ((Lib.count s.data.toList [c] : Nat) : Int))
  rw [Lib.count_one]
  rfl
theorem index_c (s : ByteArray) (c : UInt8) (w : World) : Calls Tryd.prog 92 #[.string s, .string (one c)] w fun e w' => e = .returned (.int .i64 (Lib.indexB s (one c))) ∧ w' = w := by
  refine (Tryd.strings_Index_one s c w).mono fun e w' ⟨he, hw⟩ => ⟨?_, hw⟩
  rw [he]
  show _ = Ending.returned (Value.int .i64 (Lib.index s.data.toList [c]))
  rw [Lib.index_one]

theorem gen_c (s : ByteArray) (c : UInt8) (w : World) (hs : s.size < 4294967281) :
    Calls Tryd.prog 82 #[.string s, .string (one c), .int .i64 0, .int .i64 (-1)] w fun e w' =>
      e = .returned (.slice (some ⟨w.heap.size, 0, none⟩) (Lib.splitB (one c) 0 (Lib.countB s (one c)) s).length (Lib.countB s (one c) + 1)) ∧ w' = w.alloc (.cells (Lib.cellsOf (Lib.splitB (one c) 0 (Lib.countB s (one c)) s) (Lib.countB s (one c) + 1)) 9) :=
  Any.strings_genSplit_core Tryd.lays221 (by kernel_rfl) s (one c) 0 (-1) (Lib.countB s (one c) + 1) w hs (Nat.le_refl 1) (Nat.zero_le _)
    (fun x cs hx => index_c x c _) (count_c s c w) (by decide) (by decide)
    (by
      have := Lib.countB_le (one c) (Nat.le_refl 1) s.size s (Nat.le_refl _)
      rw [if_pos (by decide)]; omega)

/-- What Split comes to. -/
def splitF (s : ByteArray) (c : UInt8) : List ByteArray := Lib.splitB (one c) 0 (Lib.countB s (one c)) s
theorem splitF_len (s : ByteArray) (c : UInt8) : (splitF s c).length = Lib.countB s (one c) + 1 := Lib.splitB_all (one c) (Nat.le_refl 1) 0 _ s rfl

theorem row_of (w : World) (xs : List ByteArray) (n : Nat) (hn : xs.length = n) (hm : n ≤ 9223372036854775807) :
    Kd.string.R 9 (w.alloc (.cells (xs.map Value.string).toArray 9)) w.heap.size (fun _ => True) (.slice (some ⟨w.heap.size, 0, none⟩) n n) xs := by
  subst hn
  refine ⟨fun _ _ => trivial, xs.map Value.string, ⟨by simp [Kd.string, Kd.scalar], .inr ⟨w.heap.size, xs.length, (xs.map Value.string).toArray, rfl, Nat.le_refl _, ?_, Nat.le_refl _, hm, by simp [Kd.string, Kd.scalar], by show ((xs.map Value.string).toArray).toList.take (xs.length * 1) = _; rw [Nat.mul_one]; exact List.take_of_length_le (by simp)⟩⟩, ?_⟩
  · show (w.heap.push _)[w.heap.size]? = _
    simp
  · refine ⟨by simp [Kd.string, Kd.scalar], fun j p hj => ?_⟩
    obtain ⟨hj1, hj2⟩ := List.getElem?_eq_some_iff.1 hj
    show ((xs.map Value.string).drop (j * 1)).take 1 = [Value.string p]
    rw [Nat.mul_one, List.drop_eq_getElem_cons (by simpa using hj1)]
    simp [hj2]

set_option maxRecDepth 100000 in
set_option maxHeartbeats 1000000 in
theorem Split_calls (s : ByteArray) (c : UInt8) (w : World) (hs : s.size < 4294967281) :
    Calls Tryd.prog 69 #[.string s, .string (one c)] w fun e w' =>
      ∃ v, e = .returned v ∧ Kd.string.R 9 w' w.heap.size (fun _ => True) v (splitF s c) ∧ Below w.heap.size w w' := by
  have HG := Aside0.mk (gen_c s c w hs)
  have hlen := splitF_len s c
  have hle := Lib.countB_le (one c) (Nat.le_refl 1) s.size s (Nat.le_refl _)
  have HR := Aside0.mk (row_of w (splitF s c) (Lib.countB s (one c) + 1) hlen (by omega))
  have HC := Aside0.mk (show Lib.cellsOf (Lib.splitB (one c) 0 (Lib.countB s (one c)) s) (Lib.countB s (one c) + 1) = ((splitF s c).map Value.string).toArray from by rw [← hlen]; exact Lib.cellsOf_full _)
  have HL := Aside0.mk hlen
  clear hlen hle
  go_enter Tryd.func69, Tryd.ntmps69
  go_wp2_with fail
  refine HG.out.mono ?_
  rintro e w' ⟨rfl, hw⟩
  rw [HC.out] at hw
  have hl : (Lib.splitB (one c) 0 (Lib.countB s (one c)) s).length = Lib.countB s (one c) + 1 := HL.out
  have HR2 := Aside0.mk (show Kd.string.R 9 w' w.heap.size (fun _ => True) (.slice (some ⟨w.heap.size, 0, none⟩) (Lib.splitB (one c) 0 (Lib.countB s (one c)) s).length (Lib.countB s (one c) + 1)) (splitF s c) from by rw [hw, hl]; exact HR.out)
  have HB := Aside0.mk (show Below w.heap.size w w' from by rw [hw]; exact below_alloc (Below.refl _ _) _)
  clear hw hl
  go_wp2_with fail
  go_ret
  exact ⟨_, rfl, HR2.out, HB.out⟩

end Go.Proofs.YtjndccjpjknbkaaDoor.SplitW
