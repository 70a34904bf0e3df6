/- The library's table of the powers of ten, as the program's text lays it: it stays, whatever is laid behind the heap; strconv.Itoa over it. -/
import Derived.Test.YtaddonafdllciaaDoorSemParts
import Derived.WalkSmall
namespace Go.Proofs.YtaddonafdllciaaDoor.SemTab
open Go.RowKit Go.Shelf Go.Sort Go.Proofs.YtaddonafdllciaaDoor.Iter Go.Proofs.YtaddonafdllciaaDoor.BytesLib Go.Proofs.YtaddonafdllciaaDoor.SemParts Go.Proofs.YtaddonafdllciaaDoorW.PrintWords
set_option linter.unusedVariables false

/-- The table is there. -/
def Tab (w : World) : Prop := Lib.TabIs Tryd.prog w "internal/strconv.uint64pow10" .u64 Lib.pow10Tab

theorem tab_below {w W : World} (hb : Below w.heap.size w W) (h : Tab w) : Tab W := by
  unfold Tab Lib.TabIs at *
  cases hg : Tryd.prog.globalNamed "internal/strconv.uint64pow10" with
  | none => simp [World.var?, hg] at h
  | some g =>
    refine var?_below hb hg ?_ h
    by_cases hlt : g < w.heap.size
    · exact hlt
    · simp [World.var?, hg, Array.getElem?_eq_none (Nat.le_of_not_lt hlt)] at h
theorem tab_later {w W : World} (hb : Below w.heap.size w W) (h : Aside0 (Tab w)) : Aside0 (Tab W) := ⟨tab_below hb h.out⟩

theorem below_grow0 (w : World) (os : Array Obj) : Below w.heap.size w (grow w os) :=
  ⟨rfl, rfl, rfl, by simp [grow], fun k hk => by simp [grow, Array.getElem?_append_left hk]⟩
theorem below_grow (w : World) (k : Nat) (os : Array Obj) : Below w.heap.size w (grow (w.drewN k) os) :=
  below_step (pw_below_drewN (Below.refl _ _) k) (below_grow0 (w.drewN k) os)

theorem Itoa_calls (n : Int) (h0 : -9223372036854775808 ≤ n) (h1 : n ≤ 9223372036854775807) (w : World) (ht : Tab w) :
    Calls Tryd.prog 41 #[.int .i64 n] w fun e w' => e = .returned (.string ⟨(Lib.itoa n).toArray⟩) ∧ Below w.heap.size w w' := by
  refine (Tryd.strconv_Itoa n h0 h1 w ht).mono ?_
  rintro e w' ⟨rfl, k, os, rfl⟩
  exact ⟨rfl, below_grow w k os⟩

end Go.Proofs.YtaddonafdllciaaDoor.SemTab
