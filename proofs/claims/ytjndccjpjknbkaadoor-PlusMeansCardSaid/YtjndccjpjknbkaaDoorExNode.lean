/- slices.Clone at expr.Node, the parser's put and take. The conditions: the machine's sizes. -/
import Derived.Test.YtjndccjpjknbkaaDoorExLib
import Derived.Test.YtjndccjpjknbkaaDoorRowsLib
import Derived.Deep.LoopGhost
import Derived.Deep.RegionLaw
import Derived.Deep.AppendLies
namespace Go.Proofs.YtjndccjpjknbkaaDoor.ExNode
open Go Go.Proofs Go.RowKit Go.Proofs.YtjndccjpjknbkaaDoorW.PrintWords Go.Proofs.YtjndccjpjknbkaaDoor.ExLib Go.Proofs.YtjndccjpjknbkaaDoor.RowsLib
set_option linter.unusedVariables false
set_option linter.unusedSimpArgs false

/-- A node: its kind, its tag, the places of what it names. -/
structure Nd where
  kind : Int
  tag : ByteArray
  a : Int
  b : Int
deriving DecidableEq

/-- Its four cells. -/
def encN (x : Nd) : List Value := [.int .i64 x.kind, .string x.tag, .int .i64 x.a, .int .i64 x.b]
theorem encN_one (x : Nd) : ∀ u ∈ encN x, u.oneCell' = true := by
  intro u hu
  simp only [encN, List.mem_cons, List.not_mem_nil, or_false] at hu
  rcases hu with rfl | rfl | rfl | rfl <;> rfl
def cellsN (l : List Nd) : List Value := cellsL encN l

theorem infoN : (Tryd.prog.info? 52).map (fun i => (i.zero, i.size, i.bytes)) = some (some (.agg #[.int .i64 0, .string ⟨#[]⟩, .int .i64 0, .int .i64 0]), 4, 40) := by kernel_rfl

theorem own_later {w w1 : World} {base : Nat} {e : TypeId} {size n : Nat} {v : Value} {xs : List Value} (h : w.ownsRow base e size v n xs) (hb : Below w.heap.size w w1) : w1.ownsRow base e size v n xs :=
  own_move h fun k hk => hb.block k (h.lt k hk).2
theorem own_ge {w : World} {base : Nat} {e : TypeId} {size n : Nat} {v : Value} {xs : List Value} (h : w.ownsRow base e size v n xs) : ∀ k, v.ownBlock = some k → base ≤ k := fun k hk => (h.lt k hk).1

set_option maxRecDepth 100000 in
set_option maxHeartbeats 2000000 in
/-- slices.Clone. -/
theorem Clone_calls {α : Type} (d : Kd α) (hsz : d.sz = 4) (enc : α → Nd) (hK : ∀ {w x cs}, d.K w x cs → cs = encN (enc x)) (A : Option Addr) (c : Nat) (l : List α) (w : World) (hr : Kd.C d w A l.length l) (hl : l.length ≤ 3518437208880) :
    Calls Tryd.prog 34 #[.slice A l.length c] w
      fun e w' => ∃ v, e = .returned v ∧ w'.ownsRow w.heap.size 52 4 v l.length (cellsN (l.map enc)) ∧ Below w.heap.size w w' := by
  obtain ⟨i0, hi, hz0, hz1, hz2⟩ := info_parts infoN
  have hlc : cellsN (l.map enc) = cellsL (fun x => encN (enc x)) l := by
    unfold cellsN cellsL
    rw [List.flatMap_map]
  rw [hlc]
  cases A with
  | none =>
    have h0 : l = [] := by
      rcases Nat.eq_zero_or_pos l.length with h | h
      · exact List.length_eq_zero_iff.1 h
      · obtain ⟨z⟩ : Nonempty α := ⟨l[0]⟩
        obtain ⟨ad, cs, e, _⟩ := Kd.C_get hr z 0 (by omega) (by omega)
        cases e
    subst h0
    have he : ∀ W : World, (binOp .eql 22 (.slice none 0 c) (.slice none 0 0)).run Tryd.prog W = .ok (.bool true) W := fun _ => rfl
    go_enter Tryd.func34, Tryd.ntmps34
    go_wp2
    go_ret
    exact ⟨_, rfl, ⟨rfl, .inl ⟨rfl, rfl⟩⟩, Below.refl _ _⟩
  | some ad =>
    have hC := Aside0.mk (C_cells (f := fun x => encN (enc x)) (n := 4) (fun x => rfl) hsz (fun h => hK h) hr)
    clear hr
    have he : ∀ W : World, (binOp .eql 22 (.slice (some ad) l.length c) (.slice none 0 0)).run Tryd.prog W = .ok (.bool false) W := fun _ => rfl
    go_enter Tryd.func34, Tryd.ntmps34
    go_wp2_with (at_builtin; refine wpList_append_own _ rfl _ _ 22 rfl w.heap.size 52 i0 (.agg #[.int .i64 0, .string ⟨#[]⟩, .int .i64 0, .int .i64 0]) 4 40 Tryd.underlying22 hi hz0 hz1 hz2 rfl (by decide) _ 0 [] rfl ?c0 ad l.length c (cellsL (fun x => encN (enc x)) l) rfl (cellsL_len (n := 4) (fun x => rfl) l) ?c1 ?c2 ?c3 ?c4 ?c5 ?_)
    case c0 => exact ⟨rfl, .inr ⟨w.heap.size, 0, #[], rfl, Nat.le_refl _, by show (w.heap.push _)[w.heap.size]? = _; simp, Nat.le_refl _, by unfold maxLen; omega, rfl, rfl⟩⟩
    case c1 =>
      intro j u hu
      have h1 := hC.out j u hu
      exact ((Below.refl w.heap.size w).alloc (Nat.le_refl _) _).cell (World.block_lt_of_cell? w _ h1) |>.trans h1
    case c2 =>
      intro u hu
      obtain ⟨x, _, h⟩ := mem_cellsL hu
      exact encN_one _ u h
    case c3 => unfold maxLen; omega
    case c4 => omega
    case c5 => simp
    intro v1 w1 hown1 hgrow1 _
    have hb1 : Below w.heap.size w w1 := ((Below.refl w.heap.size w).alloc (Nat.le_refl _) _).grown hgrow1 (by simp) (fun k hk => by cases hk; exact Nat.le_refl _)
    clear hC hK
    go_wp2_with fail
    go_ret
    exact ⟨v1, rfl, hown1, hb1⟩

/-- A parser at block B: what is left of the text, the nodes so far, whether it is all right. -/
def PS (w : World) (B : Nat) (s : ByteArray) (l : List Nd) (ok : Bool) : Prop :=
  ∃ v, w.heap[B]? = some (.cells #[.string s, v, .bool ok] 73 (0, 0)) ∧ w.ownsRow (B + 1) 52 4 v l.length (cellsN l)

theorem PS.lt {w : World} {B : Nat} {s : ByteArray} {l : List Nd} {ok : Bool} (h : PS w B s l ok) : B < w.heap.size := by
  obtain ⟨v, h1, _⟩ := h
  exact (Array.getElem?_eq_some_iff.1 h1).1
theorem PS.later {w w1 : World} {B : Nat} {s : ByteArray} {l : List Nd} {ok : Bool} (h : PS w B s l ok) (hb : Below w.heap.size w w1) : PS w1 B s l ok := by
  have hlt := h.lt
  obtain ⟨v, h1, h2⟩ := h
  exact ⟨v, (hb.block B hlt).trans h1, own_later h2 hb⟩

theorem set_heap (w : World) (B k : Nat) (cs : Array Value) (T : TypeId) (x : Value) (h : w.heap[B]? = some (.cells cs T (0, 0))) : (w.setCell ⟨B, k, none⟩ x).heap[B]? = some (.cells (cs.setIfInBounds k x) T (0, 0)) := by
  simp [World.setCell, Array.getElem?_modify, h]
/-- The parser's cells, and that they may be written. -/
theorem PS.cells {w : World} {B : Nat} {s : ByteArray} {l : List Nd} {ok : Bool} (h : PS w B s l ok) : ∃ v, w.cell? ⟨B, 0, none⟩ = some (.string s) ∧ w.cell? ⟨B, 1, none⟩ = some v ∧ w.cell? ⟨B, 2, none⟩ = some (.bool ok) ∧
    w.frozen? ⟨B, 0, none⟩ = false ∧ w.frozen? ⟨B, 1, none⟩ = false ∧ w.frozen? ⟨B, 2, none⟩ = false ∧ w.ownsRow (B + 1) 52 4 v l.length (cellsN l) := by
  obtain ⟨v, h1, h2⟩ := h
  exact ⟨v, by simp [World.cell?, h1], by simp [World.cell?, h1], by simp [World.cell?, h1], by simp [World.frozen?, h1], by simp [World.frozen?, h1], by simp [World.frozen?, h1], h2⟩
/-- Blanks. -/
def bl : ByteArray := ⟨#[32, 9]⟩
theorem cutP_no {s t : ByteArray} (h : hasP s t = false) : cutP s t = s := by
  unfold cutP Lib.trimPrefix
  unfold hasP at h
  rw [h]
  simp

end Go.Proofs.YtjndccjpjknbkaaDoor.ExNode

