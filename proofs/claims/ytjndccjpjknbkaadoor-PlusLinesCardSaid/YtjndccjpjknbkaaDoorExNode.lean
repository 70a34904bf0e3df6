/- slices.Clone at expr.Node, the parser's put and take. The conditions: the machine's sizes. -/
import Derived.Test.YtjndccjpjknbkaaDoorExLib
import Derived.Test.YtjndccjpjknbkaaDoorRowsLib
import Derived.Deep.LoopGhost
import Derived.Deep.RegionLaw
import Derived.Deep.AppendLies
namespace Go.Proofs.YtjndccjpjknbkaaDoor.ExNode
open Go Go.Proofs Go.RowKit Go.Proofs.YtjndccjpjknbkaaDoorW.PrintWords Go.Proofs.YtjndccjpjknbkaaDoor.ExLib Go.Proofs.YtjndccjpjknbkaaDoor.RowsLib
set_option linter.unusedVariables false
set_option linter.unusedSimpArgs false

/-- A node: its kind, its tag, the places of what it names. -/
structure Nd where
  kind : Int
  tag : ByteArray
  a : Int
  b : Int
deriving DecidableEq

/-- Its four cells. -/
def encN (x : Nd) : List Value := [.int .i64 x.kind, .string x.tag, .int .i64 x.a, .int .i64 x.b]
theorem encN_len (x : Nd) : (encN x).length = 4 := rfl
theorem encN_one (x : Nd) : ∀ u ∈ encN x, u.oneCell' = true := by
  intro u hu
  simp only [encN, List.mem_cons, List.not_mem_nil, or_false] at hu
  rcases hu with rfl | rfl | rfl | rfl <;> rfl
def cellsN (l : List Nd) : List Value := cellsL encN l

theorem infoN : (Tryd.prog.info? 52).map (fun i => (i.zero, i.size, i.bytes)) = some (some (.agg #[.int .i64 0, .string ⟨#[]⟩, .int .i64 0, .int .i64 0]), 4, 40) := by kernel_rfl

theorem own_later {w w1 : World} {base : Nat} {e : TypeId} {size n : Nat} {v : Value} {xs : List Value} (h : w.ownsRow base e size v n xs) (hb : Below w.heap.size w w1) : w1.ownsRow base e size v n xs :=
  own_move h fun k hk => hb.block k (h.lt k hk).2
theorem own_ge {w : World} {base : Nat} {e : TypeId} {size n : Nat} {v : Value} {xs : List Value} (h : w.ownsRow base e size v n xs) : ∀ k, v.ownBlock = some k → base ≤ k := fun k hk => (h.lt k hk).1

set_option maxRecDepth 100000 in
set_option maxHeartbeats 2000000 in
/-- slices.Clone. -/
theorem Clone_calls {α : Type} (d : Kd α) (hsz : d.sz = 4) (enc : α → Nd) (hK : ∀ {w x cs}, d.K w x cs → cs = encN (enc x)) (A : Option Addr) (c : Nat) (l : List α) (w : World) (hr : Kd.C d w A l.length l) (hl : l.length ≤ 3518437208880) :
    Calls Tryd.prog 34 #[.slice A l.length c] w
      fun e w' => ∃ v, e = .returned v ∧ w'.ownsRow w.heap.size 52 4 v l.length (cellsN (l.map enc)) ∧ Below w.heap.size w w' := by
  obtain ⟨i0, hi, hz0, hz1, hz2⟩ := info_parts infoN
  have hlc : cellsN (l.map enc) = cellsL (fun x => encN (enc x)) l := by
    unfold cellsN cellsL
    rw [List.flatMap_map]
  rw [hlc]
  cases A with
  | none =>
    have h0 : l = [] := by
      rcases Nat.eq_zero_or_pos l.length with h | h
      · exact List.length_eq_zero_iff.1 h
      · obtain ⟨z⟩ : Nonempty α := ⟨l[0]⟩
        obtain ⟨ad, cs, e, _⟩ := Kd.C_get hr z 0 (by omega) (by omega)
        cases e
    subst h0
    have he : ∀ W : World, (binOp .eql 22 (.slice none 0 c) (.slice none 0 0)).run Tryd.prog W = .ok (.bool true) W := fun _ => rfl
    go_enter Tryd.func34, Tryd.ntmps34
    go_wp2
    go_ret
    exact ⟨_, rfl, ⟨rfl, .inl ⟨rfl, rfl⟩⟩, Below.refl _ _⟩
  | some ad =>
    have hC := Aside0.mk (C_cells (f := fun x => encN (enc x)) (n := 4) (fun x => rfl) hsz (fun h => hK h) hr)
    clear hr
    have he : ∀ W : World, (binOp .eql 22 (.slice (some ad) l.length c) (.slice none 0 0)).run Tryd.prog W = .ok (.bool false) W := fun _ => rfl
    go_enter Tryd.func34, Tryd.ntmps34
    go_wp2_with (at_builtin; refine wpList_append_own _ rfl _ _ 22 rfl w.heap.size 52 i0 (.agg #[.int .i64 0, .string ⟨#[]⟩, .int .i64 0, .int .i64 0]) 4 40 Tryd.underlying22 hi hz0 hz1 hz2 rfl (by decide) _ 0 [] rfl ?c0 ad l.length c (cellsL (fun x => encN (enc x)) l) rfl (cellsL_len (n := 4) (fun x => rfl) l) ?c1 ?c2 ?c3 ?c4 ?c5 ?_)
    case c0 => exact ⟨rfl, .inr ⟨w.heap.size, 0, #[], rfl, Nat.le_refl _, by show (w.heap.push _)[w.heap.size]? = _; simp, Nat.le_refl _, by unfold maxLen; omega, rfl, rfl⟩⟩
    case c1 =>
      intro j u hu
      have h1 := hC.out j u hu
      exact ((Below.refl w.heap.size w).alloc (Nat.le_refl _) _).cell (World.block_lt_of_cell? w _ h1) |>.trans h1
    case c2 =>
      intro u hu
      obtain ⟨x, _, h⟩ := mem_cellsL hu
      exact encN_one _ u h
    case c3 => unfold maxLen; omega
    case c4 => omega
    case c5 => simp
    intro v1 w1 hown1 hgrow1 _
    have hb1 : Below w.heap.size w w1 := ((Below.refl w.heap.size w).alloc (Nat.le_refl _) _).grown hgrow1 (by simp) (fun k hk => by cases hk; exact Nat.le_refl _)
    clear hC hK
    go_wp2_with fail
    go_ret
    exact ⟨v1, rfl, hown1, hb1⟩

/-- A parser at block B: what is left of the text, the nodes so far, whether it is all right. -/
def PS (w : World) (B : Nat) (s : ByteArray) (l : List Nd) (ok : Bool) : Prop :=
  ∃ v, w.heap[B]? = some (.cells #[.string s, v, .bool ok] 73 (0, 0)) ∧ w.ownsRow (B + 1) 52 4 v l.length (cellsN l)

theorem PS.lt {w : World} {B : Nat} {s : ByteArray} {l : List Nd} {ok : Bool} (h : PS w B s l ok) : B < w.heap.size := by
  obtain ⟨v, h1, _⟩ := h
  exact (Array.getElem?_eq_some_iff.1 h1).1
theorem PS.later {w w1 : World} {B : Nat} {s : ByteArray} {l : List Nd} {ok : Bool} (h : PS w B s l ok) (hb : Below w.heap.size w w1) : PS w1 B s l ok := by
  have hlt := h.lt
  obtain ⟨v, h1, h2⟩ := h
  exact ⟨v, (hb.block B hlt).trans h1, own_later h2 hb⟩

theorem set_heap (w : World) (B k : Nat) (cs : Array Value) (T : TypeId) (x : Value) (h : w.heap[B]? = some (.cells cs T (0, 0))) : (w.setCell ⟨B, k, none⟩ x).heap[B]? = some (.cells (cs.setIfInBounds k x) T (0, 0)) := by
  simp [World.setCell, Array.getElem?_modify, h]
theorem own_set {w : World} {B k : Nat} {e : TypeId} {size n : Nat} {v : Value} {xs : List Value} (h : w.ownsRow (B + 1) e size v n xs) (x : Value) : (w.setCell ⟨B, k, none⟩ x).ownsRow (B + 1) e size v n xs :=
  own_move h fun j hj => Below.heap_setCell w ⟨B, k, none⟩ x j (by have := own_ge h j hj; show j ≠ B; omega)

/-- The parser's cells, and that they may be written. -/
theorem PS.cells {w : World} {B : Nat} {s : ByteArray} {l : List Nd} {ok : Bool} (h : PS w B s l ok) : ∃ v, w.cell? ⟨B, 0, none⟩ = some (.string s) ∧ w.cell? ⟨B, 1, none⟩ = some v ∧ w.cell? ⟨B, 2, none⟩ = some (.bool ok) ∧
    w.frozen? ⟨B, 0, none⟩ = false ∧ w.frozen? ⟨B, 1, none⟩ = false ∧ w.frozen? ⟨B, 2, none⟩ = false ∧ w.ownsRow (B + 1) 52 4 v l.length (cellsN l) := by
  obtain ⟨v, h1, h2⟩ := h
  exact ⟨v, by simp [World.cell?, h1], by simp [World.cell?, h1], by simp [World.cell?, h1], by simp [World.frozen?, h1], by simp [World.frozen?, h1], by simp [World.frozen?, h1], h2⟩
theorem PS.set0 {w : World} {B : Nat} {s : ByteArray} {l : List Nd} {ok : Bool} (h : PS w B s l ok) (s' : ByteArray) : PS (w.setCell ⟨B, 0, none⟩ (.string s')) B s' l ok := by
  obtain ⟨v, h1, h2⟩ := h
  exact ⟨v, by rw [set_heap w B 0 _ _ _ h1]; rfl, own_set h2 _⟩
theorem PS.set2 {w : World} {B : Nat} {s : ByteArray} {l : List Nd} {ok : Bool} (h : PS w B s l ok) (ok' : Bool) : PS (w.setCell ⟨B, 2, none⟩ (.bool ok')) B s l ok' := by
  obtain ⟨v, h1, h2⟩ := h
  exact ⟨v, by rw [set_heap w B 2 _ _ _ h1]; rfl, own_set h2 _⟩
theorem PS.set1 {w : World} {B : Nat} {s : ByteArray} {l l' : List Nd} {ok : Bool} {v : Value} (h : PS w B s l ok) (h' : w.ownsRow (B + 1) 52 4 v l'.length (cellsN l')) : PS (w.setCell ⟨B, 1, none⟩ v) B s l' ok := by
  obtain ⟨v0, h1, h2⟩ := h
  exact ⟨v, by rw [set_heap w B 1 _ _ _ h1]; rfl, own_set h' _⟩

/-- Blanks. -/
def bl : ByteArray := ⟨#[32, 9]⟩
def takeB (s t : ByteArray) : Bool := hasP (trimL s bl) t
def takeS (s t : ByteArray) : ByteArray := cutP (trimL s bl) t

theorem cutP_no {s t : ByteArray} (h : hasP s t = false) : cutP s t = s := by
  unfold cutP Lib.trimPrefix
  unfold hasP at h
  rw [h]
  simp

set_option maxRecDepth 100000 in
set_option maxHeartbeats 2000000 in
theorem take_core (B : Nat) (s t D S : ByteArray) (is : Bool) (l : List Nd) (ok : Bool) (w : World) (h : PS w B s l ok)
    (hT : Calls Tryd.prog 66 #[.string s, .string ⟨#[32, 9]⟩] w fun e w' => e = .returned (.string D) ∧ Below w.heap.size w w')
    (hC : ∀ w, Calls Tryd.prog 67 #[.string D, .string t] w fun e w' => e = .returned (.tuple #[.string S, .bool is]) ∧ w' = w) (hno : is = false → S = D) :
    Calls Tryd.prog 43 #[.pointer (some ⟨B, 0, none⟩), .string t] w fun e w' => e = .returned (.bool is) ∧ PS w' B S l ok ∧ Below B w w' := by
  obtain ⟨v, c0, c1, c2, f0, f1, f2, ho⟩ := h.cells
  have hlt := h.lt
  have HT := Aside0.mk hT
  have HC := Aside0.mk hC
  have H := Aside0.mk h
  clear h ho c1 c2 f1 f2 hT hC
  go_enter Tryd.func43, Tryd.ntmps43
  go_wp2_with fail
  refine HT.out.mono ?_
  rintro e w1 ⟨rfl, hb⟩
  have h1 := H.out.later hb
  obtain ⟨v1, d0, -, -, g0, -, -, -⟩ := h1.cells
  have h2 := h1.set0 D
  obtain ⟨v2, e0, -, -, m0, -, -, -⟩ := h2.cells
  have h3 := h2.set0 S
  have hb1 : Below B w (w1.setCell ⟨B, 0, none⟩ (.string D)) := ((Below.refl B w).trans (hb.mono (Nat.le_of_lt hlt))).setCell (p := ⟨B, 0, none⟩) (Nat.le_refl _) (.string D)
  have HB1 := Aside0.mk hb1
  have HB2 := Aside0.mk (hb1.setCell (p := ⟨B, 0, none⟩) (Nat.le_refl _) (.string S))
  have H2 := Aside0.mk h2
  have H3 := Aside0.mk h3
  clear h1 h2 h3 hb hb1 c0 f0 HT H
  go_wp2_with fail
  refine (HC.out _).mono ?_
  rintro e w2 ⟨rfl, rfl⟩
  cases is with
  | true =>
    go_wp2_with fail
    go_ret
    exact ⟨rfl, H3.out, HB2.out⟩
  | false =>
    obtain rfl := hno rfl
    go_wp2_with fail
    go_ret
    exact ⟨rfl, H2.out, HB1.out⟩
/-- take a sign, if it is next. -/
theorem take_calls (B : Nat) (s t : ByteArray) (l : List Nd) (ok : Bool) (w : World) (h : PS w B s l ok) :
    Calls Tryd.prog 43 #[.pointer (some ⟨B, 0, none⟩), .string t] w fun e w' => e = .returned (.bool (takeB s t)) ∧ PS w' B (takeS s t) l ok ∧ Below B w w' :=
  take_core B s t (trimL s bl) (takeS s t) (takeB s t) l ok w h (trimL_calls s bl w (by decide) (by
    intro j b hb
    match j, hb with
    | 0, hb => cases hb; decide
    | 1, hb => cases hb; decide)) (fun w => cutP_calls (trimL s bl) t w) (fun hh => cutP_no hh)


theorem box_grown {W w1 : World} {B : Nat} {cs : Array Value} {T e : TypeId} {size n : Nat} {o : Obj} {v : Value} {xs : List Value} (hB : W.heap[B]? = some (.cells cs T (0, 0))) (ho : W.ownsRow (B + 1) e size v n xs) (hg : (W.drew.alloc o).grownBy w1 v.ownBlock) :
    w1.heap[B]? = some (.cells cs T (0, 0)) := by
  have hlt : B < W.heap.size := (Array.getElem?_eq_some_iff.1 hB).1
  rw [hg.block B (by simp; omega) (fun e => by have := own_ge ho B e.symm; omega)]
  exact (Below.heap_alloc W.drew o B hlt).trans hB

set_option maxRecDepth 100000 in
set_option maxHeartbeats 2000000 in
/-- put a node: its place. -/
theorem put_calls (B : Nat) (s : ByteArray) (l : List Nd) (ok : Bool) (n : Nd) (w : World) (h : PS w B s l ok) (hl : l.length ≤ 3518437208000) :
    Calls Tryd.prog 75 #[.pointer (some ⟨B, 0, none⟩), .agg #[.int .i64 n.kind, .string n.tag, .int .i64 n.a, .int .i64 n.b]] w
      fun e w' => e = .returned (.int .i64 l.length) ∧ PS w' B s (l ++ [n]) (ok && decide (l.length + 1 ≤ 60)) ∧ Below B w w' := by
  obtain ⟨i0, hi, hz0, hz1, hz2⟩ := info_parts infoN
  have hlt := h.lt
  have H := Aside0.mk (h.later ((Below.refl w.heap.size w).alloc (Nat.le_refl _) (.cells #[.int .i64 n.kind, .string n.tag, .int .i64 n.a, .int .i64 n.b] 52)))
  have HB0 := Aside0.mk ((Below.refl B w).alloc (Nat.le_of_lt hlt) (.cells #[.int .i64 n.kind, .string n.tag, .int .i64 n.a, .int .i64 n.b] 52))
  clear h
  go_enter Tryd.func75, Tryd.ntmps75
  go_wp2_with fail
  obtain ⟨W, hW⟩ : ∃ W, w.alloc (.cells #[.int .i64 n.kind, .string n.tag, .int .i64 n.a, .int .i64 n.b] 52) = W := ⟨_, rfl⟩
  have n0 : W.cell? ⟨w.heap.size, 0, none⟩ = some (.int .i64 n.kind) := by rw [← hW]; simp [go_sem]
  have n1 : W.cell? ⟨w.heap.size, 1, none⟩ = some (.string n.tag) := by rw [← hW]; simp [go_sem]
  have n2 : W.cell? ⟨w.heap.size, 2, none⟩ = some (.int .i64 n.a) := by rw [← hW]; simp [go_sem]
  have n3 : W.cell? ⟨w.heap.size, 3, none⟩ = some (.int .i64 n.b) := by rw [← hW]; simp [go_sem]
  rw [hW] at H HB0 ⊢
  clear hW
  obtain ⟨v, hbx, ho⟩ := H.out
  have c1 : W.cell? ⟨B, 1, none⟩ = some v := by simp [World.cell?, hbx]
  have HBX := Aside0.mk hbx
  have HO := Aside0.mk ho
  have hltW := H.out.lt
  clear ho hbx
  go_region_law (first
    | (refine step_append_lies _ (by rfl) _ _ _ (by rfl) (B + 1) 52 i0 _ 4 40 Tryd.underlying22 hi hz0 hz1 hz2 rfl (by omega) v l.length (cellsN l) (by rfl) ((own_later HO.out (Below.refl _ _).drew).alloc _)
        ⟨W.heap.size, 0, none⟩ 1 1 [.int .i64 n.kind, .string n.tag, .int .i64 n.a, .int .i64 n.b] (by rfl) (by rfl) (World.news_of_block (cs := #[.int .i64 n.kind, .string n.tag, .int .i64 n.a, .int .i64 n.b]) (t := 52) (fr := (0, 0)) (heap_alloc_new W.drew _)) (by simp [Value.oneCell'])
        (by omega) (by unfold maxLen; omega) (by omega) (by simp; omega) (W.heap.size + 1) (by simp) ?_; intro gg cap w1 hown1 hgrow hat hlt2
       have hbx1 := box_grown HBX.out HO.out hgrow
       have k1 : w1.cell? ⟨B, 1, none⟩ = some v := by simp [World.cell?, hbx1]
       have k2 : w1.frozen? ⟨B, 1, none⟩ = false := by simp [World.frozen?, hbx1]
       have HBX1 := Aside0.mk hbx1
       clear hbx1))
  all_goals (
    have hown2 : w1.ownsRow (B + 1) 52 4 (.slice (some ⟨gg, 0, none⟩) (l.length + 1) cap) (l ++ [n]).length (cellsN (l ++ [n])) := by
      rw [List.length_append]
      unfold cellsN
      rw [cellsL_app, cellsL_one]
      exact hown1
    have hp1 : PS (w1.setCell ⟨B, 1, none⟩ (.slice (some ⟨gg, 0, none⟩) (l.length + 1) cap)) B s (l ++ [n]) ok := ⟨_, by rw [set_heap w1 B 1 _ _ _ HBX1.out]; rfl, own_set hown2 _⟩
    have hb1 : Below B w (w1.setCell ⟨B, 1, none⟩ (.slice (some ⟨gg, 0, none⟩) (l.length + 1) cap)) :=
      (((HB0.out.drew.alloc (by simp; omega) _).grown hgrow (by simp; omega) (fun k hk => by have := own_ge HO.out k hk; omega)).setCell (p := ⟨B, 1, none⟩) (Nat.le_refl _) _)
    have hp2 := hp1.set2 (ok && decide (l.length + 1 ≤ 60))
    have hb2 := hb1.setCell (p := ⟨B, 2, none⟩) (Nat.le_refl _) (.bool (ok && decide (l.length + 1 ≤ 60)))
    obtain ⟨v3, d0, d1, d2, -, -, g2, -⟩ := hp1.cells
    have d1' : (w1.setCell ⟨B, 1, none⟩ (.slice (some ⟨gg, 0, none⟩) (l.length + 1) cap)).cell? ⟨B, 1, none⟩ = some (.slice (some ⟨gg, 0, none⟩) (l.length + 1) cap) := World.cell?_setCell_same' _ _ _ (by rw [k1]; rfl)
    have HP2 := Aside0.mk hp2
    have HB2 := Aside0.mk hb2
    obtain ⟨W2, hW2⟩ : ∃ W2, w1.setCell ⟨B, 1, none⟩ (.slice (some ⟨gg, 0, none⟩) (l.length + 1) cap) = W2 := ⟨_, rfl⟩
    rw [hW2] at d0 d1' d2 g2 HP2 HB2 ⊢
    clear hp1 hb1 hp2 hb2 hown1 hown2 hgrow HBX1 hW2 d1 k1 k2 hat hlt2 HBX HO HB0 c1 n0 n1 n2 n3
    cases ok)
  all_goals go_wp2_with fail
  all_goals go_ret
  all_goals (
    have e60 : decide ((l.length : Int) + 1 ≤ 60) = decide (l.length + 1 ≤ 60) := by
      by_cases h60 : l.length + 1 ≤ 60
      · rw [decide_eq_true h60, decide_eq_true (by omega)]
      · rw [decide_eq_false h60, decide_eq_false (by omega)]
    first
      | exact ⟨rfl, HP2.out, HB2.out⟩
      | (rw [e60]; exact ⟨rfl, HP2.out, HB2.out⟩))
end Go.Proofs.YtjndccjpjknbkaaDoor.ExNode
