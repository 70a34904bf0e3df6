/- The order of identifiers, and of rows of them: the walks. -/
import Derived.Test.YtaddonafdllciaaDoorSemParse
import Derived.Test.YtaddonafdllciaaDoorMba
namespace Go.Proofs.YtaddonafdllciaaDoor.SemOrder
open Go.RowKit Go.Shelf Go.Proofs.YtaddonafdllciaaDoor.Iter Go.Proofs.YtaddonafdllciaaDoor.BytesLib Go.Proofs.YtaddonafdllciaaDoor.SemParts Go.Proofs.YtaddonafdllciaaDoor.SemNum Go.Proofs.YtaddonafdllciaaDoor.SemParse Go.Proofs.YtaddonafdllciaaDoorW.PrintWords
set_option linter.unusedVariables false
set_option linter.unusedSimpArgs false
attribute [local go_sem] Oper.semAt_some

def cmpI (a b : Int) : Int := if a < b then -1 else if a > b then 1 else 0
def cmpS (a b : ByteArray) : Int := if Op.bytesLess a.toList b.toList = true then -1 else if Op.bytesLess b.toList a.toList = true then 1 else 0
def orI (a b : Int) : Int := if a = 0 then b else a
/-- The order of two identifiers. -/
def orderF (a b : ByteArray) : Int :=
  if everyB digB a = true ∧ everyB digB b = true then orI (cmpI a.size b.size) (cmpS a b)
  else if everyB digB a = true then -1 else if everyB digB b = true then 1 else cmpS a b

theorem cmpI_calls (a b : Int) (w : World) : Calls Tryd.prog 51 #[.int .i64 a, .int .i64 b] w fun e w' => e = .returned (.int .i64 (cmpI a b)) ∧ Drawn0 w w' := by
  refine BCmp.cmp_Compare_int.calls a b _ w ?_
  unfold BCmp.cmp_Compare_int.f BCmp.cmp_isNaN_int.f cmpI
  simp only [Option.bind_some, bne_self_eq_false, if_neg (show ¬ false = true by decide)]
  split
  · rfl
  · split <;> rfl
theorem cmpS_calls (a b : ByteArray) (w : World) : Calls Tryd.prog 73 #[.string a, .string b] w fun e w' => e = .returned (.int .i64 (cmpS a b)) ∧ Drawn0 w w' := by
  refine BCmp.cmp_Compare_string.calls a b _ w ?_
  unfold BCmp.cmp_Compare_string.f BCmp.cmp_isNaN_string.f cmpS
  simp only [Option.bind_some, bne_self_eq_false, if_neg (show ¬ false = true by decide)]
  split
  · rfl
  · split <;> rfl
theorem or_calls (a b : Int) (g : Nat) (w : World) (h0 : w.cell? ⟨g, 0, none⟩ = some (.int .i64 a)) (h1 : w.cell? ⟨g, 1, none⟩ = some (.int .i64 b)) :
    Calls Tryd.prog 50 #[.slice (some ⟨g, 0, none⟩) 2 2] w fun e w' => e = .returned (.int .i64 (orI a b)) ∧ Drawn0 w w' := by
  have hr : ReadsInt w .i64 (some ⟨g, 0, none⟩) 2 [a, b] := by
    refine ⟨rfl, by omega, fun _ => ⟨⟨g, 0, none⟩, rfl, fun j hj => ?_⟩⟩
    have hadd : (⟨g, 0, none⟩ : Addr).add j = ⟨g, j, none⟩ := by unfold Addr.add; split <;> simp_all
    rw [hadd]
    match j, hj with
    | 0, _ => exact h0
    | 1, _ => exact h1
  refine BCmp.cmp_Or_int.calls 5 (some ⟨g, 0, none⟩) 2 [a, b] _ w (Kd.C_of_reads (d := (0 : Int)) (h1 := fun _ => rfl) hr) (Nat.le_refl _) ?_
  unfold BCmp.cmp_Or_int.f orI
  have e0 : rd [a, b] 0 = a := rfl
  have e1 : rd [a, b] 1 = b := rfl
  have w1 : wrap64 ((0 : Int) + 1) = 1 := w64 (x := 0 + 1) (by decide) (by decide)
  have w2 : wrap64 ((1 : Int) + 1) = 2 := w64 (x := 1 + 1) (by decide) (by decide)
  simp only [BCmp.cmp_Or_int.l0, List.length_cons, List.length_nil, Int.natCast_add, w1]
  simp only [e0, e1, w2]
  by_cases ha : a = 0
  · subst ha
    by_cases hb : b = 0
    · subst hb; simp
    · simp [hb]
  · simp [ha]

set_option maxRecDepth 100000 in
set_option maxHeartbeats 4000000 in
theorem order_calls (a b : ByteArray) (ha : a.size ≤ 140737488351232) (hb : b.size ≤ 140737488351232) (w : World) :
    Calls Tryd.prog 67 #[.string a, .string b] w fun e w' => e = .returned (.int .i64 (orderF a b)) ∧ Below w.heap.size w w' := by
  have HA := fun W => Aside0.mk (every_digit a ha W)
  have HB := fun W => Aside0.mk (every_digit b hb W)
  have HS := fun W => Aside0.mk (cmpS_calls a b W)
  have HI := fun W => Aside0.mk (cmpI_calls a.size b.size W)
  rcases (show everyB digB a = true ∨ everyB digB a = false from by cases everyB digB a <;> simp) with hx | hx <;> rcases (show everyB digB b = true ∨ everyB digB b = false from by cases everyB digB b <;> simp) with hy | hy
  · have hv : orderF a b = orI (cmpI a.size b.size) (cmpS a b) := by unfold orderF; rw [if_pos ⟨hx, hy⟩]
    rw [hv]
    have HX := Aside0.mk hx
    have HY := Aside0.mk hy
    clear hx hy hv
    go_enter Tryd.func67, Tryd.ntmps67
    go_wp2_with fail
    refine (HA _).out.mono ?_
    rintro e w' ⟨he, ⟨n1, rfl⟩⟩
    rw [HX.out] at he; subst he
    go_wp2_with fail
    refine (HB _).out.mono ?_
    rintro e w' ⟨he, ⟨n2, rfl⟩⟩
    rw [HY.out] at he; subst he
    go_wp2_with fail
    refine (HI _).out.mono ?_
    rintro e w' ⟨rfl, ⟨n3, rfl⟩⟩
    go_wp2_with fail
    refine (HS _).out.mono ?_
    rintro e w' ⟨rfl, ⟨n4, rfl⟩⟩
    go_wp2_with fail
    have hO := World.alloc_heap_new (w.drewN (n1 + n2 + n3 + n4)) (.cells #[.int .i64 (cmpI a.size b.size), .int .i64 (cmpS a b)] 3)
    refine (or_calls (cmpI a.size b.size) (cmpS a b) w.heap.size _ (cell_of_row _ _ 0 _ _ _ hO) (cell_of_row _ _ 1 _ _ _ hO)).mono ?_
    clear hO
    rintro e w' ⟨rfl, ⟨n5, rfl⟩⟩
    go_wp2_with fail
    go_ret
    exact ⟨rfl, pw_below_drewN ((pw_below_drewN (Below.refl w.heap.size w) _).alloc (Nat.le_refl _) _) _⟩
  · have hv : orderF a b = -1 := by unfold orderF; rw [hx, hy]; rfl
    rw [hv]
    have HX := Aside0.mk hx
    have HY := Aside0.mk hy
    clear hx hy hv
    go_enter Tryd.func67, Tryd.ntmps67
    go_wp2_with fail
    refine (HA _).out.mono ?_
    rintro e w' ⟨he, ⟨n1, rfl⟩⟩
    rw [HX.out] at he; subst he
    go_wp2_with fail
    refine (HB _).out.mono ?_
    rintro e w' ⟨he, ⟨n2, rfl⟩⟩
    rw [HY.out] at he; subst he
    go_wp2_with fail
    go_ret
    exact ⟨rfl, pw_below_drewN (Below.refl w.heap.size w) _⟩
  · have hv : orderF a b = 1 := by unfold orderF; rw [hx, hy]; rfl
    rw [hv]
    have HX := Aside0.mk hx
    have HY := Aside0.mk hy
    clear hx hy hv
    go_enter Tryd.func67, Tryd.ntmps67
    go_wp2_with fail
    refine (HA _).out.mono ?_
    rintro e w' ⟨he, ⟨n1, rfl⟩⟩
    rw [HX.out] at he; subst he
    go_wp2_with fail
    refine (HB _).out.mono ?_
    rintro e w' ⟨he, ⟨n2, rfl⟩⟩
    rw [HY.out] at he; subst he
    go_wp2_with fail
    go_ret
    exact ⟨rfl, pw_below_drewN (Below.refl w.heap.size w) _⟩
  · have hv : orderF a b = cmpS a b := by unfold orderF; rw [hx, hy]; rfl
    rw [hv]
    have HX := Aside0.mk hx
    have HY := Aside0.mk hy
    clear hx hy hv
    go_enter Tryd.func67, Tryd.ntmps67
    go_wp2_with fail
    refine (HA _).out.mono ?_
    rintro e w' ⟨he, ⟨n1, rfl⟩⟩
    rw [HX.out] at he; subst he
    go_wp2_with fail
    refine (HB _).out.mono ?_
    rintro e w' ⟨he, ⟨n2, rfl⟩⟩
    rw [HY.out] at he; subst he
    go_wp2_with fail
    refine (HS _).out.mono ?_
    rintro e w' ⟨rfl, ⟨n4, rfl⟩⟩
    go_wp2_with fail
    go_ret
    exact ⟨rfl, pw_below_drewN (Below.refl w.heap.size w) _⟩

/-- The order of a row of identifiers and of what is left of a text, from its next one on. -/
def goF : List ByteArray → ByteArray → Bool → Int
  | [], _, _ => -1
  | x :: xs, b, more => if more = false then 1 else if orderF x (cutA 46 b) = 0 then goF xs (cutB 46 b) (cutF 46 b) else orderF x (cutA 46 b)
/-- The order of two versions' Pre. -/
def preF (a b : ByteArray) : Int := if a.toList = b.toList then 0 else if a.toList = [] then 1 else if b.toList = [] then -1 else goF (split 46 a) b true

/-- The blocks of a comparison: what is left of b, the result, is there more. -/
def S2 (w : World) (bc : ByteArray) (more : Bool) (W : World) : Prop :=
  Boxed W w.heap.size 9 (.string bc) ∧ Boxed W (w.heap.size + 1) 3 (.int .i64 0) ∧ Boxed W (w.heap.size + 2) 4 (.bool more) ∧ Below w.heap.size w W ∧ w.heap.size + 4 ≤ W.heap.size
theorem S2.kept {w W W' : World} {bc : ByteArray} {more : Bool} {row : Option Nat} (h : S2 w bc more W) (hg : W.grownBy W' row) (hr : ∀ r, row = some r → w.heap.size + 3 ≤ r) : S2 w bc more W' := by
  obtain ⟨h0, h1, h2, h3, h4⟩ := h
  have hk : ∀ k, k < w.heap.size + 3 → some k ≠ row := fun k hk e => by have := hr k e.symm; omega
  exact ⟨h0.kept hg (hk _ (by omega)), h1.kept hg (hk _ (by omega)), h2.kept hg (hk _ (by omega)), h3.grown hg (by omega) (fun k e => by have := hr k e; omega), by have := hg.size; omega⟩
theorem S2.drewN {w W : World} {bc : ByteArray} {more : Bool} (h : S2 w bc more W) (n : Nat) : S2 w bc more (W.drewN n) :=
  h.kept (row := none) ⟨rfl, rfl, rfl, Nat.le_refl _, fun _ _ _ => rfl⟩ (fun _ e => by cases e)
theorem S2.step {w W : World} {bc bc' : ByteArray} {more more' : Bool} (h : S2 w bc more W) : S2 w bc' more' ((W.setCell ⟨w.heap.size, 0, none⟩ (.string bc')).setCell ⟨w.heap.size + 2, 0, none⟩ (.bool more')) ∧
    KeepsOthers W ((W.setCell ⟨w.heap.size, 0, none⟩ (.string bc')).setCell ⟨w.heap.size + 2, 0, none⟩ (.bool more')) ∧
    (∀ j, w.heap.size + 3 ≤ j → ((W.setCell ⟨w.heap.size, 0, none⟩ (.string bc')).setCell ⟨w.heap.size + 2, 0, none⟩ (.bool more')).heap[j]? = W.heap[j]?) := by
  obtain ⟨h0, h1, h2, h3, h4⟩ := h
  have ha : ∀ j, j ≠ w.heap.size → j ≠ w.heap.size + 2 → ((W.setCell ⟨w.heap.size, 0, none⟩ (.string bc')).setCell ⟨w.heap.size + 2, 0, none⟩ (.bool more')).heap[j]? = W.heap[j]? := fun j e1 e2 =>
    (setCell_heap_other e2).trans (setCell_heap_other e1)
  refine ⟨⟨?_, ?_, ?_, ?_, by simpa using h4⟩, (KeepsOthers.setCell W _ _).trans (KeepsOthers.setCell _ _ _), fun j hj => ha j (by omega) (by omega)⟩
  · exact (setCell_heap_other (by omega)).trans (h0.set _)
  · exact (ha _ (by omega) (by omega)).trans h1
  · exact Boxed.set (W := W.setCell ⟨w.heap.size, 0, none⟩ (.string bc')) _ ((setCell_heap_other (by omega)).trans h2)
  · exact (h3.setCell (p := ⟨w.heap.size, 0, none⟩) (Nat.le_refl _) _).setCell (p := ⟨w.heap.size + 2, 0, none⟩) (by show w.heap.size ≤ w.heap.size + 2; omega) _

/-- Between two rounds; behind one that has left. -/
def I2 (w : World) (a b : ByteArray) (pre : List ByteArray) (W : World) : Prop :=
  ∃ bc more, S2 w bc more W ∧ bc.size ≤ b.size ∧ ∀ rest, split 46 a = pre ++ rest → goF (split 46 a) b true = goF rest bc more
def Ix2 (w : World) (a b : ByteArray) (c : Code) (_ : List ByteArray) (W : World) : Prop :=
  c = .ret ∧ Boxed W (w.heap.size + 1) 3 (.int .i64 (goF (split 46 a) b true)) ∧ Below w.heap.size w W ∧ w.heap.size + 4 ≤ W.heap.size
theorem Ix2.kept {w W W' : World} {a b : ByteArray} {c : Code} {pre : List ByteArray} {row : Option Nat} (h : Ix2 w a b c pre W) (hg : W.grownBy W' row) (hr : ∀ r, row = some r → w.heap.size + 3 ≤ r) : Ix2 w a b c pre W' := by
  obtain ⟨h0, h1, h2, h3⟩ := h
  exact ⟨h0, h1.kept hg (fun e => by have := hr _ e.symm; omega), h2.grown hg (by omega) (fun k e => by have := hr k e; omega), by have := hg.size; omega⟩
theorem I2.kept {w W W' : World} {a b : ByteArray} {pre : List ByteArray} {row : Option Nat} (h : I2 w a b pre W) (hg : W.grownBy W' row) (hr : ∀ r, row = some r → w.heap.size + 3 ≤ r) : I2 w a b pre W' := by
  obtain ⟨bc, more, hs, h⟩ := h
  exact ⟨bc, more, hs.kept hg hr, h⟩
theorem Ix2.leave {w W : World} {a b : ByteArray} {c : Code} {pre : List ByteArray} (h : Ix2 w a b c pre W) {D : Nat} (hD : w.heap.size + 4 ≤ D) (hK : W.heap[D]? = some (.deferred (some []))) {o : Obj} :
    (W.putObj D o).cell? ⟨w.heap.size + 1, 0, none⟩ = some (.int .i64 (goF (split 46 a) b true)) ∧ Below w.heap.size w (W.putObj D o) := by
  obtain ⟨h0, h1, h2, h3⟩ := h
  have h9 : Boxed (W.putObj D o) (w.heap.size + 1) 3 (.int .i64 (goF (split 46 a) b true)) := (World.putObj_heap_other (by omega)).trans h1
  exact ⟨h9.cell, h2.trans (belowK_b (w := w) (Nat.le_refl _) W D _ o (by omega) hK rfl rfl)⟩
theorem Ix2.of {w W : World} {a b bc : ByteArray} {more : Bool} {pre : List ByteArray} (h : S2 w bc more W) (c : Int) (hc : goF (split 46 a) b true = c) :
    KeepsOthers W (W.setCell ⟨w.heap.size + 1, 0, none⟩ (.int .i64 c)) ∧ Ix2 w a b .ret pre (W.setCell ⟨w.heap.size + 1, 0, none⟩ (.int .i64 c)) := by
  obtain ⟨h0, h1, h2, h3, h4⟩ := h
  subst hc
  exact ⟨KeepsOthers.setCell _ _ _, rfl, h1.set _, h3.setCell (p := ⟨w.heap.size + 1, 0, none⟩) (by show w.heap.size ≤ w.heap.size + 1; omega) _, by simpa using h4⟩

set_option maxRecDepth 100000 in
set_option maxHeartbeats 4000000 in
theorem orderPre_calls (a b : ByteArray) (ha : a.size ≤ 140737488351232) (hb : b.size ≤ 140737488351232) (w : World) :
    Calls Tryd.prog 52 #[.string a, .string b] w fun e w' => e = .returned (.int .i64 (preF a b)) ∧ Below w.heap.size w w' := by
  have hbz : Below w.heap.size w ((w.alloc (.cells #[.string b] 9)).alloc (.cells #[.int .i64 0] 3)) := ((Below.refl _ w).alloc (Nat.le_refl _) _).alloc (by simp) _
  refine (callsIn_wide (n := 4)).1 ?_
  refine callsIn_of_wp_marks Tryd.func52 rfl trivial ?_ rfl
  simp only [Tryd.ntmps52, List.size_toArray, List.length_cons, List.length_nil, Nat.reduceAdd, Nat.reduceSub, Array.replicate_succ, Array.replicate_zero, List.push_toArray, List.append_toArray, List.nil_append, List.cons_append]
  by_cases h1 : a.toList = b.toList
  · have b1 : (a.toList == b.toList) = true := beq_iff_eq.2 h1
    have hv : preF a b = 0 := by unfold preF; rw [if_pos h1]
    rw [hv]
    clear h1 hv
    gi_wp2_with fail
    refine ⟨.int .i64 0, ?_, rfl, hbz⟩
    simp [results, Tryd.results52, go_sem]
  have b1 : (a.toList == b.toList) = false := by simpa using h1
  by_cases h2 : a.toList = []
  · have b2 : a.toList.isEmpty = true := by simp [h2]
    have hv : preF a b = 1 := by unfold preF; rw [if_neg h1, if_pos h2]
    rw [hv]
    clear h1 hv h2
    gi_wp2_with fail
    refine ⟨.int .i64 1, ?_, rfl, ?_⟩
    · simp [results, Tryd.results52, go_sem]
    · exact ((Below.refl _ w).alloc (Nat.le_refl _) _).alloc (by simp) _
  have b2 : a.toList.isEmpty = false := by simpa using h2
  by_cases h3 : b.toList = []
  · have b3 : b.toList.isEmpty = true := by simp [h3]
    have hv : preF a b = -1 := by unfold preF; rw [if_neg h1, if_neg h2, if_pos h3]
    rw [hv]
    clear h1 hv h2 h3
    gi_wp2_with fail
    refine ⟨.int .i64 (-1), ?_, rfl, ?_⟩
    · simp [results, Tryd.results52, go_sem]
    · exact ((Below.refl _ w).alloc (Nat.le_refl _) _).alloc (by simp) _
  have b3 : b.toList.isEmpty = false := by simpa using h3
  have hv : preF a b = goF (split 46 a) b true := by unfold preF; rw [if_neg h1, if_neg h2, if_neg h3]
  rw [hv]
  clear h1 h2 h3 hv
  gi_wp2_with fail
  refine ⟨trivial, (callsIn_wide.2 (idents_calls _ _)).mono ?_⟩
  rintro e w' ⟨rfl, rfl⟩
  gi_wp2_with fail
  have hst : S2 w b true ((((w.alloc (.cells #[.string b] 9)).alloc (.cells #[.int .i64 0] 3)).alloc (.cells #[.bool true] 4)).alloc (.cells #[.string a] 9)) := by
    have g0 : Boxed (w.alloc (.cells #[.string b] 9)) w.heap.size 9 (.string b) := World.alloc_heap_new _ _
    have g1 : Boxed ((w.alloc (.cells #[.string b] 9)).alloc (.cells #[.int .i64 0] 3)) (w.heap.size + 1) 3 (.int .i64 0) := by
      have := World.alloc_heap_new (w.alloc (.cells #[.string b] 9)) (.cells #[.int .i64 0] 3)
      simpa [Boxed] using this
    have g2 : Boxed (((w.alloc (.cells #[.string b] 9)).alloc (.cells #[.int .i64 0] 3)).alloc (.cells #[.bool true] 4)) (w.heap.size + 2) 4 (.bool true) := by
      have := World.alloc_heap_new ((w.alloc (.cells #[.string b] 9)).alloc (.cells #[.int .i64 0] 3)) (.cells #[.bool true] 4)
      simpa [Boxed] using this
    exact ⟨((g0.alloc _).alloc _).alloc _, (g1.alloc _).alloc _, g2.alloc _, (hbz.alloc (by simp; omega) _).alloc (by simp; omega) _, by simp⟩
  have hbx : ((((w.alloc (.cells #[.string b] 9)).alloc (.cells #[.int .i64 0] 3)).alloc (.cells #[.bool true] 4)).alloc (.cells #[.string a] 9)).heap[w.heap.size + 3]? = some (.cells #[.string a] 9 (0, 0)) := by
    have := World.alloc_heap_new (((w.alloc (.cells #[.string b] 9)).alloc (.cells #[.int .i64 0] 3)).alloc (.cells #[.bool true] 4)) (.cells #[.string a] 9)
    simpa using this
  have hsz : ((((w.alloc (.cells #[.string b] 9)).alloc (.cells #[.int .i64 0] 3)).alloc (.cells #[.bool true] 4)).alloc (.cells #[.string a] 9)).heap.size = w.heap.size + 4 := by simp
  show Code.wpIn _ _ _ _ _ _ ((((w.alloc (.cells #[.string b] 9)).alloc (.cells #[.int .i64 0] 3)).alloc (.cells #[.bool true] 4)).alloc (.cells #[.string a] 9))
  generalize ((((w.alloc (.cells #[.string b] 9)).alloc (.cells #[.int .i64 0] 3)).alloc (.cells #[.bool true] 4)).alloc (.cells #[.string a] 9)) = W0 at hst hbx hsz ⊢
  clear hbz
  refine' wpIn_rangeFunc_ownC rfl (by omega) (gf := 60) (lb := #[.pointer (some ⟨w.heap.size + 3, 0, none⟩)]) rfl trivial (enters_of Tryd.func60 (by kernel_rfl) rfl)
    (idents1 (4 - 1) (by omega) (w.heap.size + 3) a (by omega) W0 hbx) (by omega) (Below.refl _ _) (fun _ => rfl)
    (I2 w a b) (Ix2 w a b)
    (fun pre W W' row h hg hr => h.kept hg (fun r e => by have := (hr r e).1; omega)) (fun c pre W W' row h hg hr => h.kept hg (fun r e => by have := (hr r e).1; omega))
    (fun pre W W' h hg => h.kept hg (fun r e => by cases e; exact Nat.le_refl _)) (fun c pre W W' h hg => h.kept hg (fun r e => by cases e; exact Nat.le_refl _))
    ⟨b, true, hst, Nat.le_refl _, fun rest e => by rw [e]; rfl⟩ _ ?assign ?body ?done ?stop
  case assign =>
    intro l x W K hK
    gi_wp2
    exact hK
  case body =>
    rintro l pre x W ⟨bc, more, hst, hbc, hgo⟩ hlt
    obtain ⟨rest, hrest⟩ := hlt
    have hgo0 := hgo (x :: rest) (by rw [← hrest]; simp)
    have hxs : x.size ≤ a.size := split_len a x (by rw [← hrest]; simp)
    have hc0 := hst.1.cell
    have hc1 := hst.2.1.cell
    have hc2 := hst.2.2.1.cell
    have hf0 := hst.1.frozen
    have hf1 := hst.2.1.frozen
    have hf2 := hst.2.2.1.frozen
    have HST := Aside0.mk hst
    have HGO := Aside0.mk hgo0
    have HRE := Aside0.mk hrest
    have HG := Aside0.mk hgo
    clear hst hgo0 hrest hgo
    cases more with
    | false =>
      gi_wp2_with fail
      refine Ix2.of HST.out 1 ?_
      rw [HGO.out]; rfl
    | true =>
      have HC := Aside0.mk (cut_calls 46 bc (by omega) W)
      gi_wp2_with fail
      refine ⟨trivial, (CallsIn.inRound l (callsIn_wide.2 HC.out)).mono ?_⟩
      rintro e w1 ⟨rfl, ⟨n1, rfl⟩⟩
      gi_wp2_with fail
      have hcl := cutA_le 46 bc
      have hcl2 := cutB_le 46 bc
      obtain ⟨hst1, hk1, ho1⟩ := S2.step (bc' := cutB 46 bc) (more' := cutF 46 bc) (HST.out.drewN n1)
      have hk0 : KeepsOthers W (W.drewN n1) := ⟨Nat.le_refl _, fun l o hl _ => hl⟩
      have hk2 := hk0.trans hk1
      have ho2 : ((((W.drewN n1).setCell ⟨w.heap.size, 0, none⟩ (.string (cutB 46 bc))).setCell ⟨w.heap.size + 2, 0, none⟩ (.bool (cutF 46 bc)))).heap[w.heap.size + 3]? = W.heap[w.heap.size + 3]? := ho1 _ (Nat.le_refl _)
      clear hk1 hk0 ho1
      show _ ∧ CallsIn _ _ _ _ _ (((W.drewN n1).setCell ⟨w.heap.size, 0, none⟩ (.string (cutB 46 bc))).setCell ⟨w.heap.size + 2, 0, none⟩ (.bool (cutF 46 bc))) _
      generalize (((W.drewN n1).setCell ⟨w.heap.size, 0, none⟩ (.string (cutB 46 bc))).setCell ⟨w.heap.size + 2, 0, none⟩ (.bool (cutF 46 bc))) = W1 at hst1 hk2 ho2 ⊢
      refine ⟨trivial, (CallsIn.inRound l (callsIn_wide.2 (order_calls x (cutA 46 bc) (by omega) (by omega) W1))).mono ?_⟩
      clear hc0 hc1 hc2 hf0 hf1 hf2
      rintro e W2 ⟨rfl, hb⟩
      have hst2 := hst1.kept (below_grown_none hb) (fun _ e => by cases e)
      have hk3 := hk2.trans (keeps_below hb)
      have ho3 : W2.heap[w.heap.size + 3]? = W.heap[w.heap.size + 3]? := (hb.block _ (by have := hst1.2.2.2.2; omega)).trans ho2
      clear hst1 hk2 ho2 hb HST
      have hc1 := hst2.2.1.cell
      have hf1 := hst2.2.1.frozen
      by_cases hz : orderF x (cutA 46 bc) = 0
      · have hd : decide (orderF x (cutA 46 bc) = 0) = true := decide_eq_true hz
        have hbq : (orderF x (cutA 46 bc) == 0) = true := beq_iff_eq.2 hz
        have HZ := Aside0.mk hz
        have HST := Aside0.mk hst2
        clear hz hst2
        gi_wp2_with fail
        refine ⟨hk3, ho3, cutB 46 bc, cutF 46 bc, HST.out, by omega, fun rest' e => ?_⟩
        rw [HG.out (x :: rest') (by rw [e]; simp)]
        unfold goF
        rw [if_neg (by simp), if_pos HZ.out]
        cases rest' <;> rfl
      · have hd : decide (orderF x (cutA 46 bc) = 0) = false := decide_eq_false hz
        have hbq : (orderF x (cutA 46 bc) == 0) = false := beq_eq_false_iff_ne.2 hz
        have HZ := Aside0.mk hz
        have HST := Aside0.mk hst2
        clear hz hst2
        gi_wp2_with fail
        have h9 := Ix2.of (a := a) (b := b) (pre := pre ++ [x]) HST.out (orderF x (cutA 46 bc)) (by rw [HGO.out]; unfold goF; rw [if_neg (by simp), if_neg HZ.out])
        exact ⟨hk3.trans h9.1, h9.2⟩
  case done =>
    rintro D W hD ⟨bc, more, hst, hbc, hgo⟩ hK
    have hv := hgo [] (by simp)
    have hc1 := hst.2.1.cell
    have hf1 := hst.2.1.frozen
    have HST := Aside0.mk hst
    have HV := Aside0.mk hv
    clear hst hgo hv
    gi_wp2_with fail
    have h9 := Ix2.of (a := a) (b := b) (pre := []) HST.out (-1) (by rw [HV.out]; rfl)
    have hk2 : (W.setCell ⟨w.heap.size + 1, 0, none⟩ (.int .i64 (-1))).heap[D]? = some (.deferred (some [])) := (setCell_heap_other (by omega)).trans hK
    show bodyPostM _ _ _ _ _ _ _ (W.setCell ⟨w.heap.size + 1, 0, none⟩ (.int .i64 (-1)))
    generalize W.setCell ⟨w.heap.size + 1, 0, none⟩ (.int .i64 (-1)) = W2 at h9 hk2 ⊢
    obtain ⟨hc, hb⟩ := h9.2.leave (by omega) hk2
    rw [HV.out] at hc
    refine ⟨by simp, .inl ⟨_, _, rfl, run_takeDeferred hk2, ?_⟩⟩
    refine ⟨.int .i64 (-1), ?_, by rw [HV.out]; rfl, hb⟩
    simp [results, Tryd.results52, go_sem, hc, goF]
  case stop =>
    rintro D c pre W hD _ ⟨rfl, hb, hbl, hsz⟩ hK
    have HIX := Aside0.mk (show Ix2 w a b .ret pre W from ⟨rfl, hb, hbl, hsz⟩)
    clear hb hbl hsz
    gi_wp2_with fail
    obtain ⟨hc, hb⟩ := HIX.out.leave (by omega) hK
    refine ⟨by simp, .inl ⟨_, _, rfl, run_takeDeferred hK, ?_⟩⟩
    refine ⟨.int .i64 (goF (split 46 a) b true), ?_, rfl, hb⟩
    simp [results, Tryd.results52, go_sem, hc]

end Go.Proofs.YtaddonafdllciaaDoor.SemOrder
