/- A version's parse: the walk. -/
import Derived.Test.YtaddonafdllciaaDoorSemNum
import Derived.Test.YtaddonafdllciaaDoorRound
import Derived.Deep.DeepCutAuto
import Derived.StillTailTactics
namespace Go.Proofs.YtaddonafdllciaaDoor.SemParse
open Go.RowKit Go.Shelf Go.Proofs.YtaddonafdllciaaDoor.Iter Go.Proofs.YtaddonafdllciaaDoor.BytesLib Go.Proofs.YtaddonafdllciaaDoor.SemParts Go.Proofs.YtaddonafdllciaaDoor.SemNum Go.Proofs.YtaddonafdllciaaDoor.Round Go.Proofs.YtaddonafdllciaaDoorW.PrintWords Go.Proofs.YtaddonafdllciaaDoorW.PrintLast
set_option linter.unusedVariables false
set_option linter.unusedSimpArgs false
attribute [local go_sem] Oper.semAt_some

theorem cut_head (t : ByteArray) (c : UInt8) (w : World) :
    Calls Tryd.prog 29 #[.string t, .string ⟨#[c]⟩] w fun e w' => e = .returned (.tuple #[.string (if (L t).head? = some c then t.extract 1 t.size else t), .bool (decide ((L t).head? = some c))]) ∧ Drawn0 w w' := by
  refine BFns.strings_CutPrefix.calls t ⟨#[c]⟩ _ _ w ?_
  unfold BFns.strings_CutPrefix.f BFns.stringslite_CutPrefix.f BFns.stringslite_HasPrefix.f
  have e1 : ((⟨#[c]⟩ : ByteArray).size : Int) = 1 := rfl
  have e2 : ((⟨#[c]⟩ : ByteArray)).toList = [c] := (toList_L _).trans rfl
  rw [e1, e2]
  have hl := L_length t
  by_cases h : (t.size : Int) ≥ 1
  · have e3 : ((t.extract 0 (1 : Int).toNat).toList == [c]) = decide ((L t).head? = some c) := by
      rw [toList_L, L_head, show (1 : Int).toNat = 1 from rfl]
      cases hL : L t with
      | nil => rw [hL] at hl; simp at hl; omega
      | cons x l => simp; rfl
    rw [if_pos h, if_pos (by omega), if_pos (by omega), e3]
    by_cases hh : (L t).head? = some c
    · rw [decide_eq_true hh, if_pos hh]; simp only [Option.bind_some, if_true]; rw [if_pos (by omega), if_pos (by omega)]; rfl
    · rw [decide_eq_false hh, if_neg hh]; rfl
  · have hh : ¬ (L t).head? = some c := by
      intro hh
      cases hL : L t with
      | nil => rw [hL] at hh; cases hh
      | cons x l => rw [hL] at hl; simp at hl; omega
    rw [if_neg h]
    simp [hh]

/-- May an identifier of Pre be one; of Meta? -/
def preB (has : Bool) (e : ByteArray) : Bool := !has || (everyB signB e && !noughtB e)
def metaB (has : Bool) (e : ByteArray) : Bool := !has || everyB signB e
/-- The three rows of identifiers that a text has behind its v. -/
def restOf (r : ByteArray) : ByteArray := cutA 45 (cutA 43 r)
def preOf (r : ByteArray) : ByteArray := cutB 45 (cutA 43 r)
def metaOf (r : ByteArray) : ByteArray := cutB 43 r
def hasPre (r : ByteArray) : Bool := cutF 45 (cutA 43 r)
def hasMeta (r : ByteArray) : Bool := cutF 43 r
def ok1 (r : ByteArray) : Bool := ((Lib.countByte (restOf r).data.toList 46 : Int) == 2)
def ok2 (r : ByteArray) : Bool := ok1 r && (split 46 (restOf r)).all numB
def ok3 (r : ByteArray) : Bool := ok2 r && (split 46 (preOf r)).all (preB (hasPre r))
def ok4 (r : ByteArray) : Bool := ok3 r && (split 46 (metaOf r)).all (metaB (hasMeta r))
def numAt (r : ByteArray) (i : Nat) : Int := (numF ((split 46 (restOf r)).getD i ⟨#[]⟩)).1
/-- A version out of what is behind its v, or its error. -/
def bodyF (r : ByteArray) : Int × Int × Int × ByteArray × ByteArray × Int := if ok4 r = true then (numAt r 0, numAt r 1, numAt r 2, preOf r, metaOf r, 0) else (0, 0, 0, ⟨#[]⟩, ⟨#[]⟩, 30)
/-- A version, or its error. -/
def parseF (s : ByteArray) : Int × Int × Int × ByteArray × ByteArray × Int :=
  if (L s).head? = some 118 ∧ s.size ≤ 60 ∧ ok4 (s.extract 1 s.size) = true then (numAt (s.extract 1 s.size) 0, numAt (s.extract 1 s.size) 1, numAt (s.extract 1 s.size) 2, preOf (s.extract 1 s.size), metaOf (s.extract 1 s.size), 0)
  else (0, 0, 0, ⟨#[]⟩, ⟨#[]⟩, 30)

theorem numF_snd (e : ByteArray) : (numF e).2 = numB e := by
  unfold numF
  cases numB e <;> rfl

/-- The blocks of a parse, from w on: the result's five words, whether there is Meta, Pre, whether it is a version, the row of numbers; blocks that the loops before have left. -/
def St (w : World) (hm hp ok : Bool) (v : Value) (xs : List Value) (Ds : List Nat) (W : World) : Prop :=
  W.heap[w.heap.size]? = some (.cells #[.int .i64 0, .int .i64 0, .int .i64 0, .string ⟨#[]⟩, .string ⟨#[]⟩] 23 (0, 0)) ∧ Boxed W (w.heap.size + 1) 4 (.bool hm) ∧ Boxed W (w.heap.size + 2) 4 (.bool hp) ∧ Boxed W (w.heap.size + 3) 4 (.bool ok) ∧ Boxed W (w.heap.size + 4) 57 v ∧ W.ownsRow (w.heap.size + 6) 3 1 v xs.length xs ∧ (∀ D ∈ Ds, w.heap.size + 6 ≤ D ∧ W.heap[D]? = some (.deferred (some []))) ∧ Below w.heap.size w W ∧ w.heap.size + 6 ≤ W.heap.size

/-- A block that is none of these. -/
def Else (w : World) (v : Value) (Ds : List Nat) (r : Nat) : Prop := w.heap.size + 5 ≤ r ∧ v.ownBlock ≠ some r ∧ r ∉ Ds

theorem St.lt {w : World} {hm hp ok : Bool} {v : Value} {xs : List Value} {Ds : List Nat} {W : World} (h : St w hm hp ok v xs Ds W) : w.heap.size + 4 < W.heap.size := h.2.2.2.2.1.lt

theorem St.kept {w : World} {hm hp ok : Bool} {v : Value} {xs : List Value} {Ds : List Nat} {W W' : World} {row : Option Nat} (h : St w hm hp ok v xs Ds W) (hg : W.grownBy W' row) (hr : ∀ r, row = some r → Else w v Ds r) : St w hm hp ok v xs Ds W' := by
  have hlt := h.lt
  obtain ⟨h0, h1, h2, h3, h4, h5, h6, h7, h10⟩ := h
  have hk : ∀ k, k < w.heap.size + 5 → some k ≠ row := by
    intro k hk e
    have := (hr k e.symm).1
    omega
  refine ⟨?_, h1.kept hg (hk _ (by omega)), h2.kept hg (hk _ (by omega)), h3.kept hg (hk _ (by omega)), h4.kept hg (hk _ (by omega)), h5.kept hg ?_, ?_, ?_, by have := hg.size; omega⟩
  · exact (hg.block _ (by omega) (hk _ (by omega))).trans h0
  · cases hv : v.ownBlock with
    | none => exact .inl rfl
    | some g =>
      refine .inr fun e => ?_
      exact (hr g e.symm).2.1 hv
  · intro D hD
    obtain ⟨h8, h9⟩ := h6 D hD
    refine ⟨h8, (hg.block D (Array.getElem?_eq_some_iff.1 h9).1 ?_).trans h9⟩
    intro e
    exact (hr D e.symm).2.2 hD
  · exact h7.grown hg (by omega) (fun k e => by have := (hr k e).1; omega)

theorem St.own {β : Type} {w : World} {hm hp : Bool} {ok : β → Bool} {v : β → Value} {xs : β → List Value} {Ds : List Nat} {B : Nat} (hB : w.heap.size + 6 ≤ B) (hD : ∀ D ∈ Ds, D < B) :
    OwnFrom B (fun s W => St w hm hp (ok s) (v s) (xs s) Ds W) := by
  intro s W W' row h hg hr
  refine h.kept hg (fun r e => ?_)
  obtain ⟨h1, o, h2, h3⟩ := hr r e
  refine ⟨by omega, ?_, fun hm => by have := hD r hm; omega⟩
  intro e2
  rcases h.2.2.2.2.2.1.2 with ⟨e3, _⟩ | ⟨g, cap, cur, e3, _, hgb, _⟩
  · rw [e3] at e2; cases e2
  · rw [e3] at e2
    obtain rfl : g = r := by simpa [Value.ownBlock] using e2
    rw [hgb] at h2
    cases h2
    cases h3

theorem below_grown_none {w W : World} (h : Below w.heap.size w W) : w.grownBy W none := ⟨h.os, h.tape, h.output, h.size, fun k hk _ => h.block k hk⟩
theorem keeps_below {w W : World} (h : Below w.heap.size w W) : KeepsOthers w W := ⟨h.size, fun l o hl _ => (h.block l (Array.getElem?_eq_some_iff.1 hl).1).trans hl⟩

theorem setCell_heap_other {W : World} {B : Nat} {v : Value} {k : Nat} (h : k ≠ B) : (W.setCell ⟨B, 0, none⟩ v).heap[k]? = W.heap[k]? := Below.heap_setCell W ⟨B, 0, none⟩ v k h

theorem St.drewN {w : World} {hm hp ok : Bool} {v : Value} {xs : List Value} {Ds : List Nat} {W : World} (h : St w hm hp ok v xs Ds W) (n : Nat) : St w hm hp ok v xs Ds (W.drewN n) :=
  h.kept (row := none) ⟨rfl, rfl, rfl, Nat.le_refl _, fun _ _ _ => rfl⟩ (fun _ e => by cases e)
theorem St.setOk {w : World} {hm hp ok : Bool} {v : Value} {xs : List Value} {Ds : List Nat} {W : World} (h : St w hm hp ok v xs Ds W) (ok' : Bool) :
    St w hm hp ok' v xs Ds (W.setCell ⟨w.heap.size + 3, 0, none⟩ (.bool ok')) := by
  obtain ⟨h0, h1, h2, h3, h4, h5, h6, h7, h8⟩ := h
  refine ⟨(setCell_heap_other (by omega)).trans h0, (setCell_heap_other (by omega)).trans h1, (setCell_heap_other (by omega)).trans h2, h3.set _, (setCell_heap_other (by omega)).trans h4, ownsRow_setCell_below h5 (by show w.heap.size + 3 < w.heap.size + 6; omega) _, ?_, h7.setCell (p := ⟨w.heap.size + 3, 0, none⟩) (by show w.heap.size ≤ w.heap.size + 3; omega) _, by simpa using h8⟩
  intro D hD
  obtain ⟨h9, h10⟩ := h6 D hD
  exact ⟨h9, (setCell_heap_other (by omega)).trans h10⟩
/-- What a round behind the first loop leaves: the word on whether it is a version is turned, all else stands. -/
theorem St.round {w : World} {hm hp ok : Bool} {v : Value} {xs : List Value} {Ds : List Nat} {W : World} (h : St w hm hp ok v xs Ds W) (n : Nat) (ok' : Bool) (B : Nat) (hB : w.heap.size + 5 ≤ B) :
    KeepsOthers W ((W.drewN n).setCell ⟨w.heap.size + 3, 0, none⟩ (.bool ok')) ∧ KpB B W ((W.drewN n).setCell ⟨w.heap.size + 3, 0, none⟩ (.bool ok')) ∧ St w hm hp ok' v xs Ds ((W.drewN n).setCell ⟨w.heap.size + 3, 0, none⟩ (.bool ok')) :=
  ⟨⟨by simp, fun l o hl ho => (KeepsOthers.setCell (W.drewN n) _ _).same l o hl ho⟩, (setCell_heap_other (W := W.drewN n) (by omega)), (h.drewN n).setOk ok'⟩
/-- Where the next loop begins. -/
theorem St.next {w : World} {hm hp ok : Bool} {v : Value} {xs : List Value} {Ds : List Nat} {W : World} (h : St w hm hp ok v xs Ds W) (D : Nat) (hD : w.heap.size + 6 ≤ D) (hK : W.heap[D]? = some (.deferred (some []))) (t : ByteArray) :
    St w hm hp ok v xs (D :: Ds) (W.alloc (.cells #[.string t] 9)) ∧ (W.alloc (.cells #[.string t] 9)).heap[W.heap.size]? = some (.cells #[.string t] 9 (0, 0)) ∧
    (W.alloc (.cells #[.string t] 9)).heap.size = W.heap.size + 1 ∧ w.heap.size + 6 ≤ W.heap.size ∧ v.ownBlock ≠ some W.heap.size ∧ (∀ D' ∈ D :: Ds, D' < W.heap.size) := by
  have h2 : St w hm hp ok v xs (D :: Ds) W := by
    obtain ⟨h0, h1, h2, h3, h4, h5, h6, h7, h8⟩ := h
    refine ⟨h0, h1, h2, h3, h4, h5, (fun D' hD' => ?_), h7, h8⟩
    rcases List.mem_cons.1 hD' with rfl | hD'
    · exact ⟨hD, hK⟩
    · exact h6 D' hD'
  refine ⟨h2.kept (World.grownBy_alloc W _ none) (fun _ e => by cases e), World.alloc_heap_new _ _, by simp, h.2.2.2.2.2.2.2.2, fun e => ?_, fun D' hD' => ?_⟩
  · have := (h.2.2.2.2.2.1.lt _ e).2; omega
  · exact (Array.getElem?_eq_some_iff.1 (h2.2.2.2.2.2.2.1 D' hD').2).1

/-- One number more, and whether it is one: the world behind. -/
theorem St.step {w : World} {hm hp ok ok' : Bool} {v v' : Value} {xs : List Value} {Ds : List Nat} {W w1 : World} {k : Int} (h : St w hm hp ok v xs Ds W)
    (hown : w1.ownsRow (w.heap.size + 6) 3 1 v' (xs.length + 1) (xs ++ [.int .i64 k])) (hgrow : ((W.alloc (.cells #[.int .i64 k] 3)).drew).grownBy w1 v.ownBlock) :
    St w hm hp ok' v' (xs ++ [.int .i64 k]) Ds ((w1.setCell ⟨w.heap.size + 4, 0, none⟩ v').setCell ⟨w.heap.size + 3, 0, none⟩ (.bool ok')) ∧
    KeepsOthers W ((w1.setCell ⟨w.heap.size + 4, 0, none⟩ v').setCell ⟨w.heap.size + 3, 0, none⟩ (.bool ok')) ∧
    (∀ j, j < W.heap.size → j ≠ w.heap.size + 3 → j ≠ w.heap.size + 4 → v.ownBlock ≠ some j → ((w1.setCell ⟨w.heap.size + 4, 0, none⟩ v').setCell ⟨w.heap.size + 3, 0, none⟩ (.bool ok')).heap[j]? = W.heap[j]?) := by
  have hlt := h.lt
  have hrow := h.2.2.2.2.2.1
  have hsz : W.heap.size < w1.heap.size := by have := hgrow.size; simp at this; omega
  have hk : ∀ j, j < W.heap.size → v.ownBlock ≠ some j → w1.heap[j]? = W.heap[j]? := by
    intro j hj hv
    rw [hgrow.block j (by simp; omega) (fun e => hv e.symm)]
    exact Below.heap_alloc W _ j hj
  have hall : ∀ j, j < W.heap.size → j ≠ w.heap.size + 3 → j ≠ w.heap.size + 4 → v.ownBlock ≠ some j → ((w1.setCell ⟨w.heap.size + 4, 0, none⟩ v').setCell ⟨w.heap.size + 3, 0, none⟩ (.bool ok')).heap[j]? = W.heap[j]? := by
    intro j hj h3 h4 hv
    rw [setCell_heap_other h3, setCell_heap_other h4, hk j hj hv]
  have hv : ∀ j, j < w.heap.size + 6 → v.ownBlock ≠ some j := fun j hj e => by have := (hrow.lt _ e).1; omega
  have hb3 : Boxed w1 (w.heap.size + 3) 4 (.bool ok) := (hk _ (by omega) (hv _ (by omega))).trans h.2.2.2.1
  have hb4 : Boxed w1 (w.heap.size + 4) 57 v := (hk _ (by omega) (hv _ (by omega))).trans h.2.2.2.2.1
  have hvD : ∀ D ∈ Ds, v.ownBlock ≠ some D := by
    intro D hD e
    obtain ⟨_, h9⟩ := h.2.2.2.2.2.2.1 D hD
    rcases hrow.2 with ⟨e3, _⟩ | ⟨g, cap, cur, e3, _, hgb, _⟩
    · rw [e3] at e; cases e
    · rw [e3] at e
      obtain rfl : g = D := by simpa [Value.ownBlock] using e
      rw [hgb] at h9
      cases h9
  have hother : ∀ (j : Nat) (o : Obj), W.heap[j]? = some o → o.isCells = false → ((w1.setCell ⟨w.heap.size + 4, 0, none⟩ v').setCell ⟨w.heap.size + 3, 0, none⟩ (.bool ok')).heap[j]? = some o := by
    intro j o hj ho
    rw [hall j (Array.getElem?_eq_some_iff.1 hj).1 ?_ ?_ ?_]
    · exact hj
    · rintro rfl; rw [show W.heap[w.heap.size + 3]? = _ from h.2.2.2.1] at hj; cases hj; cases ho
    · rintro rfl; rw [show W.heap[w.heap.size + 4]? = _ from h.2.2.2.2.1] at hj; cases hj; cases ho
    · intro e
      rcases hrow.2 with ⟨e3, _⟩ | ⟨g, cap, cur, e3, _, hgb, _⟩
      · rw [e3] at e; cases e
      · rw [e3] at e
        obtain rfl : g = j := by simpa [Value.ownBlock] using e
        rw [hgb] at hj
        cases hj
        cases ho
  refine ⟨⟨?_, ?_, ?_, ?_, ?_, ?_, ?_, ?_, by have := h.2.2.2.2.2.2.2.2; simp; omega⟩, ⟨by simp; omega, hother⟩, hall⟩
  · rw [hall _ (by omega) (by omega) (by omega) (hv _ (by omega))]; exact h.1
  · exact (hall _ (by omega) (by omega) (by omega) (hv _ (by omega))).trans h.2.1
  · exact (hall _ (by omega) (by omega) (by omega) (hv _ (by omega))).trans h.2.2.1
  · exact Boxed.set (W := w1.setCell ⟨w.heap.size + 4, 0, none⟩ v') _ ((setCell_heap_other (by omega)).trans hb3)
  · exact (setCell_heap_other (by omega)).trans (hb4.set _)
  · rw [List.length_append]
    exact ownsRow_setCell_below (ownsRow_setCell_below hown (by show w.heap.size + 4 < w.heap.size + 6; omega) _) (by show w.heap.size + 3 < w.heap.size + 6; omega) _
  · intro D hD
    obtain ⟨h8, h9⟩ := h.2.2.2.2.2.2.1 D hD
    exact ⟨h8, hother D _ h9 rfl⟩
  · have hb := h.2.2.2.2.2.2.2.1
    refine ⟨hgrow.os.trans hb.os, hgrow.tape.trans hb.tape, hgrow.output.trans hb.output, by simp; omega, fun j hj => ?_⟩
    rw [hall j (by omega) (by omega) (by omega) (hv _ (by omega))]
    exact hb.block j hj

theorem sc_other (W : World) (x o : Nat) (v : Value) (j : Nat) (h : j ≠ x) : (W.setCell ⟨x, o, none⟩ v).heap[j]? = W.heap[j]? := Below.heap_setCell W ⟨x, o, none⟩ v j h
theorem fin_world (W : World) (x : Nat) (a b c p m z0 z1 z2 z3 z4 : Value) (T : TypeId) (h : W.heap[x]? = some (.cells #[z0, z1, z2, z3, z4] T (0, 0))) :
    (((((W.setCell ⟨x, 0, none⟩ a).setCell ⟨x, 1, none⟩ b).setCell ⟨x, 2, none⟩ c).setCell ⟨x, 3, none⟩ p).setCell ⟨x, 4, none⟩ m).heap[x]? = some (.cells #[a, b, c, p, m] T (0, 0)) ∧
    (∀ j, j ≠ x → (((((W.setCell ⟨x, 0, none⟩ a).setCell ⟨x, 1, none⟩ b).setCell ⟨x, 2, none⟩ c).setCell ⟨x, 3, none⟩ p).setCell ⟨x, 4, none⟩ m).heap[j]? = W.heap[j]?) := by
  have h1 : (W.setCell ⟨x, 0, none⟩ a).heap[x]? = some (.cells #[a, z1, z2, z3, z4] T (0, 0)) := heap_setCell_same W x 0 #[z0, z1, z2, z3, z4] T a h
  have h2 : ((W.setCell ⟨x, 0, none⟩ a).setCell ⟨x, 1, none⟩ b).heap[x]? = some (.cells #[a, b, z2, z3, z4] T (0, 0)) := heap_setCell_same (W.setCell ⟨x, 0, none⟩ a) x 1 #[a, z1, z2, z3, z4] T b h1
  have h3 : (((W.setCell ⟨x, 0, none⟩ a).setCell ⟨x, 1, none⟩ b).setCell ⟨x, 2, none⟩ c).heap[x]? = some (.cells #[a, b, c, z3, z4] T (0, 0)) := heap_setCell_same ((W.setCell ⟨x, 0, none⟩ a).setCell ⟨x, 1, none⟩ b) x 2 #[a, b, z2, z3, z4] T c h2
  have h4 : ((((W.setCell ⟨x, 0, none⟩ a).setCell ⟨x, 1, none⟩ b).setCell ⟨x, 2, none⟩ c).setCell ⟨x, 3, none⟩ p).heap[x]? = some (.cells #[a, b, c, p, z4] T (0, 0)) := heap_setCell_same (((W.setCell ⟨x, 0, none⟩ a).setCell ⟨x, 1, none⟩ b).setCell ⟨x, 2, none⟩ c) x 3 #[a, b, c, z3, z4] T p h3
  have h5 := heap_setCell_same ((((W.setCell ⟨x, 0, none⟩ a).setCell ⟨x, 1, none⟩ b).setCell ⟨x, 2, none⟩ c).setCell ⟨x, 3, none⟩ p) x 4 #[a, b, c, p, z4] T m h4
  refine ⟨h5, fun j hj => ?_⟩
  exact (sc_other _ x 4 m j hj).trans ((sc_other _ x 3 p j hj).trans ((sc_other _ x 2 c j hj).trans ((sc_other _ x 1 b j hj).trans (sc_other W x 0 a j hj))))

theorem info_int : (Tryd.prog.info? 3).map (fun i => (i.zero, i.size, i.bytes)) = some (some (.int .i64 0), 1, 8) := by kernel_rfl

theorem split_len (s : ByteArray) : ∀ x ∈ split 46 s, x.size ≤ s.size := by
  induction h : s.size using Nat.strongRecOn generalizing s with
  | _ k ih =>
    intro x hx
    rw [split_eq] at hx
    rcases List.mem_cons.1 hx with rfl | hx
    · rw [← h]
      unfold cutA
      split
      · rw [ByteArray.size_extract]; omega
      · exact Nat.le_refl _
    · by_cases hF : cutF 46 s = true
      · rw [if_pos hF] at hx
        have hl := cutB_lt hF
        have := ih (cutB 46 s).size (by omega) (cutB 46 s) rfl x hx
        omega
      · rw [if_neg hF] at hx
        cases hx
theorem split_count (s : ByteArray) : (split 46 s).length ≤ s.size + 1 := by
  induction h : s.size using Nat.strongRecOn generalizing s with
  | _ k ih =>
    rw [split_eq]
    by_cases hF : cutF 46 s = true
    · have hl := cutB_lt hF
      have := ih (cutB 46 s).size (by omega) (cutB 46 s) rfl
      rw [if_pos hF, List.length_cons]
      omega
    · rw [if_neg hF]
      simp
theorem cutA_le (c : UInt8) (s : ByteArray) : (cutA c s).size ≤ s.size := by
  unfold cutA
  split
  · rw [ByteArray.size_extract]; omega
  · exact Nat.le_refl _

/-- Behind the deferred calls of the three loops the result stands. -/
theorem leave {w Wz : World} {D3 D2 D : Nat} {a b c p m : Value} (hz : Wz.heap[w.heap.size]? = some (.cells #[a, b, c, p, m] 23 (0, 0))) (h3 : w.heap.size < D3) (h2 : w.heap.size < D2) (h1 : w.heap.size < D) (n32 : D3 ≠ D2) (n31 : D3 ≠ D) (n21 : D2 ≠ D)
    (hk3 : Wz.heap[D3]? = some (.deferred (some []))) (hk2 : Wz.heap[D2]? = some (.deferred (some []))) (hk1 : Wz.heap[D]? = some (.deferred (some []))) (hb : Below w.heap.size w Wz) :
    (Wz.putObj D3 (.deferred none)).heap[D2]? = some (.deferred (some [])) ∧ ((Wz.putObj D3 (.deferred none)).putObj D2 (.deferred none)).heap[D]? = some (.deferred (some [])) ∧
    (∀ j, (((Wz.putObj D3 (.deferred none)).putObj D2 (.deferred none)).putObj D (.deferred none)).cell? ⟨w.heap.size, j, none⟩ = #[a, b, c, p, m][j]?) ∧
    Below w.heap.size w (((Wz.putObj D3 (.deferred none)).putObj D2 (.deferred none)).putObj D (.deferred none)) := by
  have hk2' : (Wz.putObj D3 (.deferred none)).heap[D2]? = some (.deferred (some [])) := (World.putObj_heap_other (by omega)).trans hk2
  have hk1' : ((Wz.putObj D3 (.deferred none)).putObj D2 (.deferred none)).heap[D]? = some (.deferred (some [])) := (World.putObj_heap_other (by omega)).trans ((World.putObj_heap_other (by omega)).trans hk1)
  have hz3 : (((Wz.putObj D3 (.deferred none)).putObj D2 (.deferred none)).putObj D (.deferred none)).heap[w.heap.size]? = some (.cells #[a, b, c, p, m] 23 (0, 0)) :=
    (World.putObj_heap_other (by omega)).trans ((World.putObj_heap_other (by omega)).trans ((World.putObj_heap_other (by omega)).trans hz))
  exact ⟨hk2', hk1', fun j => cell_of_row _ _ j _ _ _ hz3,
    ((hb.trans (belowK_b (w := w) (Nat.le_refl _) Wz D3 _ _ (by omega) hk3 rfl rfl)).trans (belowK_b (w := w) (Nat.le_refl _) _ D2 _ _ (by omega) hk2' rfl rfl)).trans (belowK_b (w := w) (Nat.le_refl _) _ D _ _ (by omega) hk1' rfl rfl)⟩

theorem split_length (s : ByteArray) : (split 46 s).length = Lib.countByte s.data.toList 46 + 1 := by
  have key : ∀ (k : Nat) (s : ByteArray), s.size = k → (split 46 s).length = Lib.countByte s.data.toList 46 + 1 := by
    intro k
    induction k using Nat.strongRecOn with
    | _ k ih =>
      intro s hk
      rw [split_eq]
      by_cases hF : cutF 46 s = true
      · have hl := cutB_lt hF
        rw [if_pos hF, List.length_cons, ih (cutB 46 s).size (by omega) (cutB 46 s) rfl]
        have h0 : 0 ≤ cutI 46 s := of_decide_eq_true hF
        obtain ⟨o, ho⟩ : ∃ o : Nat, Lib.indexByte s.data.toList 46 = o := ⟨(cutI 46 s).toNat, by unfold cutI at h0 ⊢; omega⟩
        obtain ⟨h1, h2⟩ := Lib.indexByte_some ho
        have hb : (cutB 46 s).data.toList = s.data.toList.drop (o + 1) := by
          unfold cutB
          rw [if_pos h0]
          have e : (cutI 46 s + 1).toNat = o + 1 := by unfold cutI; rw [ho]; omega
          rw [e]
          exact L_tail s (o + 1)
        have hlt := (List.getElem?_eq_some_iff.1 h1).1
        have hsp : s.data.toList = s.data.toList.take o ++ 46 :: s.data.toList.drop (o + 1) := by
          conv => lhs; rw [← List.take_append_drop o s.data.toList]
          rw [List.drop_eq_getElem_cons hlt, (List.getElem?_eq_some_iff.1 h1).2]
        have hn : (s.data.toList.take o).count 46 = 0 := by
          rw [List.count_eq_zero]
          intro hm
          obtain ⟨j, hj, he⟩ := List.mem_iff_getElem.1 hm
          rw [List.length_take] at hj
          rw [List.getElem_take] at he
          exact h2 j (by omega) (by rw [List.getElem?_eq_some_iff]; exact ⟨by omega, he⟩)
        unfold Lib.countByte
        rw [hb]
        conv => rhs; rw [hsp]
        rw [List.count_append, hn, List.count_cons_self]
        omega
      · have hi : Lib.indexByte s.data.toList 46 = -1 := by
          have h1 := Lib.indexByte_ge s.data.toList 46
          have h2 : ¬ 0 ≤ Lib.indexByte s.data.toList 46 := fun h => hF (decide_eq_true h)
          omega
        rw [if_neg hF]
        have hn : s.data.toList.count 46 = 0 := by
          rw [List.count_eq_zero]
          intro hm
          obtain ⟨j, hj, he⟩ := List.mem_iff_getElem.1 hm
          exact Lib.indexByte_none hi j (by rw [List.getElem?_eq_some_iff]; exact ⟨hj, he⟩)
        unfold Lib.countByte
        rw [hn]
        rfl
  exact key _ s rfl

/-- The world where the loops begin. -/
def W00 (w : World) (n1 n3 : Nat) (hm hp ok : Bool) (r0 : ByteArray) : World :=
  ((((((((w.alloc (.cells #[.int .i64 0, .int .i64 0, .int .i64 0, .string ⟨#[]⟩, .string ⟨#[]⟩] 23)).drewN n1).alloc (.cells #[.bool hm] 4)).drewN n3).alloc (.cells #[.bool hp] 4)).alloc (.cells #[.bool ok] 4)).alloc (.cells #[.slice none 0 0] 57)).alloc (.cells #[.string r0] 9))
theorem W00_size (w : World) (n1 n3 : Nat) (hm hp ok : Bool) (r0 : ByteArray) : (W00 w n1 n3 hm hp ok r0).heap.size = w.heap.size + 6 := by simp [W00]
theorem W00_at (w : World) (n1 n3 : Nat) (hm hp ok : Bool) (r0 : ByteArray) :
    (W00 w n1 n3 hm hp ok r0).heap[w.heap.size]? = some (.cells #[.int .i64 0, .int .i64 0, .int .i64 0, .string ⟨#[]⟩, .string ⟨#[]⟩] 23 (0, 0)) ∧
    (W00 w n1 n3 hm hp ok r0).heap[w.heap.size + 1]? = some (.cells #[.bool hm] 4 (0, 0)) ∧ (W00 w n1 n3 hm hp ok r0).heap[w.heap.size + 2]? = some (.cells #[.bool hp] 4 (0, 0)) ∧
    (W00 w n1 n3 hm hp ok r0).heap[w.heap.size + 3]? = some (.cells #[.bool ok] 4 (0, 0)) ∧ (W00 w n1 n3 hm hp ok r0).heap[w.heap.size + 4]? = some (.cells #[.slice none 0 0] 57 (0, 0)) ∧
    (W00 w n1 n3 hm hp ok r0).heap[w.heap.size + 5]? = some (.cells #[.string r0] 9 (0, 0)) := by
  have hp : ∀ (h : Array Obj) (o0 o1 o2 o3 o4 o5 : Obj), ((((((h.push o0).push o1).push o2).push o3).push o4).push o5)[h.size]? = some o0 ∧ ((((((h.push o0).push o1).push o2).push o3).push o4).push o5)[h.size + 1]? = some o1 ∧ ((((((h.push o0).push o1).push o2).push o3).push o4).push o5)[h.size + 2]? = some o2 ∧ ((((((h.push o0).push o1).push o2).push o3).push o4).push o5)[h.size + 3]? = some o3 ∧ ((((((h.push o0).push o1).push o2).push o3).push o4).push o5)[h.size + 4]? = some o4 ∧ ((((((h.push o0).push o1).push o2).push o3).push o4).push o5)[h.size + 5]? = some o5 := by
    intro h o0 o1 o2 o3 o4 o5
    have e : ∀ (a : Array Obj) (x : Obj) (i : Nat), i ≠ a.size → (a.push x)[i]? = a[i]? := fun a x i h => by rw [Array.getElem?_push, if_neg h]
    have e3 : ∀ (a : Array Obj) (x : Obj) (i : Nat), i = a.size → (a.push x)[i]? = some x := fun a x i h => by rw [Array.getElem?_push, if_pos h]
    refine ⟨?_, ?_, ?_, ?_, ?_, ?_⟩
    · rw [e _ _ _ (by simp only [Array.size_push]; omega), e _ _ _ (by simp only [Array.size_push]; omega), e _ _ _ (by simp only [Array.size_push]; omega), e _ _ _ (by simp only [Array.size_push]; omega), e _ _ _ (by simp only [Array.size_push]; omega), e3 _ _ _ (by simp only [Array.size_push])]
    · rw [e _ _ _ (by simp only [Array.size_push]; omega), e _ _ _ (by simp only [Array.size_push]; omega), e _ _ _ (by simp only [Array.size_push]; omega), e _ _ _ (by simp only [Array.size_push]; omega), e3 _ _ _ (by simp only [Array.size_push])]
    · rw [e _ _ _ (by simp only [Array.size_push]; omega), e _ _ _ (by simp only [Array.size_push]; omega), e _ _ _ (by simp only [Array.size_push]; omega), e3 _ _ _ (by simp only [Array.size_push])]
    · rw [e _ _ _ (by simp only [Array.size_push]; omega), e _ _ _ (by simp only [Array.size_push]; omega), e3 _ _ _ (by simp only [Array.size_push])]
    · rw [e _ _ _ (by simp only [Array.size_push]; omega), e3 _ _ _ (by simp only [Array.size_push])]
    · rw [e3 _ _ _ (by simp only [Array.size_push])]
  exact hp w.heap _ _ _ _ _ _
theorem W00_st (w : World) (n1 n3 : Nat) (hm hp ok : Bool) (r0 : ByteArray) : St w hm hp ok (.slice none 0 0) [] [] (W00 w n1 n3 hm hp ok r0) := by
  obtain ⟨h0, h1, h2, h3, h4, _⟩ := W00_at w n1 n3 hm hp ok r0
  refine ⟨h0, h1, h2, h3, h4, World.ownsRow_nil _ _ _ _, (fun D h => by cases h), ?_, by rw [W00_size]; omega⟩
  unfold W00
  have b2 := pw_below_drewN ((Below.refl w.heap.size w).alloc (Nat.le_refl _) (.cells #[.int .i64 0, .int .i64 0, .int .i64 0, .string ⟨#[]⟩, .string ⟨#[]⟩] 23)) n1
  have b4 := pw_below_drewN (b2.alloc (by simp) (.cells #[.bool hm] 4)) n3
  exact (((b4.alloc (by simp; omega) _).alloc (by simp; omega) _).alloc (by simp; omega) _).alloc (by simp; omega) _

set_option maxRecDepth 100000 in
set_option maxHeartbeats 8000000 in
theorem Parse_calls (s : ByteArray) (hs : s.size ≤ 140737488351232) (w : World) :
    Calls Tryd.prog 11 #[.string s] w fun e w' => e = .returned (.tuple #[.agg #[.int .i64 (parseF s).1, .int .i64 (parseF s).2.1, .int .i64 (parseF s).2.2.1, .string (parseF s).2.2.2.1, .string (parseF s).2.2.2.2.1], .int .i64 (parseF s).2.2.2.2.2]) ∧ Below w.heap.size w w' := by
  obtain ⟨i0, hi, hz0, hz1, hz2⟩ := info_parts info_int
  have hcut := cut_head s 118
  by_cases h1 : (L s).head? = some 118 ∧ s.size ≤ 60
  · rw [decide_eq_true h1.1, if_pos h1.1] at hcut
    obtain ⟨r, hr⟩ : ∃ r, s.extract 1 s.size = r := ⟨_, rfl⟩
    rw [hr] at hcut
    have hrs : r.size ≤ 60 := by rw [← hr, ByteArray.size_extract]; have := h1.2; omega
    have hpf : parseF s = bodyF r := by
      unfold parseF bodyF
      rw [hr]
      by_cases h2 : ok4 r = true
      · rw [if_pos h2, if_pos ⟨h1.1, h1.2, h2⟩]
      · rw [if_neg h2, if_neg (fun h => h2 h.2.2)]
    rw [hpf]
    have hs60 : decide ((60 : Int) < (s.size : Int)) = false := decide_eq_false (by have := h1.2; omega)
    have c1 := cut_calls 43 r (by omega)
    have c2 := cut_calls 45 (cutA 43 r) (by have := cutA_le 43 r; omega)
    have c3 := Tryd.strings_Count_one (restOf r) 46
    have HCUT := Aside0.mk hcut
    have HC1 := Aside0.mk c1
    have HC2 := Aside0.mk c2
    have HC3 := Aside0.mk c3
    clear hcut h1 hr hpf c1 c2 c3
    refine (callsIn_wide (n := 4)).1 ?_
    refine callsIn_of_wp_marks Tryd.func11 rfl trivial ?_ rfl
    simp only [Tryd.ntmps11, List.size_toArray, List.length_cons, List.length_nil, Nat.reduceAdd, Nat.reduceSub, Array.replicate_succ, Array.replicate_zero, List.push_toArray, List.append_toArray, List.nil_append, List.cons_append]
    gi_wp2_with fail
    refine ⟨trivial, (callsIn_wide.2 (HCUT.out _)).mono ?_⟩
    rintro e w' ⟨rfl, ⟨nd1, rfl⟩⟩
    gi_wp2_with fail
    refine ⟨trivial, (callsIn_wide.2 (HC1.out _)).mono ?_⟩
    rintro e w' ⟨rfl, ⟨nd2, rfl⟩⟩
    gi_wp2_with fail
    refine ⟨trivial, (callsIn_wide.2 (HC2.out _)).mono ?_⟩
    rintro e w' ⟨rfl, ⟨nd3, rfl⟩⟩
    gi_wp2_with fail
    refine ⟨trivial, (callsIn_wide.2 (HC3.out _)).mono ?_⟩
    rintro e w' ⟨rfl, rfl⟩
    gi_wp2_with fail
    refine ⟨trivial, (callsIn_wide.2 (idents_calls _ _)).mono ?_⟩
    rintro e w' ⟨rfl, rfl⟩
    gi_wp2_with fail
    have hsz := W00_size w (nd1 + nd2) nd3 (hasMeta r) (hasPre r) (ok1 r) (restOf r)
    have hst := W00_st w (nd1 + nd2) nd3 (hasMeta r) (hasPre r) (ok1 r) (restOf r)
    have hbx := (W00_at w (nd1 + nd2) nd3 (hasMeta r) (hasPre r) (ok1 r) (restOf r)).2.2.2.2.2
    show Code.wpIn _ _ _ _ _ _ (W00 w (nd1 + nd2) nd3 (hasMeta r) (hasPre r) (ok1 r) (restOf r))
    generalize W00 w (nd1 + nd2) nd3 (hasMeta r) (hasPre r) (ok1 r) (restOf r) = W0 at hsz hst hbx ⊢
    have hres : (restOf r).size ≤ 60 := by
      have h1 := cutA_le 45 (cutA 43 r)
      have h2 := cutA_le 43 r
      show (cutA 45 (cutA 43 r)).size ≤ 60
      omega
    refine' wpIn_rangeFunc_ownC rfl (by omega) (gf := 60) (lb := #[.pointer (some ⟨w.heap.size + 5, 0, none⟩)]) rfl trivial (enters_of Tryd.func60 (by kernel_rfl) rfl)
      (idents1 (4 - 1) (by omega) (w.heap.size + 5) (restOf r) (by omega) W0 hbx) (by omega) (Below.refl _ _) (fun _ => rfl)
      (fun pre W => ∃ v, St w (hasMeta r) (hasPre r) (ok1 r && pre.all numB) v (pre.map fun e => Value.int .i64 (numF e).1) [] W)
      (fun _ _ _ => False)
      ?hI (fun _ _ _ _ _ hs _ _ => hs) ?hB (fun _ _ _ _ hs _ => hs) ⟨_, by simpa using hst⟩ _ ?assign ?body ?done ?stop
    case assign =>
      intro l x W K hK
      gi_wp2
      exact hK
    case hI =>
      intro pre W W' row h hg hr
      obtain ⟨v, h⟩ := h
      exact ⟨v, St.own (β := Unit) (hm := hasMeta r) (hp := hasPre r) (ok := fun _ => ok1 r && pre.all numB) (v := fun _ => v) (xs := fun _ => pre.map fun e => Value.int .i64 (numF e).1) (Ds := []) (B := W0.heap.size) (by omega) (fun D h => by cases h) () W W' row h hg hr⟩
    case hB =>
      intro pre W W' h hg
      obtain ⟨v, h⟩ := h
      refine ⟨v, h.kept hg (fun q e => ?_)⟩
      cases e
      refine ⟨Nat.le_refl _, fun e => ?_, by simp⟩
      have := (h.2.2.2.2.2.1.lt _ e).1
      omega
    case body =>
      rintro l pre x W ⟨v, hst⟩ hlt
      obtain ⟨b, hbo⟩ : ∃ b, (ok1 r && pre.all numB) = b := ⟨_, rfl⟩
      rw [hbo] at hst
      have hbn : (ok1 r && (pre ++ [x]).all numB) = (b && numB x) := by rw [List.all_append, ← Bool.and_assoc, hbo]; simp
      have HBN := Aside0.mk hbn
      clear hbo hbn
      have hxs : x.size ≤ 60 := by
        have := split_len (restOf r) x (hlt.subset (List.mem_append.2 (.inr List.mem_cons_self)))
        omega
      have hpl : pre.length + 1 ≤ 61 := by
        obtain ⟨q, hq⟩ := hlt
        have h1 := congrArg List.length hq
        have h2 := split_count (restOf r)
        simp at h1
        omega
      have HN := Aside0.mk (number_calls x (by omega) W)
      have HST := Aside0.mk hst
      clear hst hlt
      gi_wp2_with fail
      refine ⟨trivial, (CallsIn.inRound l (callsIn_wide.2 HN.out)).mono ?_⟩
      rintro e W1 ⟨rfl, hb⟩
      have hst1 := HST.out.kept (below_grown_none hb) (fun _ e => by cases e)
      have HB := Aside0.mk hb
      have HS1 := Aside0.mk hst1
      have hc3 := hst1.2.2.2.1.cell
      have hc4 := hst1.2.2.2.2.1.cell
      have hlt1 := hst1.lt
      clear hb hst1
      gi_wp2_with fail
      refine startIn_ (S := fun w' => w'.cell? ⟨w.heap.size + 1 + 1 + 1 + 1, 0, none⟩ = some v ∧ w'.cell? ⟨w.heap.size + 1 + 1 + 1, 0, none⟩ = some (.bool b)) (ds := [8, 9]) #[false, false, false, false, false, false, false, false, false, false] (by kernel_rfl) rfl rfl (fun ⟨_, _, h⟩ => h) (by kernel_rfl) ⟨hc4, hc3⟩ (fun hH => ?_)
      refine pure_ (i := 1) (N := some 54) (v := ?_) (a' := ?_) #[false, true, false, false, false, false, false, false, false, false] rfl rfl (by kernel_rfl) (fun _ _ _ h => h) (Or.inl ⟨by rfl, ?_⟩) ?_ ?_
      rotate_left
      · intro w'
        go_simp
        with_reducible rfl
      rotate_left
      · simp only [Act.put, List.setIfInBounds_toArray, List.set_cons_zero, List.set_cons_succ]
        rfl
      refine take_ (i := 0) (N := some 53) (v := ?_) (a' := ?_) #[true, true, false, false, false, false, false, false, false, false] rfl rfl (by kernel_rfl) (fun _ _ _ h => h) (Or.inl ⟨by rfl, ?_⟩) hH ?_ ?_
      rotate_left
      · intro w' s0
        obtain ⟨s1, s2⟩ := s0
        go_simp
        with_reducible rfl
      rotate_left
      · simp only [Act.put, List.setIfInBounds_toArray, List.set_cons_zero, List.set_cons_succ]
        rfl
      refine take_ (i := 4) (N := some 57) (v := ?_) (a' := ?_) #[true, true, false, false, true, false, false, false, false, false] rfl rfl (by kernel_rfl) (fun _ _ _ h => h) (Or.inl ⟨by rfl, ?_⟩) hH ?_ ?_
      rotate_left
      · intro w' s0
        obtain ⟨s1, s2⟩ := s0
        go_simp
        with_reducible rfl
      rotate_left
      · simp only [Act.put, List.setIfInBounds_toArray, List.set_cons_zero, List.set_cons_succ]
        rfl
      refine one_ (i := 2) (N := some 55) #[true, true, true, false, true, false, false, false, false, false] rfl rfl (by kernel_rfl) (by decide) (fun K hK => ?_)
      rw [if_pos (by rfl)]
      go_simp
      have hA3 := HS1.out.2.2.2.1.alloc (.cells #[.int .i64 (numF x).1] 3)
      have hA4 := HS1.out.2.2.2.2.1.alloc (.cells #[.int .i64 (numF x).1] 3)
      have hAr := HS1.out.2.2.2.2.2.1.alloc (.cells #[.int .i64 (numF x).1] 3)
      refine hK.out _ _ ⟨hA4.cell, hA3.cell⟩ (fun hH => ?_)
      clear hK K
      refine one_ (i := 3) (N := some 56) #[true, true, true, true, true, false, false, false, false, false] rfl rfl (by kernel_rfl) (by decide) (fun K hK => ?_)
      refine stepAppendOwn rfl _ _ 57 rfl (w.heap.size + 6) 3 i0 (.int .i64 0) 1 8 Tryd.underlying57 hi hz0 hz1 hz2 rfl (by decide) v _ _ rfl hAr ⟨W1.heap.size, 0, none⟩ 1 1 [.int .i64 (numF x).1] rfl rfl (cell_one_new W1 _ _) (by simp [Value.oneCell']) ?_ ?_ ?_ ?_
      · simp; unfold maxLen; omega
      · simp; omega
      · simp; omega
      intro v' w1 hown hgrow0 _
      obtain ⟨g', cap', rfl⟩ := ownsRow_succ hown
      have hgrow : (W1.alloc (.cells #[.int .i64 (numF x).1] 3)).grownBy w1 v.ownBlock := ⟨hgrow0.os, hgrow0.tape, hgrow0.output, hgrow0.size, hgrow0.block⟩
      have hG3 : Boxed w1 (w.heap.size + 3) 4 (.bool b) := hA3.kept hgrow (fun e => by have := (hAr.lt _ e.symm).1; omega)
      have hG4 : Boxed w1 (w.heap.size + 4) 57 v := hA4.kept hgrow (fun e => by have := (hAr.lt _ e.symm).1; omega)
      refine hK.out _ _ ⟨hG4.cell, hG3.cell⟩ (fun hH => ?_)
      clear hK K
      have hs4 := hG4.cell
      have hs3 := hG3.cell
      have hf4 := hG4.frozen
      have hf3 := hG3.frozen
      have hS5 := fun ok' => HS1.out.step (ok' := ok') (by simpa using hown) hgrow0
      have HS5 := Aside0.mk hS5
      clear hS5
      cases b with
      | true =>
        refine pure_ (i := 5) (N := some 58) (v := ?_) (a' := ?_) #[true, true, true, true, true, true, false, false, false, false] rfl rfl (by kernel_rfl) (fun _ _ _ h => h) (Or.inl ⟨by rfl, ?_⟩) ?_ ?_
        rotate_left
        · intro w'
          go_simp
          with_reducible rfl
        rotate_left
        · simp only [Act.put, List.setIfInBounds_toArray, List.set_cons_zero, List.set_cons_succ]
          rfl
        refine pure_ (i := 6) (N := some 59) (v := ?_) (a' := ?_) #[true, true, true, true, true, true, true, false, false, false] rfl rfl (by kernel_rfl) (fun _ _ _ h => h) (Or.inl ⟨by rfl, ?_⟩) ?_ ?_
        rotate_left
        · intro w'
          go_simp
          with_reducible rfl
        rotate_left
        · simp only [Act.put, List.setIfInBounds_toArray, List.set_cons_zero, List.set_cons_succ]
          rfl
        refine pure_ (i := 7) (N := some 60) (v := ?_) (a' := ?_) #[true, true, true, true, true, true, true, true, false, false] rfl rfl (by kernel_rfl) (fun _ _ _ h => h) (Or.inl ⟨by rfl, ?_⟩) ?_ ?_
        rotate_left
        · intro w'
          go_simp
          with_reducible rfl
        rotate_left
        · simp only [Act.put, List.setIfInBounds_toArray, List.set_cons_zero, List.set_cons_succ]
          rfl
        refine last_ (i := 8) (N := none) #[true, true, true, true, true, true, true, true, true, false] rfl rfl (by kernel_rfl) (by decide) (fun K hK => ?_)
        rw [if_pos (by rfl)]
        go_simp
        refine hK.out _ _ ?_
        clear hK K
        refine last_ (i := 9) (N := none) #[true, true, true, true, true, true, true, true, true, true] rfl rfl (by kernel_rfl) (by decide) (fun K hK => ?_)
        rw [if_pos (by rfl)]
        go_simp
        refine hK.out _ _ (done_ (by kernel_rfl) ?_)
        clear hK K
        have h9 := HS5.out ((numF x).2)
        have hW : w.heap.size + 5 < W.heap.size := by have := HST.out.2.2.2.2.2.2.2.2; omega
        have hB5 : w.heap.size + 5 < W1.heap.size := by have := HB.out.size; omega
        refine ⟨(keeps_below HB.out).trans h9.2.1, ?_, .slice (some ⟨g', 0, none⟩) (pre.length + 1) cap', ?_⟩
        · exact (h9.2.2 (w.heap.size + 5) hB5 (by omega) (by omega) (fun e => by have := (HST.out.2.2.2.2.2.1.lt _ e).1; omega)).trans (HB.out.block _ hW)
        · rw [HBN.out, List.map_append]
          rw [Bool.true_and, ← numF_snd]
          exact h9.1
      | false =>
        refine pure_ (i := 5) (N := some 58) (v := ?_) (a' := ?_) #[true, true, true, true, true, true, false, false, false, false] rfl rfl (by kernel_rfl) (fun _ _ _ h => h) (Or.inl ⟨by rfl, ?_⟩) ?_ ?_
        rotate_left
        · intro w'
          go_simp
          with_reducible rfl
        rotate_left
        · simp only [Act.put, List.setIfInBounds_toArray, List.set_cons_zero, List.set_cons_succ]
          rfl
        refine pure_ (i := 6) (N := some 59) (v := undef) (a' := ?_) #[true, true, true, true, true, true, true, false, false, false] rfl rfl (by kernel_rfl) (fun _ _ _ h => h) (Or.inr ⟨by rfl, rfl⟩) ?_ ?_
        rotate_left
        · simp only [Act.put, List.setIfInBounds_toArray, List.set_cons_zero, List.set_cons_succ]
          rfl
        refine pure_ (i := 7) (N := some 60) (v := ?_) (a' := ?_) #[true, true, true, true, true, true, true, true, false, false] rfl rfl (by kernel_rfl) (fun _ _ _ h => h) (Or.inl ⟨by rfl, ?_⟩) ?_ ?_
        rotate_left
        · intro w'
          go_simp
          with_reducible rfl
        rotate_left
        · simp only [Act.put, List.setIfInBounds_toArray, List.set_cons_zero, List.set_cons_succ]
          rfl
        refine last_ (i := 8) (N := none) #[true, true, true, true, true, true, true, true, true, false] rfl rfl (by kernel_rfl) (by decide) (fun K hK => ?_)
        rw [if_pos (by rfl)]
        go_simp
        refine hK.out _ _ ?_
        clear hK K
        refine last_ (i := 9) (N := none) #[true, true, true, true, true, true, true, true, true, true] rfl rfl (by kernel_rfl) (by decide) (fun K hK => ?_)
        rw [if_pos (by rfl)]
        go_simp
        refine hK.out _ _ (done_ (by kernel_rfl) ?_)
        clear hK K
        have h9 := HS5.out (false)
        have hW : w.heap.size + 5 < W.heap.size := by have := HST.out.2.2.2.2.2.2.2.2; omega
        have hB5 : w.heap.size + 5 < W1.heap.size := by have := HB.out.size; omega
        refine ⟨(keeps_below HB.out).trans h9.2.1, ?_, .slice (some ⟨g', 0, none⟩) (pre.length + 1) cap', ?_⟩
        · exact (h9.2.2 (w.heap.size + 5) hB5 (by omega) (by omega) (fun e => by have := (HST.out.2.2.2.2.2.1.lt _ e).1; omega)).trans (HB.out.block _ hW)
        · rw [HBN.out, List.map_append]
          rw [Bool.false_and]
          exact h9.1
    case stop =>
      rintro D c pre W _ _ h _
      exact h.elim
    case done =>
      rintro D W hD ⟨v, hst⟩ hK
      rw [show (ok1 r && (split 46 (restOf r)).all numB) = ok2 r from rfl] at hst
      obtain ⟨hst1, hbx1, hsz1, hge1, hvB1, hDs1⟩ := hst.next D (by omega) hK (preOf r)
      clear hst hK
      gi_wp2_with fail
      refine ⟨trivial, (callsIn_wide.2 (idents_calls _ _)).mono ?_⟩
      rintro e w' ⟨rfl, rfl⟩
      gi_wp2_with fail
      show Code.wpIn _ _ _ _ _ _ (W.alloc (.cells #[.string (preOf r)] 9))
      generalize W.alloc (.cells #[.string (preOf r)] 9) = Wa at hst1 hbx1 hsz1 ⊢
      generalize W.heap.size = B1 at hbx1 hsz1 hge1 hvB1 hDs1 ⊢
      have hps : (preOf r).size ≤ 60 := by
        have h1 := cutB_le 45 (cutA 43 r)
        have h2 := cutA_le 43 r
        show (cutB 45 (cutA 43 r)).size ≤ 60
        omega
      refine' wpIn_rangeFunc_ownC rfl (by omega) (gf := 60) (lb := #[.pointer (some ⟨B1, 0, none⟩)]) rfl trivial (enters_of Tryd.func60 (by kernel_rfl) rfl)
        (idents1 (4 - 1) (by omega) B1 (preOf r) (by omega) Wa hbx1) (by omega) (Below.refl _ _) (fun _ => rfl)
        (fun pre W => St w (hasMeta r) (hasPre r) (ok2 r && pre.all (preB (hasPre r))) v ((split 46 (restOf r)).map fun e => Value.int .i64 (numF e).1) [D] W)
        (fun _ _ _ => False)
        (St.own (β := List ByteArray) (by omega) (fun D' hD' => by have := hDs1 D' hD'; omega)) (fun _ _ _ _ _ hs _ _ => hs) ?hB2 (fun _ _ _ _ hs _ => hs) (by simpa using hst1) _ ?assign2 ?body2 ?done2 ?stop2
      case assign2 =>
        intro l x W K hK
        gi_wp2
        exact hK
      case hB2 =>
        intro pre W W' h hg
        refine h.kept hg (fun q e => ?_)
        cases e
        exact ⟨by omega, hvB1, fun hm => by have := hDs1 _ hm; omega⟩
      case stop2 =>
        rintro D c pre W _ _ h _
        exact h.elim
      case body2 =>
        rintro l pre x W hst hlt
        obtain ⟨b, hbo⟩ : ∃ b, (ok2 r && pre.all (preB (hasPre r))) = b := ⟨_, rfl⟩
        rw [hbo] at hst
        have hbn : (ok2 r && (pre ++ [x]).all (preB (hasPre r))) = (b && preB (hasPre r) x) := by rw [List.all_append, ← Bool.and_assoc, hbo]; simp
        have HBN := Aside0.mk hbn
        have hxs : x.size ≤ 60 := by
          have := split_len (preOf r) x (hlt.subset (List.mem_append.2 (.inr List.mem_cons_self)))
          omega
        have HE := fun W => Aside0.mk (every_sign x (by omega) W)
        have HN := fun W => Aside0.mk (nought_calls x (by omega) W)
        have hc3 := hst.2.2.2.1.cell
        have hf3 := hst.2.2.2.1.frozen
        have hcp := hst.2.2.1.cell
        have HST := Aside0.mk hst
        clear hbo hbn hst hlt
        have hund : undef = Value.tuple #[] := rfl
        cases b with
        | false =>
          gi_wp2_with fail
          refine ⟨trivial, ?_⟩
          gi_wp2_with fail
          refine ⟨trivial, ?_⟩
          gi_wp2_with fail
          have h9 := HST.out.round (0) (false) B1 (by omega)
          refine ⟨h9.1, h9.2.1, ?_⟩
          show St w _ _ (ok2 r && (pre ++ [x]).all (preB (hasPre r))) _ _ _ _
          rw [HBN.out, Bool.false_and]
          exact h9.2.2
        | true =>
          rcases (show hasPre r = false ∨ hasPre r = true from by cases hasPre r <;> simp) with hpv | hpv
          · rw [hpv] at hcp
            have HPV := Aside0.mk hpv
            clear hpv
            gi_wp2_with fail
            refine ⟨trivial, ?_⟩
            gi_wp2_with fail
            refine ⟨trivial, ?_⟩
            gi_wp2_with fail
            have h9 := HST.out.round (0) (true) B1 (by omega)
            refine ⟨h9.1, h9.2.1, ?_⟩
            show St w _ _ (ok2 r && (pre ++ [x]).all (preB (hasPre r))) _ _ _ _
            rw [HBN.out, Bool.true_and, HPV.out, show preB false x = true from rfl]
            have h10 := h9.2.2
            rw [HPV.out] at h10
            exact h10
          · rw [hpv] at hcp
            have HPV := Aside0.mk hpv
            clear hpv
            cases hev : everyB signB x with
            | false =>
              have HEV := Aside0.mk hev
              clear hev
              gi_wp2_with fail
              refine ⟨trivial, (CallsIn.inRound l (callsIn_wide.2 (HE _).out)).mono ?_⟩
              rintro e w' ⟨he, ⟨nd, rfl⟩⟩
              rw [HEV.out] at he
              subst he
              gi_wp2_with fail
              refine ⟨trivial, ?_⟩
              gi_wp2_with fail
              have h9 := HST.out.round (nd) (false) B1 (by omega)
              refine ⟨h9.1, h9.2.1, ?_⟩
              show St w _ _ (ok2 r && (pre ++ [x]).all (preB (hasPre r))) _ _ _ _
              rw [HBN.out, Bool.true_and, HPV.out, show preB true x = false from by unfold preB; rw [HEV.out]; rfl]
              have h10 := h9.2.2
              rw [HPV.out] at h10
              exact h10
            | true =>
              have HEV := Aside0.mk hev
              clear hev
              gi_wp2_with fail
              refine ⟨trivial, (CallsIn.inRound l (callsIn_wide.2 (HE _).out)).mono ?_⟩
              rintro e w' ⟨he, ⟨nd, rfl⟩⟩
              rw [HEV.out] at he
              subst he
              gi_wp2_with fail
              refine ⟨trivial, (CallsIn.inRound l (callsIn_wide.2 (HN _).out)).mono ?_⟩
              rintro e w' ⟨rfl, ⟨nd2, rfl⟩⟩
              gi_wp2_with fail
              have h9 := HST.out.round (nd + nd2) (!noughtB x) B1 (by omega)
              refine ⟨h9.1, h9.2.1, ?_⟩
              show St w _ _ (ok2 r && (pre ++ [x]).all (preB (hasPre r))) _ _ _ _
              rw [HBN.out, Bool.true_and, HPV.out, show preB true x = !noughtB x from by unfold preB; rw [HEV.out]; rfl]
              have h10 := h9.2.2
              rw [HPV.out] at h10
              exact h10
      case done2 =>
        rintro D2 W2 hD2 hst2 hK2
        rw [show (ok2 r && (split 46 (preOf r)).all (preB (hasPre r))) = ok3 r from rfl] at hst2
        obtain ⟨hst3, hbx3, hsz3, hge3, hvB3, hDs3⟩ := hst2.next D2 (by omega) hK2 (metaOf r)
        clear hst2 hK2
        gi_wp2_with fail
        refine ⟨trivial, (callsIn_wide.2 (idents_calls _ _)).mono ?_⟩
        rintro e w' ⟨rfl, rfl⟩
        gi_wp2_with fail
        show Code.wpIn _ _ _ _ _ _ (W2.alloc (.cells #[.string (metaOf r)] 9))
        generalize W2.alloc (.cells #[.string (metaOf r)] 9) = Wb at hst3 hbx3 hsz3 ⊢
        generalize W2.heap.size = B2 at hbx3 hsz3 hge3 hvB3 hDs3 ⊢
        have hms : (metaOf r).size ≤ 60 := by
          have h1 := cutB_le 43 r
          show (cutB 43 r).size ≤ 60
          omega
        refine' wpIn_rangeFunc_ownC rfl (by omega) (gf := 60) (lb := #[.pointer (some ⟨B2, 0, none⟩)]) rfl trivial (enters_of Tryd.func60 (by kernel_rfl) rfl)
          (idents1 (4 - 1) (by omega) B2 (metaOf r) (by omega) Wb hbx3) (by omega) (Below.refl _ _) (fun _ => rfl)
          (fun pre W => St w (hasMeta r) (hasPre r) (ok3 r && pre.all (metaB (hasMeta r))) v ((split 46 (restOf r)).map fun e => Value.int .i64 (numF e).1) [D2, D] W)
          (fun _ _ _ => False)
          (St.own (β := List ByteArray) (by omega) (fun D' hD' => by have := hDs3 D' hD'; omega)) (fun _ _ _ _ _ hs _ _ => hs) ?hB3 (fun _ _ _ _ hs _ => hs) (by simpa using hst3) _ ?assign3 ?body3 ?done3 ?stop3
        case assign3 =>
          intro l x W K hK
          gi_wp2
          exact hK
        case hB3 =>
          intro pre W W' h hg
          refine h.kept hg (fun q e => ?_)
          cases e
          exact ⟨by omega, hvB3, fun hm => by have := hDs3 _ hm; omega⟩
        case stop3 =>
          rintro D c pre W _ _ h _
          exact h.elim
        case body3 =>
          rintro l pre x W hst hlt
          obtain ⟨b, hbo⟩ : ∃ b, (ok3 r && pre.all (metaB (hasMeta r))) = b := ⟨_, rfl⟩
          rw [hbo] at hst
          have hbn : (ok3 r && (pre ++ [x]).all (metaB (hasMeta r))) = (b && metaB (hasMeta r) x) := by rw [List.all_append, ← Bool.and_assoc, hbo]; simp
          have HBN := Aside0.mk hbn
          have hxs : x.size ≤ 60 := by
            have := split_len (metaOf r) x (hlt.subset (List.mem_append.2 (.inr List.mem_cons_self)))
            omega
          have HE := fun W => Aside0.mk (every_sign x (by omega) W)
          have hc3 := hst.2.2.2.1.cell
          have hf3 := hst.2.2.2.1.frozen
          have hcp := hst.2.1.cell
          have HST := Aside0.mk hst
          clear hbo hbn hst hlt
          have hund : undef = Value.tuple #[] := rfl
          cases b with
          | false =>
            gi_wp2_with fail
            refine ⟨trivial, ?_⟩
            gi_wp2_with fail
            have h9 := HST.out.round (0) (false) B2 (by omega)
            refine ⟨h9.1, h9.2.1, ?_⟩
            show St w _ _ (ok3 r && (pre ++ [x]).all (metaB (hasMeta r))) _ _ _ _
            rw [HBN.out, Bool.false_and]
            exact h9.2.2
          | true =>
            rcases (show hasMeta r = false ∨ hasMeta r = true from by cases hasMeta r <;> simp) with hpv | hpv
            · rw [hpv] at hcp
              have HPV := Aside0.mk hpv
              clear hpv
              gi_wp2_with fail
              refine ⟨trivial, ?_⟩
              gi_wp2_with fail
              have h9 := HST.out.round (0) (true) B2 (by omega)
              refine ⟨h9.1, h9.2.1, ?_⟩
              show St w _ _ (ok3 r && (pre ++ [x]).all (metaB (hasMeta r))) _ _ _ _
              rw [HBN.out, Bool.true_and, HPV.out, show metaB false x = true from rfl]
              have h10 := h9.2.2
              rw [HPV.out] at h10
              exact h10
            · rw [hpv] at hcp
              have HPV := Aside0.mk hpv
              clear hpv
              cases hev : everyB signB x with
              | false =>
                have HEV := Aside0.mk hev
                clear hev
                gi_wp2_with fail
                refine ⟨trivial, (CallsIn.inRound l (callsIn_wide.2 (HE _).out)).mono ?_⟩
                rintro e w' ⟨he, ⟨nd, rfl⟩⟩
                rw [HEV.out] at he
                subst he
                gi_wp2_with fail
                have h9 := HST.out.round (nd) (false) B2 (by omega)
                refine ⟨h9.1, h9.2.1, ?_⟩
                show St w _ _ (ok3 r && (pre ++ [x]).all (metaB (hasMeta r))) _ _ _ _
                rw [HBN.out, Bool.true_and, HPV.out, show metaB true x = false from by unfold metaB; rw [HEV.out]; rfl]
                have h10 := h9.2.2
                rw [HPV.out] at h10
                exact h10
              | true =>
                have HEV := Aside0.mk hev
                clear hev
                gi_wp2_with fail
                refine ⟨trivial, (CallsIn.inRound l (callsIn_wide.2 (HE _).out)).mono ?_⟩
                rintro e w' ⟨he, ⟨nd, rfl⟩⟩
                rw [HEV.out] at he
                subst he
                gi_wp2_with fail
                have h9 := HST.out.round (nd) (true) B2 (by omega)
                refine ⟨h9.1, h9.2.1, ?_⟩
                show St w _ _ (ok3 r && (pre ++ [x]).all (metaB (hasMeta r))) _ _ _ _
                rw [HBN.out, Bool.true_and, HPV.out, show metaB true x = true from by unfold metaB; rw [HEV.out]; rfl]
                have h10 := h9.2.2
                rw [HPV.out] at h10
                exact h10
        case done3 =>
          rintro D3 W3 hD3 hst4 hK4
          rw [show (ok3 r && (split 46 (metaOf r)).all (metaB (hasMeta r))) = ok4 r from rfl] at hst4
          have hc0 : ∀ j, j < 5 → W3.cell? ⟨w.heap.size, j, none⟩ = #[Value.int .i64 0, .int .i64 0, .int .i64 0, .string ⟨#[]⟩, .string ⟨#[]⟩][j]? := fun j hj => cell_of_row _ _ _ _ _ _ hst4.1
          have hf0 : ∀ j, W3.frozen? ⟨w.heap.size, j, none⟩ = false := fun j => frozen_of_row _ _ j _ _ hst4.1
          have hc3 := hst4.2.2.2.1.cell
          have HST := Aside0.mk hst4
          rcases (show ok4 r = false ∨ ok4 r = true from by cases ok4 r <;> simp) with hok | hok
          · rw [hok] at hc3
            have h0 := hc0 0 (by omega)
            have h1 := hc0 1 (by omega)
            have h2 := hc0 2 (by omega)
            have h3 := hc0 3 (by omega)
            have h4 := hc0 4 (by omega)
            have g0 := hf0 0
            have g1 := hf0 1
            have g2 := hf0 2
            have g3 := hf0 3
            have g4 := hf0 4
            have HOK := Aside0.mk hok
            have HK := Aside0.mk hK4
            clear hok hc0 hf0 hst4 hst3 hst1 hst hK4
            gi_wp2_with fail
            obtain ⟨hz, hzo⟩ := fin_world W3 w.heap.size (.int .i64 0) (.int .i64 0) (.int .i64 0) (.string ⟨#[]⟩) (.string ⟨#[]⟩) _ _ _ _ _ _ HST.out.1
            have hlt4 := HST.out.2.2.2.2.2.2.2.2
            have hD1 : D < B2 ∧ D2 < B2 := ⟨hDs3 D (by simp), hDs3 D2 (by simp)⟩
            have hD0 := HST.out.2.2.2.2.2.2.1 D (by simp)
            have hD20 := HST.out.2.2.2.2.2.2.1 D2 (by simp)
            have hD1B := hDs1 D (by simp)
            have hne1 : D2 ≠ D := by omega
            have hk3 := (hzo D3 (by omega)).trans HK.out
            have hk2 := (hzo D2 (by omega)).trans hD20.2
            have hk1 := (hzo D (by omega)).trans hD0.2
            have hbz : Below w.heap.size w (((((W3.setCell ⟨w.heap.size, 0, none⟩ (.int .i64 0)).setCell ⟨w.heap.size, 1, none⟩ (.int .i64 0)).setCell ⟨w.heap.size, 2, none⟩ (.int .i64 0)).setCell ⟨w.heap.size, 3, none⟩ (.string ⟨#[]⟩)).setCell ⟨w.heap.size, 4, none⟩ (.string ⟨#[]⟩)) :=
              ((((HST.out.2.2.2.2.2.2.2.1.setCell (p := ⟨w.heap.size, 0, none⟩) (Nat.le_refl _) _).setCell (p := ⟨w.heap.size, 1, none⟩) (Nat.le_refl _) _).setCell (p := ⟨w.heap.size, 2, none⟩) (Nat.le_refl _) _).setCell (p := ⟨w.heap.size, 3, none⟩) (Nat.le_refl _) _).setCell (p := ⟨w.heap.size, 4, none⟩) (Nat.le_refl _) _
            generalize (((((W3.setCell ⟨w.heap.size, 0, none⟩ (.int .i64 0)).setCell ⟨w.heap.size, 1, none⟩ (.int .i64 0)).setCell ⟨w.heap.size, 2, none⟩ (.int .i64 0)).setCell ⟨w.heap.size, 3, none⟩ (.string ⟨#[]⟩)).setCell ⟨w.heap.size, 4, none⟩ (.string ⟨#[]⟩)) = Wz at hz hzo hk3 hk2 hk1 hbz ⊢
            obtain ⟨hk2', hk1', hcz, hbl⟩ := leave hz (by omega) (by omega) (by omega) (by omega) (by omega) hne1 hk3 hk2 hk1 hbz
            refine ⟨by simp, .inl ⟨_, _, rfl, run_takeDeferred hk3, ?_⟩⟩
            refine ⟨by simp, .inl ⟨_, _, rfl, run_takeDeferred hk2', ?_⟩⟩
            refine ⟨by simp, .inl ⟨_, _, rfl, run_takeDeferred hk1', ?_⟩⟩
            have z0 := hcz 0
            have z1 := hcz 1
            have z2 := hcz 2
            have z3 := hcz 3
            have z4 := hcz 4
            have hbo : bodyF r = (0, 0, 0, ⟨#[]⟩, ⟨#[]⟩, 30) := by unfold bodyF; rw [HOK.out]; rfl
            refine ⟨.tuple #[.agg #[.int .i64 0, .int .i64 0, .int .i64 0, .string ⟨#[]⟩, .string ⟨#[]⟩], .int .i64 30], ?_, by rw [hbo], hbl⟩
            simp [results, Tryd.results11, go_sem, z0, z1, z2, z3, z4]
          · rw [hok] at hc3
            obtain ⟨x0, x1, x2, hx⟩ : ∃ x0 x1 x2, split 46 (restOf r) = [x0, x1, x2] := by
              have h9 : ok1 r = true := by
                have := hok
                unfold ok4 ok3 ok2 at this
                simp only [Bool.and_eq_true] at this
                exact this.1.1.1
              have hl := split_length (restOf r)
              unfold ok1 at h9
              have h8 : Lib.countByte (restOf r).data.toList 46 = 2 := by have := beq_iff_eq.1 h9; omega
              rw [h8] at hl
              match split 46 (restOf r), hl with
              | [x0, x1, x2], _ => exact ⟨x0, x1, x2, rfl⟩
            have hrow := hst4.2.2.2.2.2.1
            have hb4 := hst4.2.2.2.2.1
            rw [hx] at hrow
            simp only [List.map_cons, List.map_nil, List.length_cons, List.length_nil] at hrow
            obtain ⟨g, cap, rfl⟩ := ownsRow_succ hrow
            have r0 := hrow.cellAt 0 (by omega)
            have r1 := hrow.cellAt 1 (by omega)
            have r2 := hrow.cellAt 2 (by omega)
            have hcn := hb4.cell
            have h0 := hc0 0 (by omega)
            have h1 := hc0 1 (by omega)
            have h2 := hc0 2 (by omega)
            have h3 := hc0 3 (by omega)
            have h4 := hc0 4 (by omega)
            have g0 := hf0 0
            have g1 := hf0 1
            have g2 := hf0 2
            have g3 := hf0 3
            have g4 := hf0 4
            have HOK := Aside0.mk hok
            have HK := Aside0.mk hK4
            have HX := Aside0.mk hx
            have HR := Aside0.mk hrow
            clear hok hc0 hf0 hst4 hst3 hst1 hst hK4 hx hrow hb4
            gi_wp2_with fail
            refine wpIn_wide.2 ?_
            go_still_tail 12, (by kernel_rfl)
            go_wp2_with fail
            gi_wp2_with fail
            obtain ⟨hz, hzo⟩ := fin_world W3 w.heap.size (.int .i64 (numF x0).1) (.int .i64 (numF x1).1) (.int .i64 (numF x2).1) (.string (cutB 45 (cutA 43 r))) (.string (cutB 43 r)) _ _ _ _ _ _ HST.out.1
            have hlt4 := HST.out.2.2.2.2.2.2.2.2
            have hD1 : D < B2 ∧ D2 < B2 := ⟨hDs3 D (by simp), hDs3 D2 (by simp)⟩
            have hD0 := HST.out.2.2.2.2.2.2.1 D (by simp)
            have hD20 := HST.out.2.2.2.2.2.2.1 D2 (by simp)
            have hD1B := hDs1 D (by simp)
            have hne1 : D2 ≠ D := by omega
            have hk3 := (hzo D3 (by omega)).trans HK.out
            have hk2 := (hzo D2 (by omega)).trans hD20.2
            have hk1 := (hzo D (by omega)).trans hD0.2
            have hbz : Below w.heap.size w (((((W3.setCell ⟨w.heap.size, 0, none⟩ (.int .i64 (numF x0).1)).setCell ⟨w.heap.size, 1, none⟩ (.int .i64 (numF x1).1)).setCell ⟨w.heap.size, 2, none⟩ (.int .i64 (numF x2).1)).setCell ⟨w.heap.size, 3, none⟩ (.string (cutB 45 (cutA 43 r)))).setCell ⟨w.heap.size, 4, none⟩ (.string (cutB 43 r))).drew :=
              (((((HST.out.2.2.2.2.2.2.2.1.setCell (p := ⟨w.heap.size, 0, none⟩) (Nat.le_refl _) _).setCell (p := ⟨w.heap.size, 1, none⟩) (Nat.le_refl _) _).setCell (p := ⟨w.heap.size, 2, none⟩) (Nat.le_refl _) _).setCell (p := ⟨w.heap.size, 3, none⟩) (Nat.le_refl _) _).setCell (p := ⟨w.heap.size, 4, none⟩) (Nat.le_refl _) _).drew
            have hzd : (((((W3.setCell ⟨w.heap.size, 0, none⟩ (.int .i64 (numF x0).1)).setCell ⟨w.heap.size, 1, none⟩ (.int .i64 (numF x1).1)).setCell ⟨w.heap.size, 2, none⟩ (.int .i64 (numF x2).1)).setCell ⟨w.heap.size, 3, none⟩ (.string (cutB 45 (cutA 43 r)))).setCell ⟨w.heap.size, 4, none⟩ (.string (cutB 43 r))).drew.heap[w.heap.size]? = _ := hz
            have hk3d : (((((W3.setCell ⟨w.heap.size, 0, none⟩ (.int .i64 (numF x0).1)).setCell ⟨w.heap.size, 1, none⟩ (.int .i64 (numF x1).1)).setCell ⟨w.heap.size, 2, none⟩ (.int .i64 (numF x2).1)).setCell ⟨w.heap.size, 3, none⟩ (.string (cutB 45 (cutA 43 r)))).setCell ⟨w.heap.size, 4, none⟩ (.string (cutB 43 r))).drew.heap[D3]? = _ := hk3
            have hk2d : (((((W3.setCell ⟨w.heap.size, 0, none⟩ (.int .i64 (numF x0).1)).setCell ⟨w.heap.size, 1, none⟩ (.int .i64 (numF x1).1)).setCell ⟨w.heap.size, 2, none⟩ (.int .i64 (numF x2).1)).setCell ⟨w.heap.size, 3, none⟩ (.string (cutB 45 (cutA 43 r)))).setCell ⟨w.heap.size, 4, none⟩ (.string (cutB 43 r))).drew.heap[D2]? = _ := hk2
            have hk1d : (((((W3.setCell ⟨w.heap.size, 0, none⟩ (.int .i64 (numF x0).1)).setCell ⟨w.heap.size, 1, none⟩ (.int .i64 (numF x1).1)).setCell ⟨w.heap.size, 2, none⟩ (.int .i64 (numF x2).1)).setCell ⟨w.heap.size, 3, none⟩ (.string (cutB 45 (cutA 43 r)))).setCell ⟨w.heap.size, 4, none⟩ (.string (cutB 43 r))).drew.heap[D]? = _ := hk1
            generalize (((((W3.setCell ⟨w.heap.size, 0, none⟩ (.int .i64 (numF x0).1)).setCell ⟨w.heap.size, 1, none⟩ (.int .i64 (numF x1).1)).setCell ⟨w.heap.size, 2, none⟩ (.int .i64 (numF x2).1)).setCell ⟨w.heap.size, 3, none⟩ (.string (cutB 45 (cutA 43 r)))).setCell ⟨w.heap.size, 4, none⟩ (.string (cutB 43 r))).drew = Wz at hzd hk3d hk2d hk1d hbz ⊢
            obtain ⟨hk2', hk1', hcz, hbl⟩ := leave hzd (by omega) (by omega) (by omega) (by omega) (by omega) hne1 hk3d hk2d hk1d hbz
            refine ⟨by simp, .inl ⟨_, _, rfl, run_takeDeferred hk3d, ?_⟩⟩
            refine ⟨by simp, .inl ⟨_, _, rfl, run_takeDeferred hk2', ?_⟩⟩
            refine ⟨by simp, .inl ⟨_, _, rfl, run_takeDeferred hk1', ?_⟩⟩
            have z0 := hcz 0
            have z1 := hcz 1
            have z2 := hcz 2
            have z3 := hcz 3
            have z4 := hcz 4
            have hbo : bodyF r = ((numF x0).1, (numF x1).1, (numF x2).1, cutB 45 (cutA 43 r), cutB 43 r, 0) := by unfold bodyF numAt; rw [HOK.out, HX.out]; rfl
            refine ⟨.tuple #[.agg #[.int .i64 (numF x0).1, .int .i64 (numF x1).1, .int .i64 (numF x2).1, .string (cutB 45 (cutA 43 r)), .string (cutB 43 r)], .int .i64 0], ?_, by rw [hbo], hbl⟩
            simp [results, Tryd.results11, go_sem, z0, z1, z2, z3, z4]
  · have hpf : parseF s = (0, 0, 0, ⟨#[]⟩, ⟨#[]⟩, 30) := by
      unfold parseF
      rw [if_neg (fun h => h1 ⟨h.1, h.2.1⟩)]
    rw [hpf]
    have hbz : Below w.heap.size w (w.alloc (.cells #[.int .i64 0, .int .i64 0, .int .i64 0, .string ⟨#[]⟩, .string ⟨#[]⟩] 23)) := (Below.refl _ w).alloc (Nat.le_refl _) _
    by_cases hh : (L s).head? = some 118
    · rw [decide_eq_true hh, if_pos hh] at hcut
      have hs60 : decide ((60 : Int) < (s.size : Int)) = true := decide_eq_true (by have : ¬ s.size ≤ 60 := fun h => h1 ⟨hh, h⟩; omega)
      have HCUT := Aside0.mk hcut
      clear hcut h1 hpf hh
      refine (callsIn_wide (n := 4)).1 ?_
      refine callsIn_of_wp_marks Tryd.func11 rfl trivial ?_ rfl
      simp only [Tryd.ntmps11, List.size_toArray, List.length_cons, List.length_nil, Nat.reduceAdd, Nat.reduceSub, Array.replicate_succ, Array.replicate_zero, List.push_toArray, List.append_toArray, List.nil_append, List.cons_append]
      gi_wp2_with fail
      refine ⟨trivial, (callsIn_wide.2 (HCUT.out _)).mono ?_⟩
      rintro e w' ⟨rfl, ⟨nd1, rfl⟩⟩
      gi_wp2_with fail
      refine ⟨.tuple #[.agg #[.int .i64 0, .int .i64 0, .int .i64 0, .string ⟨#[]⟩, .string ⟨#[]⟩], .int .i64 30], ?_, rfl, ?_⟩
      · simp [results, Tryd.results11, go_sem]
      · exact (((((pw_below_drewN hbz _).setCell (p := ⟨w.heap.size, 0, none⟩) (Nat.le_refl _) _).setCell (p := ⟨w.heap.size, 1, none⟩) (Nat.le_refl _) _).setCell (p := ⟨w.heap.size, 2, none⟩) (Nat.le_refl _) _).setCell (p := ⟨w.heap.size, 3, none⟩) (Nat.le_refl _) _).setCell (p := ⟨w.heap.size, 4, none⟩) (Nat.le_refl _) _
    · rw [decide_eq_false hh, if_neg hh] at hcut
      have HCUT := Aside0.mk hcut
      clear hcut h1 hpf hh
      refine (callsIn_wide (n := 4)).1 ?_
      refine callsIn_of_wp_marks Tryd.func11 rfl trivial ?_ rfl
      simp only [Tryd.ntmps11, List.size_toArray, List.length_cons, List.length_nil, Nat.reduceAdd, Nat.reduceSub, Array.replicate_succ, Array.replicate_zero, List.push_toArray, List.append_toArray, List.nil_append, List.cons_append]
      gi_wp2_with fail
      refine ⟨trivial, (callsIn_wide.2 (HCUT.out _)).mono ?_⟩
      rintro e w' ⟨rfl, ⟨nd1, rfl⟩⟩
      gi_wp2_with fail
      refine ⟨.tuple #[.agg #[.int .i64 0, .int .i64 0, .int .i64 0, .string ⟨#[]⟩, .string ⟨#[]⟩], .int .i64 30], ?_, rfl, ?_⟩
      · simp [results, Tryd.results11, go_sem]
      · exact (((((pw_below_drewN hbz _).setCell (p := ⟨w.heap.size, 0, none⟩) (Nat.le_refl _) _).setCell (p := ⟨w.heap.size, 1, none⟩) (Nat.le_refl _) _).setCell (p := ⟨w.heap.size, 2, none⟩) (Nat.le_refl _) _).setCell (p := ⟨w.heap.size, 3, none⟩) (Nat.le_refl _) _).setCell (p := ⟨w.heap.size, 4, none⟩) (Nat.le_refl _) _

end Go.Proofs.YtaddonafdllciaaDoor.SemParse
