/- TreePuts: any file is put into any tree, or refused. -/
import Derived.Test.YtmocfgghccmdgaaPureTrMore
import Derived.Test.YtmocfgghccmdgaaRowOksTreePuts
import Derived.Test.YtmocfgghccmdgaaMpc
namespace Go.Proofs.Ytmocfgghccmdgaa.Pure
open Go Go.RowKit Go.Proofs.Ytmocfgghccmdgaa.PTr Go.Proofs.YtmocfgghccmdgaaW.PrintWords Go.Proofs.YtmocfgghccmdgaaW.PrintLast
open Go.Proofs.Ytmocfgghccmdgaa.BytesLib Go.Proofs.Ytmocfgghccmdgaa.SplitLib Go.Proofs.Ytmocfgghccmdgaa.OrderLib Go.Proofs.Ytmocfgghccmdgaa.Elems Go.Proofs.Ytmocfgghccmdgaa.Valid Go.Proofs.Ytmocfgghccmdgaa.PathBase Go.Proofs.Ytmocfgghccmdgaa.TrLib Go.Proofs.Ytmocfgghccmdgaa.TrPut Go.Proofs.Ytmocfgghccmdgaa.TrFits Go.Proofs.Ytmocfgghccmdgaa.TrOps Go.Proofs.Ytmocfgghccmdgaa.TrMerge Go.Proofs.Ytmocfgghccmdgaa.TrPlain
open Go.Proofs.Ytmocfgghccmdgaa.RowOksTreePuts
set_option linter.unusedVariables false
set_option linter.unusedSimpArgs false

theorem puts_small {T : List Fl} (hT : Tree T) (x : Fl) : (putT T x).1.length ≤ 1000000 := by
  by_cases h : (putT T x).2 = 0
  · rw [(put_zero hT h).1]
    have := (put_zero hT h).2.1.few
    show (putF T x).length ≤ _
    omega
  · rw [put_not h]; exact Nat.zero_le _

theorem puts_loop {T : List Fl} (hT : Tree T) {f : Fl} (hU : Tree (putF T f)) : ∀ (d i : Nat), i ≤ T.length → T.length - i = d → Ev (fun k => graftbedlaw02_TreePuts.l0 k (T.map D) ((putF T f).map D) (i : Int) f.1 f.2) true := by
  have hfew := hT.few
  have hm := put_mem hT.up f
  have hfm : f ∈ putF T f := (hm f).2 (.inl rfl)
  intro d
  induction d with
  | zero =>
    intro i h1 h2
    refine Ev.step (f := fun _ => some true) (fun k => ?_) (Ev.now _)
    simp only [graftbedlaw02_TreePuts.l0]
    have hl := putF_len T f
    rw [if_neg (by rw [len_D]; omega), len_D, len_D, w64 (by omega) (by omega), decide_eq_true (by omega)]
  | succ d ih =>
    intro i h1 h2
    have hi : i < T.length := by omega
    have hx := List.getElem_mem hi
    refine Ev.step (fun k => ?_) (ih (i + 1) (by omega) (by omega))
    simp only [graftbedlaw02_TreePuts.l0]
    rw [if_pos (by rw [len_D]; omega), if_pos (by omega), rd_D hi, w64 (by omega) (by omega)]
    show ((tree_Find.f ((putF T f).map D) T[i].1).bind fun bt253 => (if bt253.2 = true then (if T[i].1.toList = f.1.toList then _ else (if bt253.1.toList = T[i].2.toList then _ else (some false))) else (some false))) = _
    rw [find_f, Option.bind_some]
    by_cases g : T[i].1 = f.1
    · have hf := find_has hU.up hfm
      rw [← g] at hf
      rw [hf, if_pos rfl, if_pos (by rw [g])]
      rfl
    · have hf := find_has hU.up ((hm T[i]).2 (.inr ⟨hx, g⟩))
      rw [hf, if_pos rfl, if_neg (by rw [toList_L, toList_L]; exact fun e => g (L_inj e)), if_pos rfl]
      rfl

theorem puts_in (l : List Fl) (f : Fl) (hl : l.length ≤ 80) (hs : ∀ x ∈ l, x.1.size ≤ 16384 ∧ x.2.size ≤ 16384) (hf : f.1.size ≤ 16384) :
    Ev (fun k => graftbedlaw02_TreePuts.j0 k (l.map D) false f.1 f.2) true := by
  have hT := grow_tree l [] tree_nil
  obtain ⟨T, eT⟩ : ∃ T, grow [] l = T := ⟨_, rfl⟩
  have hgr := grown_ev l (by omega) (fun y hy => by have := (hs y hy).1; omega)
  rw [eT] at hgr hT
  have e1 := put_f (tree_small hT) (x := f) (by omega)
  have e2 := ref_put hT f (by omega)
  refine Ev.step (f := fun k => (graftbedlaw02_grown.f k (l.map D)).bind fun t235 => ((tree_Put.f t235 f.1 f.2).bind fun bt238 => ((graftbedref02_Put.f k t235 f.1 f.2).bind fun bt242 => (if bt238.2 = bt242.2 then ((graftbedref02_Same.f k bt238.1 bt242.1).bind fun t246 => (graftbedlaw02_TreePuts.j1 k t235 bt238.1 bt238.2 (!t246) f.1 f.2)) else (graftbedlaw02_TreePuts.j1 k t235 bt238.1 bt238.2 true f.1 f.2))))) (fun k => by simp only [graftbedlaw02_TreePuts.j0, Bool.false_eq_true, if_false]) ?_
  refine Ev.bind hgr ?_
  rw [e1]
  simp only [Option.bind_some]
  refine Ev.bind e2 ?_
  simp only [if_true]
  refine Ev.bind (same_ev _ (puts_small hT f)) ?_
  simp only [Bool.not_true]
  by_cases g : (putT T f).2 = 0
  · obtain ⟨z, hU, v1, v2, _⟩ := put_zero hT g
    rw [z]
    have hfm : f ∈ putF T f := (put_mem hT.up f f).2 (.inl rfl)
    have hff := find_has hU.up hfm
    refine Ev.step (f := fun k => (tree_Check.f k ((putF T f).map D)).bind fun bt249 => (graftbedlaw02_TreePuts.j2 k (T.map D) ((putF T f).map D) (!(bt249.1 == 0) || (!(bt249.2.1.toList == ([] : List UInt8)) || (!(bt249.2.2 == 0)))) f.1 f.2)) (fun k => ?_) ?_
    · simp only [graftbedlaw02_TreePuts.j1, Bool.false_eq_true, if_false, if_true]
      rw [find_f, hff, Option.bind_some, if_pos rfl, if_pos rfl]
    · refine Ev.bind (check_ev hU) ?_
      have e0 : (!((0 : Int) == 0) || (!((⟨#[]⟩ : ByteArray).toList == ([] : List UInt8)) || (!((0 : Int) == 0)))) = false := by rw [toList_L]; rfl
      show Ev (fun k => graftbedlaw02_TreePuts.j2 k (T.map D) ((putF T f).map D) (!((0 : Int) == 0) || (!((⟨#[]⟩ : ByteArray).toList == ([] : List UInt8)) || (!((0 : Int) == 0)))) f.1 f.2) true
      rw [e0]
      refine Ev.step (fun k => by simp only [graftbedlaw02_TreePuts.j2, Bool.false_eq_true, if_false]; rfl) (puts_loop hT hU T.length 0 (Nat.zero_le _) rfl)
  · refine Ev.step (f := fun _ => some true) (fun k => ?_) (Ev.now _)
    simp only [graftbedlaw02_TreePuts.j1, Bool.false_eq_true, if_false, if_neg g]
    rw [put_not g]; rfl

theorem TreePuts (l0 : List S24) (a1_0 : ByteArray) (a1_1 : ByteArray) (w0 : l0.length * 32 ≤ 140737488351232 ∧ ∀ y ∈ l0, ok24 y) (w1 : ok24 ⟨a1_0, a1_1⟩) : ∃ k, graftbedlaw02_TreePuts.f k l0 a1_0 a1_1 = some true := by
  suffices h : Ev (fun k => graftbedlaw02_TreePuts.f k l0 a1_0 a1_1) true by
    obtain ⟨K, hK⟩ := h
    exact ⟨K, hK K (Nat.le_refl _)⟩
  have big : Ev (fun k => graftbedlaw02_TreePuts.j0 k l0 true a1_0 a1_1) true :=
    Ev.step (f := fun _ => some true) (fun k => by simp only [graftbedlaw02_TreePuts.j0, if_true]; rw [shown_f]; rfl) (Ev.now _)
  obtain ⟨b1, hb1, hc1⟩ := heavy_ev (l0.map E)
  rw [DE] at hb1
  unfold graftbedlaw02_TreePuts.f
  refine Ev.bind hb1 ?_
  cases b1 with
  | true => simp only [if_true]; exact big
  | false =>
    simp only [Bool.false_eq_true, if_false]
    obtain ⟨b2, hb2, hc2⟩ := heavy_ev [(a1_0, a1_1)]
    refine Ev.bind hb2 ?_
    cases b2 with
    | true => simp only [if_true]; exact big
    | false =>
      simp only [Bool.false_eq_true, if_false]
      rw [shown_f]
      simp only [Option.bind_some, Bool.not_true]
      obtain ⟨p1, p2⟩ := hc1 rfl
      obtain ⟨q1, q2⟩ := hc2 rfl
      have := puts_in (l0.map E) (a1_0, a1_1) p1 p2 (q2 _ (by simp)).1
      rw [DE] at this
      exact this

end Go.Proofs.Ytmocfgghccmdgaa.Pure
