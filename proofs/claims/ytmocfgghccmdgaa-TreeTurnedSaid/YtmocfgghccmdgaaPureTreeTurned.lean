/- TreeTurned: two files put, one behind the other, in either order. -/
import Derived.Test.YtmocfgghccmdgaaPureTrBase
import Derived.Test.YtmocfgghccmdgaaRowOksTreeTurned
import Derived.Test.YtmocfgghccmdgaaMpb
namespace Go.Proofs.Ytmocfgghccmdgaa.Pure
open Go Go.RowKit Go.Proofs.Ytmocfgghccmdgaa.PTr Go.Proofs.YtmocfgghccmdgaaW.PrintWords Go.Proofs.YtmocfgghccmdgaaW.PrintLast
open Go.Proofs.Ytmocfgghccmdgaa.BytesLib Go.Proofs.Ytmocfgghccmdgaa.SplitLib Go.Proofs.Ytmocfgghccmdgaa.OrderLib Go.Proofs.Ytmocfgghccmdgaa.Elems Go.Proofs.Ytmocfgghccmdgaa.Valid Go.Proofs.Ytmocfgghccmdgaa.PathBase Go.Proofs.Ytmocfgghccmdgaa.TrLib Go.Proofs.Ytmocfgghccmdgaa.TrPut Go.Proofs.Ytmocfgghccmdgaa.TrFits Go.Proofs.Ytmocfgghccmdgaa.TrOps Go.Proofs.Ytmocfgghccmdgaa.TrMerge Go.Proofs.Ytmocfgghccmdgaa.TrPlain
open Go.Proofs.Ytmocfgghccmdgaa.RowOksTreeTurned
set_option linter.unusedVariables false
set_option linter.unusedSimpArgs false

theorem put_cannot {T : List Fl} (hT : Tree T) {x : Fl} (v1 : valid x.1 = true) (v2 : x.2.size ≤ 4000) (hf : ¬ ∀ y ∈ T, insideF y.1 x.1 = false ∧ insideF x.1 y.1 = false) : putT T x = ([], 4) := by
  unfold putT
  rw [if_pos (wrong_zero.2 ⟨v1, v2⟩), if_neg (fun h => hf ((fits_iff hT v1).1 h))]

theorem turned {T : List Fl} (hT : Tree T) {f g : Fl} (hne : f.1 ≠ g.1) (h1 : (putT T f).2 = 0) (h2 : (putT T g).2 = 0) : putT (putF T f) g = putT (putF T g) f := by
  obtain ⟨_, tf, vf1, vf2, cf⟩ := put_zero hT h1
  obtain ⟨_, tg, vg1, vg2, cg⟩ := put_zero hT h2
  have mf := put_mem hT.up f
  have mg := put_mem hT.up g
  by_cases c : insideF f.1 g.1 = false ∧ insideF g.1 f.1 = false
  · have k1 : ∀ y ∈ putF T f, insideF y.1 g.1 = false ∧ insideF g.1 y.1 = false := by
      intro y hy
      rcases (mf y).1 hy with rfl | ⟨hy, _⟩
      · exact c
      · exact cg y hy
    have k2 : ∀ y ∈ putF T g, insideF y.1 f.1 = false ∧ insideF f.1 y.1 = false := by
      intro y hy
      rcases (mg y).1 hy with rfl | ⟨hy, _⟩
      · exact ⟨c.2, c.1⟩
      · exact cf y hy
    rw [put_can tf vg1 vg2 k1, put_can tg vf1 vf2 k2]
    have e : putF (putF T f) g = putF (putF T g) f := by
      refine up_ext (put_up tf.up g) (put_up tg.up f) (fun y => ?_)
      rw [put_mem tf.up, put_mem tg.up, mf, mg]
      constructor
      · rintro (rfl | ⟨rfl | ⟨a, b⟩, d⟩)
        · exact .inr ⟨.inl rfl, fun e => hne e.symm⟩
        · exact .inl rfl
        · exact .inr ⟨.inr ⟨a, d⟩, b⟩
      · rintro (rfl | ⟨rfl | ⟨a, b⟩, d⟩)
        · exact .inr ⟨.inl rfl, hne⟩
        · exact .inl rfl
        · exact .inr ⟨.inr ⟨a, d⟩, b⟩
    rw [e]
  · rw [put_cannot tf vg1 vg2 (fun h => c (h f ((mf f).2 (.inl rfl)))), put_cannot tg vf1 vf2 (fun h => c (by have := h g ((mg g).2 (.inl rfl)); exact ⟨this.2, this.1⟩))]

theorem putT_small {T : List Fl} (hT : Tree T) (x : Fl) : (putT T x).1.length ≤ 1000000 := by
  by_cases h : (putT T x).2 = 0
  · rw [(put_zero hT h).1]
    have := (put_zero hT h).2.1.few
    show (putF T x).length ≤ _
    omega
  · rw [put_not h]; exact Nat.zero_le _

theorem turned_in (l : List Fl) (f g : Fl) (hl : l.length ≤ 80) (hs : ∀ x ∈ l, x.1.size ≤ 16384 ∧ x.2.size ≤ 16384) (hf : f.1.size ≤ 16384) (hg : g.1.size ≤ 16384) (hne : f.1 ≠ g.1) :
    Ev (fun k => graftbedlaw02_TreeTurned.j0 k (l.map D) false f.1 f.2 g.1 g.2) true := by
  have hT := grow_tree l [] tree_nil
  obtain ⟨T, eT⟩ : ∃ T, grow [] l = T := ⟨_, rfl⟩
  have hgr := grown_ev l (by omega) (fun y hy => by have := (hs y hy).1; omega)
  rw [eT] at hgr hT
  have e1 := put_f (tree_small hT) (x := f) (by omega)
  have e2 := put_f (tree_small hT) (x := g) (by omega)
  refine Ev.step (f := fun k => (graftbedlaw02_grown.f k (l.map D)).bind fun t186 => ((tree_Put.f t186 f.1 f.2).bind fun bt189 => ((tree_Put.f t186 g.1 g.2).bind fun bt193 => (if bt189.2 = 0 then (graftbedlaw02_TreeTurned.j1 k bt189.1 bt193.1 (bt193.2 != 0) f.1 f.2 g.1 g.2) else (graftbedlaw02_TreeTurned.j1 k bt189.1 bt193.1 true f.1 f.2 g.1 g.2))))) (fun k => by simp only [graftbedlaw02_TreeTurned.j0, Bool.false_eq_true, if_false]) ?_
  refine Ev.bind hgr ?_
  rw [e1, e2]
  simp only [Option.bind_some]
  have bad : (putT T f).1 = [] ∨ (putT T g).1 = [] → Ev (fun k => graftbedlaw02_TreeTurned.j1 k ((putT T f).1.map D) ((putT T g).1.map D) true f.1 f.2 g.1 g.2) true := by
    intro h
    refine Ev.step (f := fun _ => some true) (fun k => ?_) (Ev.now _)
    simp only [graftbedlaw02_TreeTurned.j1, if_true]
    rcases h with h | h
    · rw [h]; rfl
    · rw [h]
      split <;> rfl
  by_cases g1 : (putT T f).2 = 0
  · simp only [if_pos g1]
    by_cases g2 : (putT T g).2 = 0
    · rw [g2]
      have z1 := put_zero hT g1
      have z2 := put_zero hT g2
      have e3 := put_f (tree_small z1.2.1) (x := g) (by omega)
      have e4 := put_f (tree_small z2.2.1) (x := f) (by omega)
      have et := turned hT hne g1 g2
      rw [z1.1, z2.1]
      refine Ev.step (f := fun k => (graftbedref02_Same.f k ((putT (putF T g) f).1.map D) ((putT (putF T g) f).1.map D)).bind fun t => some t) (fun k => ?_) ?_
      · simp only [graftbedlaw02_TreeTurned.j1, bne_self_eq_false, Bool.false_eq_true, if_false]
        rw [e3, e4, et]
        simp only [Option.bind_some, if_true]
      · exact Ev.bind (same_ev _ (putT_small z2.2.1 f)) (Ev.now _)
    · rw [show ((putT T g).2 != 0) = true from bne_iff_ne.2 g2]
      exact bad (.inr (put_not g2))
  · simp only [if_neg g1]
    exact bad (.inl (put_not g1))

theorem TreeTurned (l0 : List S24) (a1_0 : ByteArray) (a1_1 : ByteArray) (a2_0 : ByteArray) (a2_1 : ByteArray) (w0 : l0.length * 32 ≤ 140737488351232 ∧ ∀ y ∈ l0, ok24 y) (w1 : ok24 ⟨a1_0, a1_1⟩) (w2 : ok24 ⟨a2_0, a2_1⟩) : ∃ k, graftbedlaw02_TreeTurned.f k l0 a1_0 a1_1 a2_0 a2_1 = some true := by
  suffices h : Ev (fun k => graftbedlaw02_TreeTurned.f k l0 a1_0 a1_1 a2_0 a2_1) true by
    obtain ⟨K, hK⟩ := h
    exact ⟨K, hK K (Nat.le_refl _)⟩
  have big : Ev (fun k => graftbedlaw02_TreeTurned.j0 k l0 true a1_0 a1_1 a2_0 a2_1) true :=
    Ev.step (f := fun _ => some true) (fun k => by simp only [graftbedlaw02_TreeTurned.j0, if_true]; rw [shown_f]; rfl) (Ev.now _)
  obtain ⟨b1, hb1, hc1⟩ := heavy_ev (l0.map E)
  rw [DE] at hb1
  unfold graftbedlaw02_TreeTurned.f
  refine Ev.bind hb1 ?_
  cases b1 with
  | true => simp only [if_true]; exact big
  | false =>
    simp only [Bool.false_eq_true, if_false]
    obtain ⟨b2, hb2, hc2⟩ := heavy_ev [(a1_0, a1_1), (a2_0, a2_1)]
    refine Ev.bind hb2 ?_
    cases b2 with
    | true => simp only [if_true]; exact big
    | false =>
      simp only [Bool.false_eq_true, if_false]
      rw [shown_f]
      simp only [Option.bind_some, if_true]
      by_cases e : a1_0.toList = a2_0.toList
      · rw [beq_iff_eq.2 e]; exact big
      · rw [beq_eq_false_iff_ne.2 e]
        obtain ⟨p1, p2⟩ := hc1 rfl
        obtain ⟨q1, q2⟩ := hc2 rfl
        have := turned_in (l0.map E) (a1_0, a1_1) (a2_0, a2_1) p1 p2 (q2 _ (by simp)).1 (q2 _ (by simp)).1 (fun h => e (by rw [show a1_0 = a2_0 from h]))
        rw [DE] at this
        exact this

end Go.Proofs.Ytmocfgghccmdgaa.Pure
