/- TreeDrops: from any tree any file is dropped, if it is there. -/
import Derived.Test.YtmocfgghccmdgaaPureTrMore
import Derived.Test.YtmocfgghccmdgaaRowOksTreeDrops
import Derived.Test.YtmocfgghccmdgaaMpc
namespace Go.Proofs.Ytmocfgghccmdgaa.Pure
open Go Go.RowKit Go.Proofs.Ytmocfgghccmdgaa.PTr Go.Proofs.YtmocfgghccmdgaaW.PrintWords Go.Proofs.YtmocfgghccmdgaaW.PrintLast
open Go.Proofs.Ytmocfgghccmdgaa.BytesLib Go.Proofs.Ytmocfgghccmdgaa.SplitLib Go.Proofs.Ytmocfgghccmdgaa.OrderLib Go.Proofs.Ytmocfgghccmdgaa.Elems Go.Proofs.Ytmocfgghccmdgaa.Valid Go.Proofs.Ytmocfgghccmdgaa.PathBase Go.Proofs.Ytmocfgghccmdgaa.TrLib Go.Proofs.Ytmocfgghccmdgaa.TrPut Go.Proofs.Ytmocfgghccmdgaa.TrFits Go.Proofs.Ytmocfgghccmdgaa.TrOps Go.Proofs.Ytmocfgghccmdgaa.TrMerge Go.Proofs.Ytmocfgghccmdgaa.TrPlain
open Go.Proofs.Ytmocfgghccmdgaa.RowOksTreeDrops
set_option linter.unusedVariables false
set_option linter.unusedSimpArgs false

theorem drops_in (l : List Fl) (p : ByteArray) (hl : l.length ≤ 80) (hs : ∀ x ∈ l, x.1.size ≤ 16384 ∧ x.2.size ≤ 16384) (hp : p.size ≤ 1024) :
    Ev (fun k => graftbedlaw02_TreeDrops.j0 k (l.map D) p false) true := by
  have hT := grow_tree l [] tree_nil
  obtain ⟨T, eT⟩ : ∃ T, grow [] l = T := ⟨_, rfl⟩
  have hgr := grown_ev l (by omega) (fun y hy => by have := (hs y hy).1; omega)
  rw [eT] at hgr hT
  have hdl : (dropT T p).1.length ≤ 1000000 := by
    rcases drop_form hT.up p with ⟨_, h2⟩ | ⟨A, z, B, e, _, _, _, h2⟩
    · rw [h2]; exact Nat.zero_le _
    · rw [h2]
      have := (drop_tree hT e).few
      show (A ++ B).length ≤ _
      omega
  -- behind the comparisons
  have main : Ev (fun k => graftbedlaw02_TreeDrops.j1 k p (T.map D) (findT T p).1 ((dropT T p).1.map D) (dropT T p).2 (((dropT T p).2 == 0) != (findT T p).2)) true := by
    rcases drop_form hT.up p with ⟨h1, h2⟩ | ⟨A, z, B, e, hz, hA, hB, h2⟩
    · rw [h2, find_no h1]
      refine Ev.step (f := fun _ => some true) (fun k => ?_) (Ev.now _)
      simp only [graftbedlaw02_TreeDrops.j1]
      rfl
    · have hzm : z ∈ T := by rw [e]; simp
      have hf := find_has hT.up hzm
      rw [hz] at hf
      have hU := drop_tree hT e
      obtain ⟨v1, v2⟩ := hT.ok z hzm
      rw [h2, hf]
      have hAB : ∀ y, y ∈ A ++ B → y ∈ T := by
        intro y hy
        rw [e]
        rcases List.mem_append.1 hy with h | h
        · exact List.mem_append_left _ h
        · exact List.mem_append_right _ (List.mem_cons_of_mem _ h)
      have hput : putF (A ++ B) z = T := by
        refine up_ext (put_up hU.up z) hT.up (fun y => ?_)
        rw [put_mem hU.up]
        constructor
        · rintro (rfl | ⟨h, _⟩)
          · exact hzm
          · exact hAB y h
        · intro hy
          rw [e] at hy
          rcases List.mem_append.1 hy with h | h
          · exact .inr ⟨List.mem_append_left _ h, by rw [hz]; exact hA y h⟩
          · rcases List.mem_cons.1 h with h | h
            · exact .inl h
            · exact .inr ⟨List.mem_append_right _ h, by rw [hz]; exact hB y h⟩
      have hpt : putT (A ++ B) z = (T, 0) := by
        rw [put_can hU v1 v2 (fun y hy => ⟨hT.out y (hAB y hy) z hzm, hT.out z hzm y (hAB y hy)⟩), hput, if_neg (by have := hT.few; omega)]
      have hpf := put_f (tree_small hU) (x := z) (by have := (valid_tells v1).2.1; omega)
      rw [hpt, hz] at hpf
      refine Ev.step (f := fun k => (graftbedref02_Same.f k (T.map D) (T.map D)).bind fun t290 => (if t290 = true then ((tree_Check.f k ((A ++ B).map D)).bind fun bt291 => (some (bt291.1 == 0 && (bt291.2.1.toList == ([] : List UInt8) && (bt291.2.2 == 0))))) else (some false))) (fun k => ?_) ?_
      · simp only [graftbedlaw02_TreeDrops.j1]
        rw [show (((0 : Int) == 0) != true) = false from rfl]
        simp only [Bool.false_eq_true, if_false, if_true]
        rw [hpf, Option.bind_some]
        simp only [if_true]
      · refine Ev.bind (same_ev T (tree_small hT).1) ?_
        simp only [if_true]
        refine Ev.bind (check_ev hU) ?_
        rw [toList_L]
        exact Ev.now _
  refine Ev.step (f := fun k => (graftbedlaw02_grown.f k (l.map D)).bind fun t270 => ((tree_Find.f t270 p).bind fun bt273 => ((graftbedref02_Find.f k t270 p).bind fun bt275 => ((tree_Drop.f t270 p).bind fun bt277 => ((graftbedref02_Drop.f k t270 p).bind fun bt281 => (if bt273.1.toList = bt275.1.toList then (if (bt273.2 != bt275.2) = true then (graftbedlaw02_TreeDrops.j1 k p t270 bt273.1 bt277.1 bt277.2 true) else (if bt277.2 = bt281.2 then ((graftbedref02_Same.f k bt277.1 bt281.1).bind fun t285 => (if t285 = true then (graftbedlaw02_TreeDrops.j1 k p t270 bt273.1 bt277.1 bt277.2 ((bt277.2 == 0) != bt273.2)) else (graftbedlaw02_TreeDrops.j1 k p t270 bt273.1 bt277.1 bt277.2 true))) else (graftbedlaw02_TreeDrops.j1 k p t270 bt273.1 bt277.1 bt277.2 true))) else (graftbedlaw02_TreeDrops.j1 k p t270 bt273.1 bt277.1 bt277.2 true))))))) (fun k => by simp only [graftbedlaw02_TreeDrops.j0, Bool.false_eq_true, if_false]) ?_
  refine Ev.bind hgr ?_
  rw [find_f]
  simp only [Option.bind_some]
  refine Ev.bind (ref_find hT p) ?_
  rw [drop_f (tree_small hT) (by omega)]
  simp only [Option.bind_some]
  refine Ev.bind (ref_drop hT p) ?_
  simp only [bne_self_eq_false, Bool.false_eq_true, if_false, if_true]
  refine Ev.bind (same_ev _ hdl) ?_
  simp only [if_true]
  exact main

theorem TreeDrops (l0 : List S24) (a1 : ByteArray) (w0 : l0.length * 32 ≤ 140737488351232 ∧ ∀ y ∈ l0, ok24 y) (w1 : a1.size ≤ 140737488351232) : ∃ k, graftbedlaw02_TreeDrops.f k l0 a1 = some true := by
  suffices h : Ev (fun k => graftbedlaw02_TreeDrops.f k l0 a1) true by
    obtain ⟨K, hK⟩ := h
    exact ⟨K, hK K (Nat.le_refl _)⟩
  have big : Ev (fun k => graftbedlaw02_TreeDrops.j0 k l0 a1 true) true :=
    Ev.step (f := fun _ => some true) (fun k => by simp only [graftbedlaw02_TreeDrops.j0, if_true]; rw [shown_f]; rfl) (Ev.now _)
  obtain ⟨b1, hb1, hc1⟩ := heavy_ev (l0.map E)
  rw [DE] at hb1
  unfold graftbedlaw02_TreeDrops.f
  refine Ev.bind hb1 ?_
  cases b1 with
  | true => simp only [if_true]; exact big
  | false =>
    simp only [Bool.false_eq_true, if_false]
    by_cases g : (a1.size : Int) > 1024
    · simp only [if_pos g]; exact big
    · simp only [if_neg g]
      rw [shown_f]
      simp only [Option.bind_some, Bool.not_true]
      obtain ⟨p1, p2⟩ := hc1 rfl
      have := drops_in (l0.map E) a1 p1 p2 (by omega)
      rw [DE] at this
      exact this

end Go.Proofs.Ytmocfgghccmdgaa.Pure
