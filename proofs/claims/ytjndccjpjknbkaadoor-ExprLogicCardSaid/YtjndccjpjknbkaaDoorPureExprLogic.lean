/- And, Or and Not of two expressions are the document's, and those of truth, by any tags: the plain law. -/
import Derived.Test.YtjndccjpjknbkaaDoorMpb
import Derived.Test.YtjndccjpjknbkaaDoorRowOksExprLogic
import Derived.Test.YtjndccjpjknbkaaDoorPureExOps
namespace Go.Proofs.YtjndccjpjknbkaaDoor.Pure
open Go.RowKit Go.Proofs.YtjndccjpjknbkaaDoor.PEx Go.Proofs.YtjndccjpjknbkaaDoorW.PrintWords Go.Proofs.YtjndccjpjknbkaaDoorW.PrintLast Go.Proofs.YtjndccjpjknbkaaDoorW.PrintMore Go.Proofs.YtjndccjpjknbkaaDoor.BytesLib Go.Proofs.YtjndccjpjknbkaaDoor.ExNode Go.Proofs.YtjndccjpjknbkaaDoor.ExSem Go.Proofs.YtjndccjpjknbkaaDoor.ExLaw Go.Proofs.YtjndccjpjknbkaaDoor.ExLaw2 Go.Proofs.YtjndccjpjknbkaaDoor.ExBoth Go.Proofs.YtjndccjpjknbkaaDoor.PureEx
open Go.Proofs.YtjndccjpjknbkaaDoor.ExCheck (checkF)
set_option linter.unusedVariables false

theorem un_nds (l : List S52) : (nds l).map un = l := by
  unfold nds
  rw [List.map_map]
  exact List.map_id l
theorem rboth_eq (k : Int) {a b t : List S52} (ha : a.length ≤ 1000000) (hb : b.length ≤ 1000000) (ht : nds t = bothN k (nds a) (nds b)) : graftbedref12_both.f k (a.map their) (b.map their) = some (t.map their) := by
  have et : t = (bothN k (nds a) (nds b)).map un := by rw [← ht, un_nds]
  have hm : graftbedref12_moved.f (b.map their) (((a.map their).length : Nat) : Int) = some ((((nds b).map (shiftN (a.length : Int))).map un).map their) := by
    unfold graftbedref12_moved.f
    rw [if_pos (by rw [List.length_map]; exact hb), List.length_map]
    simp only [List.map_map]
    unfold nds
    rw [List.map_map]
    rfl
  unfold graftbedref12_both.f
  simp only [Option.bind_some, List.nil_append]
  rw [if_pos (by simp only [List.length_nil, List.length_map]; omega), hm]
  simp only [Option.bind_some]
  rw [if_pos (by simp only [List.length_map]; rw [nds_len]; omega), if_pos (by simp only [List.length_append, List.length_map]; rw [nds_len]; omega)]
  rw [et]
  unfold bothN
  rw [List.length_map, List.length_map, nds_len, nds_len]
  rw [w64u (x := (a.length : Int) + (b.length : Int)) (by omega) (by omega)]
  simp only [List.map_append, List.map_cons, List.map_nil]
  rw [un_nds]
  rfl
theorem rnot_eq {a t : List S52} (ha : a.length ≤ 1000000) (ht : nds t = notN (nds a)) : graftbedref12_Not.f (a.map their) = some (t.map their) := by
  have et : t = (notN (nds a)).map un := by rw [← ht, un_nds]
  unfold graftbedref12_Not.f
  simp only [Option.bind_some, List.nil_append]
  rw [if_pos (by simp only [List.length_nil, List.length_map]; omega), if_pos (by simp only [List.length_map]; omega)]
  rw [et]
  unfold notN
  rw [List.length_map, nds_len, w64u (by omega) (by omega)]
  simp only [List.map_append, List.map_cons, List.map_nil]
  rw [un_nds]
  rfl
theorem same_loop (l : List S61) (hl : l.length ≤ 1000000) : ∀ (d i : Nat), l.length - i = d → i ≤ l.length → Ev (fun k => graftbedref12_Same.l0 k l l (i : Int)) true
  | 0, i, hd, hi => Ev.step (f := fun _ => some true) (fun k => by rw [graftbedref12_Same.l0, if_neg (by omega)]) (Ev.now _)
  | d + 1, i, hd, hi => by
    refine Ev.step (fun k => ?_) (same_loop l hl d (i + 1) (by omega) (by omega))
    rw [graftbedref12_Same.l0, if_pos (by omega), if_pos (by omega), if_pos (by omega), if_neg (by simp), w64u (by omega) (by omega)]
    rfl
theorem same_eq (l : List S61) (hl : l.length ≤ 1000000) : Ev (fun k => graftbedref12_Same.f k l l) true :=
  Ev.congr (fun k => by unfold graftbedref12_Same.f; rw [if_pos rfl]; rfl) (same_loop l hl _ 0 rfl (Nat.zero_le _))

theorem logic_j2 {x y p q n : List S52} {ts : List ByteArray} (gx : tags x) (gy : tags y) (gp : tags p) (gq : tags q) (gn : tags n) (cx : checkF (nds x) = 0) (cy : checkF (nds y) = 0)
    (np : nds p = bothN 2 (nds x) (nds y)) (nq : nds q = bothN 3 (nds x) (nds y)) (nn : nds n = notN (nds x)) : Ev (fun k => graftbedlaw12_ExprLogic.j2 k ts x y p q n false) true := by
  obtain ⟨da, db, ea, eb, d1, d2, l1, l2⟩ := two_ex cx cy
  obtain ⟨zx, _, _⟩ := check_ref cx
  have hj3 : Ev (fun k => graftbedlaw12_ExprLogic.j3 k ts p q (evalF (nds x) ts) (evalF (nds y) ts) false) true := by
    refine Ev.step (f := fun _ => some true) (fun k => ?_) (Ev.now _)
    rw [graftbedlaw12_ExprLogic.j3, if_neg (by decide), Check_eq gp]
    simp only [Option.bind_some]
    by_cases hc : checkF (nds p) = 0
    · rw [if_pos hc]
      have hc0 := hc
      rw [np, ex_ok (ex_both (.inl rfl) ea eb (by omega) (by omega))] at hc
      have cq : checkF (nds q) = 0 := by rw [nq, ex_ok (ex_both (.inr rfl) ea eb (by omega) (by omega))]; exact ⟨by have := hc.1; rw [both_len] at this ⊢; exact this, hc.2⟩
      simp only [Check_eq gq, Eval_eq gp, Eval_eq gq, Option.bind_some]
      rw [if_pos cq, eval_ok hc0, eval_ok cq, eval_ok cx, eval_ok cy, np, nq, run_both _ cx cy, run_both _ cx cy]
      cases runF (fun z => Lib.containsS ts z) (nds x) <;> cases runF (fun z => Lib.containsS ts z) (nds y) <;> rfl
    · rw [if_neg hc]
  have hst : ∀ k, graftbedlaw12_ExprLogic.j2 (k + 1) ts x y p q n false = if checkF (nds n) = 0 then graftbedlaw12_ExprLogic.j3 k ts p q (evalF (nds x) ts) (evalF (nds y) ts) (evalF (nds n) ts == evalF (nds x) ts) else graftbedlaw12_ExprLogic.j3 k ts p q (evalF (nds x) ts) (evalF (nds y) ts) false := fun k => by
    rw [graftbedlaw12_ExprLogic.j2, if_neg (by decide), Eval_eq gx]
    simp only [Option.bind_some, Eval_eq gy, Check_eq gn, Eval_eq gn]
  by_cases hn : checkF (nds n) = 0
  · have e : (evalF (nds n) ts == evalF (nds x) ts) = false := by
      rw [eval_ok hn, eval_ok cx, nn, run_not _ zx]
      cases runF (fun z => Lib.containsS ts z) (nds x) <;> rfl
    exact Ev.step (fun k => by rw [hst, if_pos hn, e]) hj3
  · exact Ev.step (fun k => by rw [hst, if_neg hn]) hj3

theorem logic_j1 {x y : List S52} {ts : List ByteArray} (gx : tags x) (gy : tags y) (cx : checkF (nds x) = 0) (cy : checkF (nds y) = 0) (hx : x.length ≤ 100001) (hy : y.length ≤ 100001) : Ev (fun k => graftbedlaw12_ExprLogic.j1 k ts x y false) true := by
  obtain ⟨p, hp, np, gp, lp⟩ := And_eq (a := x) (b := y) (by omega) (by omega) gx gy
  obtain ⟨q, hq, nq, gq, lq⟩ := Or_eq (a := x) (b := y) (by omega) (by omega) gx gy
  obtain ⟨n, hn, nn, ln, gn'⟩ := Not_eq (l := x) (by omega)
  have gn := gn' gx
  have rA : graftbedref12_And.f (x.map their) (y.map their) = some (p.map their) := by
    unfold graftbedref12_And.f
    rw [rboth_eq 2 (by omega) (by omega) np]
    rfl
  have rO : graftbedref12_Or.f (x.map their) (y.map their) = some (q.map their) := by
    unfold graftbedref12_Or.f
    rw [rboth_eq 3 (by omega) (by omega) nq]
    rfl
  have rN := rnot_eq (a := x) (t := n) (by omega) nn
  have tx := theirs_eq (l := x) (by omega)
  have ty := theirs_eq (l := y) (by omega)
  have tp := theirs_eq (l := p) (by omega)
  have tq := theirs_eq (l := q) (by omega)
  have tn := theirs_eq (l := n) (by omega)
  have sp := same_eq (p.map their) (by rw [List.length_map]; omega)
  have sq := same_eq (q.map their) (by rw [List.length_map]; omega)
  have sn := same_eq (n.map their) (by rw [List.length_map]; omega)
  have hj := logic_j2 (ts := ts) gx gy gp gq gn cx cy np nq nn
  obtain ⟨K1, h1⟩ := tx
  obtain ⟨K2, h2⟩ := ty
  obtain ⟨K3, h3⟩ := tp
  obtain ⟨K4, h4⟩ := tq
  obtain ⟨K5, h5⟩ := tn
  obtain ⟨K6, h6⟩ := sp
  obtain ⟨K7, h7⟩ := sq
  obtain ⟨K8, h8⟩ := sn
  obtain ⟨K9, h9⟩ := hj
  refine ⟨K1 + K2 + K3 + K4 + K5 + K6 + K7 + K8 + K9 + 1, fun m hm => ?_⟩
  obtain ⟨k, rfl⟩ : ∃ k, m = k + 1 := ⟨m - 1, by omega⟩
  have h1 : graftbedlaw12_theirs.f k x = some (x.map their) := h1 k (by omega)
  have h2 : graftbedlaw12_theirs.f k y = some (y.map their) := h2 k (by omega)
  have h3 : graftbedlaw12_theirs.f k p = some (p.map their) := h3 k (by omega)
  have h4 : graftbedlaw12_theirs.f k q = some (q.map their) := h4 k (by omega)
  have h5 : graftbedlaw12_theirs.f k n = some (n.map their) := h5 k (by omega)
  have h6 : graftbedref12_Same.f k (p.map their) (p.map their) = some true := h6 k (by omega)
  have h7 : graftbedref12_Same.f k (q.map their) (q.map their) = some true := h7 k (by omega)
  have h8 : graftbedref12_Same.f k (n.map their) (n.map their) = some true := h8 k (by omega)
  have h9 : graftbedlaw12_ExprLogic.j2 k ts x y p q n false = some true := h9 k (by omega)
  show graftbedlaw12_ExprLogic.j1 (k + 1) ts x y false = some true
  rw [graftbedlaw12_ExprLogic.j1, if_neg (by decide), hp]
  simp only [Option.bind_some, hq, hn, h1, h2, h3, h4, h5, h6, h7, h8, rA, rO, rN, if_true, Bool.not_true]
  exact h9

theorem ExprLogic (a0 a1 : ByteArray) (l2 : List ByteArray) (w0 : a0.size ≤ 140737488351232) (w1 : a1.size ≤ 140737488351232) (w2 : l2.length * 16 ≤ 140737488351232 ∧ ∀ y ∈ l2, y.size ≤ 140737488351232) : ∃ k, graftbedlaw12_ExprLogic.f k a0 a1 l2 = some true := by
  obtain ⟨la, hla, hpos⟩ := a_eq
  have hj : Ev (fun k => graftbedlaw12_ExprLogic.j0 k a0 a1 l2 true) true := by
    refine Ev.step (f := fun _ => some true) (fun k => ?_) (Ev.now _)
    rw [graftbedlaw12_ExprLogic.j0, if_pos rfl, hla]
    simp only [Option.bind_some]
    rw [if_pos hpos]
  have hj1 : ∀ x y, Ev (fun k => graftbedlaw12_ExprLogic.j1 k l2 x y true) true := fun x y => by
    refine Ev.step (f := fun _ => some true) (fun k => ?_) (Ev.now _)
    rw [graftbedlaw12_ExprLogic.j1, if_pos rfl, hla]
    simp only [Option.bind_some]
    rw [if_pos hpos]
  refine Ev.rounds (g := fun k => graftbedlaw12_ExprLogic.f k a0 a1 l2) ?_
  by_cases h0 : (a0.size : Int) > 256
  · exact Ev.congr (fun k => by unfold graftbedlaw12_ExprLogic.f; rw [if_pos h0]) hj
  by_cases h1 : (a1.size : Int) > 256
  · exact Ev.congr (fun k => by unfold graftbedlaw12_ExprLogic.f; rw [if_neg h0, if_pos h1]) hj
  by_cases h2 : (l2.length : Int) > 50
  · exact Ev.congr (fun k => by unfold graftbedlaw12_ExprLogic.f; rw [if_neg h0, if_neg h1, if_pos h2]) hj
  refine Ev.congr (f := fun k => graftbedlaw12_ExprLogic.j0 k a0 a1 l2 false) (fun k => ?_) ?_
  · unfold graftbedlaw12_ExprLogic.f
    rw [if_neg h0, if_neg h1, if_neg h2, hla]
    simp only [Option.bind_some]
    rw [if_pos hpos]
  obtain ⟨x, ex, hx, gx, lx, cx⟩ := Parse_eq (s := a0) (by omega)
  obtain ⟨y, ey, hy, gy, ly, cy⟩ := Parse_eq (s := a1) (by omega)
  have hst : ∀ k, graftbedlaw12_ExprLogic.j0 (k + 1) a0 a1 l2 false = if ex = 0 then (graftbedlaw12_ExprLogic.j1 k l2 x y (ey != 0)) else (graftbedlaw12_ExprLogic.j1 k l2 x y true) := fun k => by
    rw [graftbedlaw12_ExprLogic.j0, if_neg (by decide), hx]
    simp only [Option.bind_some]
    rw [hy]
    rfl
  by_cases e0 : ex = 0
  · by_cases e1 : ey = 0
    · exact Ev.step (fun k => by rw [hst, if_pos e0, e1]; rfl) (logic_j1 gx gy (cx e0) (cy e1) lx ly)
    · have e2 : (ey != 0) = true := by rw [bne_iff_ne]; exact e1
      exact Ev.step (fun k => by rw [hst, if_pos e0, e2]) (hj1 x y)
  · exact Ev.step (fun k => by rw [hst, if_neg e0]) (hj1 x y)
end Go.Proofs.YtjndccjpjknbkaaDoor.Pure
