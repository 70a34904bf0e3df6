/- Not both is one of both not; not one is both not: the plain law. -/
import Derived.Test.YtjndccjpjknbkaaDoorMpa
import Derived.Test.YtjndccjpjknbkaaDoorRowOksExprTurns
import Derived.Test.YtjndccjpjknbkaaDoorPureExOps
namespace Go.Proofs.YtjndccjpjknbkaaDoor.Pure
open Go.RowKit Go.Proofs.YtjndccjpjknbkaaDoor.PEx Go.Proofs.YtjndccjpjknbkaaDoorW.PrintWords Go.Proofs.YtjndccjpjknbkaaDoorW.PrintLast Go.Proofs.YtjndccjpjknbkaaDoorW.PrintMore Go.Proofs.YtjndccjpjknbkaaDoor.BytesLib Go.Proofs.YtjndccjpjknbkaaDoor.ExNode Go.Proofs.YtjndccjpjknbkaaDoor.ExSem Go.Proofs.YtjndccjpjknbkaaDoor.ExLaw Go.Proofs.YtjndccjpjknbkaaDoor.ExLaw2 Go.Proofs.YtjndccjpjknbkaaDoor.ExBoth Go.Proofs.YtjndccjpjknbkaaDoor.PureEx
open Go.Proofs.YtjndccjpjknbkaaDoor.ExCheck (checkF)
set_option linter.unusedVariables false

theorem turns_j1 {x y : List S52} {ts : List ByteArray} (gx : tags x) (gy : tags y) (cx : checkF (nds x) = 0) (cy : checkF (nds y) = 0) (h50 : x.length + y.length ≤ 50) : Ev (fun k => graftbedlaw12_ExprTurns.j1 k ts x y false) true := by
  obtain ⟨p, hp, np, gp, lp⟩ := And_eq (a := x) (b := y) (by omega) (by omega) gx gy
  obtain ⟨q, hq, nq, gq, lq⟩ := Or_eq (a := x) (b := y) (by omega) (by omega) gx gy
  obtain ⟨p1, hp1, np1, lp1, gp1'⟩ := Not_eq (l := p) (by omega)
  obtain ⟨q1, hq1, nq1, lq1, gq1'⟩ := Not_eq (l := q) (by omega)
  obtain ⟨x1, hx1, nx1, lx1, gx1'⟩ := Not_eq (l := x) (by omega)
  obtain ⟨y1, hy1, ny1, ly1, gy1'⟩ := Not_eq (l := y) (by omega)
  have gp1 := gp1' gp
  have gq1 := gq1' gq
  have gx1 := gx1' gx
  have gy1 := gy1' gy
  obtain ⟨u, hu, nu, gu, lu⟩ := Or_eq (a := x1) (b := y1) (by omega) (by omega) gx1 gy1
  obtain ⟨v, hv, nv, gv, lv⟩ := And_eq (a := x1) (b := y1) (by omega) (by omega) gx1 gy1
  have hw : ((p1.length : Int) == wrap64 (wrap64 ((x.length : Int) + (y.length : Int)) + 2)) = true := by
    rw [w64u (x := (x.length : Int) + (y.length : Int)) (by omega) (by omega), w64u (by omega) (by omega), beq_iff_eq]; omega
  refine Ev.step (f := fun _ => some true) (fun k => ?_) (Ev.now _)
  rw [graftbedlaw12_ExprTurns.j1, if_neg (by decide), hp]
  simp only [Option.bind_some, hp1, hq, hq1, hx1, hy1, hu, hv, Check_eq gp1, Eval_eq gp1, Eval_eq gq1, Eval_eq gu, Eval_eq gv, Any_eq gp1, Any_eq gq1, Any_eq gu, Any_eq gv, hw]
  by_cases hc : checkF (nds p1) = 0
  · rw [if_pos hc]
    obtain ⟨da, db, ea, eb, d1, d2, l1, l2⟩ := two_ex cx cy
    have lx := nds_len x
    have ly := nds_len y
    rw [lx] at l1
    rw [ly] at l2
    have eP := ex_both (k := 2) (.inl rfl) ea eb (by omega) (by omega)
    have eQ := ex_both (k := 3) (.inr rfl) ea eb (by omega) (by omega)
    have eX := ex_not ea
    have eY := ex_not eb
    have eU := ex_both (k := 3) (.inr rfl) eX eY (by rw [not_len]; omega) (by rw [not_len]; omega)
    have eV := ex_both (k := 2) (.inl rfl) eX eY (by rw [not_len]; omega) (by rw [not_len]; omega)
    have hc0 := hc
    rw [np1, np, ex_ok (ex_not eP)] at hc
    obtain ⟨c1, c2⟩ := hc
    have cp : checkF (nds p) = 0 := by rw [np, ex_ok eP]; exact ⟨by rw [both_len]; omega, by omega⟩
    have cq : checkF (nds q) = 0 := by rw [nq, ex_ok eQ]; exact ⟨by rw [both_len]; omega, by omega⟩
    have cq1 : checkF (nds q1) = 0 := by rw [nq1, nq, ex_ok (ex_not eQ)]; exact ⟨by rw [not_len, both_len]; omega, by omega⟩
    have cx1 : checkF (nds x1) = 0 := by rw [nx1, ex_ok eX]; exact ⟨by rw [not_len]; omega, by omega⟩
    have cy1 : checkF (nds y1) = 0 := by rw [ny1, ex_ok eY]; exact ⟨by rw [not_len]; omega, by omega⟩
    have cu : checkF (nds u) = 0 := by rw [nu, nx1, ny1, ex_ok eU]; exact ⟨by rw [both_len, not_len, not_len]; omega, by omega⟩
    have cv : checkF (nds v) = 0 := by rw [nv, nx1, ny1, ex_ok eV]; exact ⟨by rw [both_len, not_len, not_len]; omega, by omega⟩
    obtain ⟨zx, _, _⟩ := check_ref cx
    obtain ⟨zy, _, _⟩ := check_ref cy
    obtain ⟨zp, _, _⟩ := check_ref cp
    obtain ⟨zq, _, _⟩ := check_ref cq
    have cx1' := cx1
    have cy1' := cy1
    rw [nx1] at cx1'
    rw [ny1] at cy1'
    have R1 : evalF (nds p1) ts = !(runF (fun z => Lib.containsS ts z) (nds x) && runF (fun z => Lib.containsS ts z) (nds y)) := by
      rw [eval_ok hc0, np1, run_not _ zp, np, run_both _ cx cy]; rfl
    have R2 : evalF (nds u) ts = (!(runF (fun z => Lib.containsS ts z) (nds x)) || !(runF (fun z => Lib.containsS ts z) (nds y))) := by
      rw [eval_ok cu, nu, nx1, ny1, run_both _ cx1' cy1', run_not _ zx, run_not _ zy]; rfl
    have R3 : evalF (nds q1) ts = !(runF (fun z => Lib.containsS ts z) (nds x) || runF (fun z => Lib.containsS ts z) (nds y)) := by
      rw [eval_ok cq1, nq1, run_not _ zq, nq, run_both _ cx cy]; rfl
    have R4 : evalF (nds v) ts = (!(runF (fun z => Lib.containsS ts z) (nds x)) && !(runF (fun z => Lib.containsS ts z) (nds y))) := by
      rw [eval_ok cv, nv, nx1, ny1, run_both _ cx1' cy1', run_not _ zx, run_not _ zy]; rfl
    have A1 : anyF (nds p1) = anyF (nds u) := by
      rw [any_ok hc0, any_ok cu, np1, any_not2 zp, np, any_both (.inl rfl) cx cy, nu, nx1, ny1, any_both (.inr rfl) cx1' cy1', any_not2 zx, any_not2 zy]; rfl
    have A2 : anyF (nds q1) = anyF (nds v) := by
      rw [any_ok cq1, any_ok cv, nq1, any_not2 zq, nq, any_both (.inr rfl) cx cy, nv, nx1, ny1, any_both (.inl rfl) cx1' cy1', any_not2 zx, any_not2 zy]; rfl
    rw [R1, R2, R3, R4, A1, A2]
    generalize anyF (nds u) = g1
    generalize anyF (nds v) = g2
    cases runF (fun z => Lib.containsS ts z) (nds x) <;> cases runF (fun z => Lib.containsS ts z) (nds y) <;> cases g1 <;> cases g2 <;> rfl
  · rw [if_neg hc]

theorem ExprTurns (a0 a1 : ByteArray) (l2 : List ByteArray) (w0 : a0.size ≤ 140737488351232) (w1 : a1.size ≤ 140737488351232) (w2 : l2.length * 16 ≤ 140737488351232 ∧ ∀ y ∈ l2, y.size ≤ 140737488351232) : ∃ k, graftbedlaw12_ExprTurns.f k a0 a1 l2 = some true := by
  obtain ⟨la, hla, hpos⟩ := a_eq
  have hj : Ev (fun k => graftbedlaw12_ExprTurns.j0 k a0 a1 l2 true) true := by
    refine Ev.step (f := fun _ => some true) (fun k => ?_) (Ev.now _)
    rw [graftbedlaw12_ExprTurns.j0, if_pos rfl, hla]
    simp only [Option.bind_some]
    rw [if_pos hpos]
  have hj1 : ∀ x y, Ev (fun k => graftbedlaw12_ExprTurns.j1 k l2 x y true) true := fun x y => by
    refine Ev.step (f := fun _ => some true) (fun k => ?_) (Ev.now _)
    rw [graftbedlaw12_ExprTurns.j1, if_pos rfl, hla]
    simp only [Option.bind_some]
    rw [if_pos hpos]
  refine Ev.rounds (g := fun k => graftbedlaw12_ExprTurns.f k a0 a1 l2) ?_
  by_cases h0 : (a0.size : Int) > 128
  · exact Ev.congr (fun k => by unfold graftbedlaw12_ExprTurns.f; rw [if_pos h0]) hj
  by_cases h1 : (a1.size : Int) > 128
  · exact Ev.congr (fun k => by unfold graftbedlaw12_ExprTurns.f; rw [if_neg h0, if_pos h1]) hj
  by_cases h2 : (l2.length : Int) > 50
  · exact Ev.congr (fun k => by unfold graftbedlaw12_ExprTurns.f; rw [if_neg h0, if_neg h1, if_pos h2]) hj
  refine Ev.congr (f := fun k => graftbedlaw12_ExprTurns.j0 k a0 a1 l2 false) (fun k => ?_) ?_
  · unfold graftbedlaw12_ExprTurns.f
    rw [if_neg h0, if_neg h1, if_neg h2, hla]
    simp only [Option.bind_some]
    rw [if_pos hpos]
  obtain ⟨x, ex, hx, gx, lx, cx⟩ := Parse_eq (s := a0) (by omega)
  obtain ⟨y, ey, hy, gy, ly, cy⟩ := Parse_eq (s := a1) (by omega)
  have hst : ∀ k, graftbedlaw12_ExprTurns.j0 (k + 1) a0 a1 l2 false = if ex = 0 then (if ey = 0 then (graftbedlaw12_ExprTurns.j1 k l2 x y (decide ((wrap64 ((x.length : Int) + (y.length : Int))) > 50))) else (graftbedlaw12_ExprTurns.j1 k l2 x y true)) else (graftbedlaw12_ExprTurns.j1 k l2 x y true) := fun k => by
    rw [graftbedlaw12_ExprTurns.j0, if_neg (by decide), hx]
    simp only [Option.bind_some]
    rw [hy]
    rfl
  have hw : wrap64 ((x.length : Int) + (y.length : Int)) = (x.length : Int) + (y.length : Int) := w64u (by omega) (by omega)
  by_cases e0 : ex = 0
  · by_cases e1 : ey = 0
    · by_cases h50 : (x.length : Int) + (y.length : Int) > 50
      · exact Ev.step (fun k => by rw [hst, if_pos e0, if_pos e1, hw, decide_eq_true h50]) (hj1 x y)
      · exact Ev.step (fun k => by rw [hst, if_pos e0, if_pos e1, hw, decide_eq_false h50]) (turns_j1 gx gy (cx e0) (cy e1) (by omega))
    · exact Ev.step (fun k => by rw [hst, if_pos e0, if_neg e1]) (hj1 x y)
  · exact Ev.step (fun k => by rw [hst, if_neg e0]) (hj1 x y)
end Go.Proofs.YtjndccjpjknbkaaDoor.Pure
