/- And and Or of two are so in either order, by the same tags; of one with itself, as that one: the plain law. -/
import Derived.Test.YtjndccjpjknbkaaDoorMpa
import Derived.Test.YtjndccjpjknbkaaDoorRowOksExprEither
import Derived.Test.YtjndccjpjknbkaaDoorPureExOps
namespace Go.Proofs.YtjndccjpjknbkaaDoor.Pure
open Go.RowKit Go.Proofs.YtjndccjpjknbkaaDoor.PEx Go.Proofs.YtjndccjpjknbkaaDoorW.PrintWords Go.Proofs.YtjndccjpjknbkaaDoorW.PrintLast Go.Proofs.YtjndccjpjknbkaaDoorW.PrintMore Go.Proofs.YtjndccjpjknbkaaDoor.BytesLib Go.Proofs.YtjndccjpjknbkaaDoor.ExNode Go.Proofs.YtjndccjpjknbkaaDoor.ExSem Go.Proofs.YtjndccjpjknbkaaDoor.ExLaw Go.Proofs.YtjndccjpjknbkaaDoor.ExLaw2 Go.Proofs.YtjndccjpjknbkaaDoor.ExBoth Go.Proofs.YtjndccjpjknbkaaDoor.PureEx
open Go.Proofs.YtjndccjpjknbkaaDoor.ExCheck (checkF)
set_option linter.unusedVariables false

theorem either_j1 {x y : List S52} {ts : List ByteArray} (gx : tags x) (gy : tags y) (cx : checkF (nds x) = 0) (cy : checkF (nds y) = 0) (h50 : x.length + y.length ≤ 50) (h25 : x.length ≤ 25) : Ev (fun k => graftbedlaw12_ExprEither.j1 k ts x y false) true := by
  obtain ⟨p, hp, np, gp, lp⟩ := And_eq (a := x) (b := y) (by omega) (by omega) gx gy
  obtain ⟨q, hq, nq, gq, lq⟩ := Or_eq (a := x) (b := y) (by omega) (by omega) gx gy
  obtain ⟨p2, hp2, np2, gp2, lp2⟩ := And_eq (a := y) (b := x) (by omega) (by omega) gy gx
  obtain ⟨q2, hq2, nq2, gq2, lq2⟩ := Or_eq (a := y) (b := x) (by omega) (by omega) gy gx
  obtain ⟨p3, hp3, np3, gp3, lp3⟩ := And_eq (a := x) (b := x) (by omega) (by omega) gx gx
  obtain ⟨q3, hq3, nq3, gq3, lq3⟩ := Or_eq (a := x) (b := x) (by omega) (by omega) gx gx
  have hw : ((p.length : Int) == wrap64 (wrap64 ((x.length : Int) + (y.length : Int)) + 1)) = true := by
    rw [w64u (x := (x.length : Int) + (y.length : Int)) (by omega) (by omega), w64u (by omega) (by omega), beq_iff_eq]; omega
  refine Ev.step (f := fun _ => some true) (fun k => ?_) (Ev.now _)
  rw [graftbedlaw12_ExprEither.j1, if_neg (by decide), hp, hq, hp2, hq2, hp3, hq3]
  simp only [Option.bind_some, Check_eq gp, Eval_eq gx, Eval_eq gp, Eval_eq gq, Eval_eq gp2, Eval_eq gq2, Eval_eq gp3, Eval_eq gq3]
  by_cases hc : checkF (nds p) = 0
  · rw [if_pos hc]
    obtain ⟨da, db, ea, eb, d1, d2, l1, l2⟩ := two_ex cx cy
    rw [nds_len] at l1 l2
    have lx := nds_len x
    have ly := nds_len y
    rw [np, ex_ok (ex_both (.inl rfl) ea eb (by omega) (by omega))] at hc
    obtain ⟨c1, c2⟩ := hc
    have cp : checkF (nds p) = 0 := by rw [np, ex_ok (ex_both (.inl rfl) ea eb (by omega) (by omega))]; exact ⟨c1, c2⟩
    have cq : checkF (nds q) = 0 := by rw [nq, ex_ok (ex_both (.inr rfl) ea eb (by omega) (by omega))]; exact ⟨by rw [both_len] at c1 ⊢; exact c1, c2⟩
    have cp2 : checkF (nds p2) = 0 := by rw [np2, ex_ok (ex_both (.inl rfl) eb ea (by omega) (by omega))]; exact ⟨by rw [both_len] at c1 ⊢; omega, by omega⟩
    have cq2 : checkF (nds q2) = 0 := by rw [nq2, ex_ok (ex_both (.inr rfl) eb ea (by omega) (by omega))]; exact ⟨by rw [both_len] at c1 ⊢; omega, by omega⟩
    have cp3 : checkF (nds p3) = 0 := by rw [np3, ex_ok (ex_both (.inl rfl) ea ea (by omega) (by omega))]; exact ⟨by rw [both_len]; omega, by omega⟩
    have cq3 : checkF (nds q3) = 0 := by rw [nq3, ex_ok (ex_both (.inr rfl) ea ea (by omega) (by omega))]; exact ⟨by rw [both_len]; omega, by omega⟩
    rw [eval_ok cx, eval_ok cp, eval_ok cq, eval_ok cp2, eval_ok cq2, eval_ok cp3, eval_ok cq3, np, nq, np2, nq2, np3, nq3, run_both _ cx cy, run_both _ cx cy, run_both _ cy cx, run_both _ cy cx, run_both _ cx cx, run_both _ cx cx, hw]
    cases runF (fun z => Lib.containsS ts z) (nds x) <;> cases runF (fun z => Lib.containsS ts z) (nds y) <;> rfl
  · rw [if_neg hc]

theorem ExprEither (a0 a1 : ByteArray) (l2 : List ByteArray) (w0 : a0.size ≤ 140737488351232) (w1 : a1.size ≤ 140737488351232) (w2 : l2.length * 16 ≤ 140737488351232 ∧ ∀ y ∈ l2, y.size ≤ 140737488351232) : ∃ k, graftbedlaw12_ExprEither.f k a0 a1 l2 = some true := by
  obtain ⟨la, hla, hpos⟩ := a_eq
  have hj : Ev (fun k => graftbedlaw12_ExprEither.j0 k a0 a1 l2 true) true := by
    refine Ev.step (f := fun _ => some true) (fun k => ?_) (Ev.now _)
    rw [graftbedlaw12_ExprEither.j0, if_pos rfl, hla]
    simp only [Option.bind_some]
    rw [if_pos hpos]
  have hj1 : ∀ x y, Ev (fun k => graftbedlaw12_ExprEither.j1 k l2 x y true) true := fun x y => by
    refine Ev.step (f := fun _ => some true) (fun k => ?_) (Ev.now _)
    rw [graftbedlaw12_ExprEither.j1, if_pos rfl, hla]
    simp only [Option.bind_some]
    rw [if_pos hpos]
  refine Ev.rounds (g := fun k => graftbedlaw12_ExprEither.f k a0 a1 l2) ?_
  by_cases h0 : (a0.size : Int) > 128
  · exact Ev.congr (fun k => by unfold graftbedlaw12_ExprEither.f; rw [if_pos h0]) hj
  by_cases h1 : (a1.size : Int) > 128
  · exact Ev.congr (fun k => by unfold graftbedlaw12_ExprEither.f; rw [if_neg h0, if_pos h1]) hj
  by_cases h2 : (l2.length : Int) > 50
  · exact Ev.congr (fun k => by unfold graftbedlaw12_ExprEither.f; rw [if_neg h0, if_neg h1, if_pos h2]) hj
  refine Ev.congr (f := fun k => graftbedlaw12_ExprEither.j0 k a0 a1 l2 false) (fun k => ?_) ?_
  · unfold graftbedlaw12_ExprEither.f
    rw [if_neg h0, if_neg h1, if_neg h2, hla]
    simp only [Option.bind_some]
    rw [if_pos hpos]
  obtain ⟨x, ex, hx, gx, lx, cx⟩ := Parse_eq (s := a0) (by omega)
  obtain ⟨y, ey, hy, gy, ly, cy⟩ := Parse_eq (s := a1) (by omega)
  have hst : ∀ k, graftbedlaw12_ExprEither.j0 (k + 1) a0 a1 l2 false = if ex = 0 then (if ey = 0 then (if (wrap64 ((x.length : Int) + (y.length : Int))) > 50 then (graftbedlaw12_ExprEither.j1 k l2 x y true) else (graftbedlaw12_ExprEither.j1 k l2 x y (decide ((x.length : Int) > 25)))) else (graftbedlaw12_ExprEither.j1 k l2 x y true)) else (graftbedlaw12_ExprEither.j1 k l2 x y true) := fun k => by
    rw [graftbedlaw12_ExprEither.j0, if_neg (by decide), hx]
    simp only [Option.bind_some]
    rw [hy]
    rfl
  have hw : wrap64 ((x.length : Int) + (y.length : Int)) = (x.length : Int) + (y.length : Int) := w64u (by omega) (by omega)
  by_cases e0 : ex = 0
  · by_cases e1 : ey = 0
    · by_cases h50 : (x.length : Int) + (y.length : Int) > 50
      · exact Ev.step (fun k => by rw [hst, if_pos e0, if_pos e1, hw, if_pos h50]) (hj1 x y)
      · by_cases h25 : (x.length : Int) > 25
        · exact Ev.step (fun k => by rw [hst, if_pos e0, if_pos e1, hw, if_neg h50, decide_eq_true h25]) (hj1 x y)
        · exact Ev.step (fun k => by rw [hst, if_pos e0, if_pos e1, hw, if_neg h50, decide_eq_false h25]) (either_j1 gx gy (cx e0) (cy e1) (by omega) (by omega))
    · exact Ev.step (fun k => by rw [hst, if_pos e0, if_neg e1]) (hj1 x y)
  · exact Ev.step (fun k => by rw [hst, if_neg e0]) (hj1 x y)
end Go.Proofs.YtjndccjpjknbkaaDoor.Pure
