/- What is so by some tags, of which none is ignore, may be so; of what may be so, and may not, either is so: the plain law. -/
import Derived.Test.YtjndccjpjknbkaaDoorMpb
import Derived.Test.YtjndccjpjknbkaaDoorRowOksExprMay
import Derived.Test.YtjndccjpjknbkaaDoorPureExBase
namespace Go.Proofs.YtjndccjpjknbkaaDoor.Pure
open Go.RowKit Go.Proofs.YtjndccjpjknbkaaDoor.PEx Go.Proofs.YtjndccjpjknbkaaDoorW.PrintWords Go.Proofs.YtjndccjpjknbkaaDoorW.PrintLast Go.Proofs.YtjndccjpjknbkaaDoorW.PrintMore Go.Proofs.YtjndccjpjknbkaaDoor.BytesLib Go.Proofs.YtjndccjpjknbkaaDoor.ExNode Go.Proofs.YtjndccjpjknbkaaDoor.ExSem Go.Proofs.YtjndccjpjknbkaaDoor.ExLaw Go.Proofs.YtjndccjpjknbkaaDoor.PureEx Go.Proofs.YtjndccjpjknbkaaDoor.RowOksExprMay
open Go.Proofs.YtjndccjpjknbkaaDoor.ExCheck (checkF)
set_option linter.unusedVariables false

theorem mem_of_contains {l : List ByteArray} {t : ByteArray} (h : Lib.containsS l t = true) : t ∈ l := (Lib.containsS_iff l t).1 h

theorem may_j2_bad {l0 t : List S52} {l1 : List ByteArray} (h0 : l0.length ≤ 70) (h1 : t.length ≤ 71) (g0 : tags l0) (g1 : tags t) (h : ¬ (checkF (nds l0) = 0 ∧ checkF (nds t) = 0)) : Ev (fun k => graftbedlaw12_ExprMay.j2 k l0 l1 t true) true := by
  obtain ⟨r, hr, hr0⟩ := rcheck_ev (l0.map their) (by simp; omega) (fun x hx => by
    obtain ⟨y, hy, rfl⟩ := List.mem_map.1 hx
    exact g0 y hy)
  obtain ⟨q, hq, hq0⟩ := rcheck_ev (t.map their) (by simp; omega) (fun x hx => by
    obtain ⟨y, hy, rfl⟩ := List.mem_map.1 hx
    exact g1 y hy)
  rw [rns_their] at hr0 hq0
  refine Ev.step (f := fun k => (graftbedlaw12_theirs.f k l0).bind fun a => (graftbedref12_Check.f k a).bind fun c => if c = 0 then ((graftbedlaw12_theirs.f k t).bind fun b => (graftbedref12_Check.f k b).bind fun d => some (d != 0)) else some true) (fun k => by rw [graftbedlaw12_ExprMay.j2, if_pos rfl]) ?_
  refine Ev.bind (f := fun k a => (graftbedref12_Check.f k a).bind fun c => if c = 0 then ((graftbedlaw12_theirs.f k t).bind fun b => (graftbedref12_Check.f k b).bind fun d => some (d != 0)) else some true) (theirs_eq (by omega)) ?_
  refine Ev.bind (f := fun k c => if c = 0 then ((graftbedlaw12_theirs.f k t).bind fun b => (graftbedref12_Check.f k b).bind fun d => some (d != 0)) else some true) hr ?_
  by_cases hc : r = 0
  · refine Ev.congr (f := fun k => (graftbedlaw12_theirs.f k t).bind fun b => (graftbedref12_Check.f k b).bind fun d => some (d != 0)) (fun k => if_pos hc) ?_
    refine Ev.bind (f := fun k b => (graftbedref12_Check.f k b).bind fun d => some (d != 0)) (theirs_eq (by omega)) ?_
    refine Ev.bind (f := fun _ d => some (d != 0)) hq ?_
    have : (q != 0) = true := by
      rw [bne_iff_ne]
      exact fun e => h ⟨hr0 hc, hq0 e⟩
    exact Ev.congr (fun k => by rw [this]) (Ev.now _)
  · exact Ev.congr (fun k => if_neg hc) (Ev.now _)

theorem may_j2_good {l0 t : List S52} {l1 : List ByteArray} (g0 : tags l0) (g1 : tags t) (hn : nds t = notN (nds l0)) (hl : t.length = l0.length + 1) (h70 : l0.length ≤ 70) (hc : checkF (nds l0) = 0) (hd : checkF (nds t) = 0)
    (hig : ∀ y ∈ l1, y ≠ ⟨#[105, 103, 110, 111, 114, 101]⟩) : Ev (fun k => graftbedlaw12_ExprMay.j2 k l0 l1 t false) true := by
  have hlen : (nds l0).length = l0.length := by unfold nds; simp
  obtain ⟨hpos, _, _⟩ := check_ref hc
  obtain ⟨m1, m2⟩ := may_rel (tg := fun x => Lib.containsS l1 x) (fun x hx => hig x (mem_of_contains hx)) hc
  have he : evalF (nds l0) l1 = runF (fun x => Lib.containsS l1 x) (nds l0) := by unfold evalF; rw [decide_eq_true hc]; rfl
  have hp : anyF (nds l0) = ((vals2 (nds l0) []).getD ((nds l0).length - 1) (false, false)).1 := by unfold anyF; rw [decide_eq_true hc]; rfl
  have hq : anyF (nds t) = ((vals2 (nds l0) []).getD ((nds l0).length - 1) (false, false)).2 := by
    unfold anyF
    rw [decide_eq_true hd, hn, any_not hpos]
    rfl
  rw [← he, ← hp] at m1
  rw [← he, ← hq] at m2
  have hw : ((t.length : Int) == wrap64 ((l0.length : Int) + 1)) = true := by
    rw [w64u (by omega) (by omega), beq_iff_eq]; omega
  refine Ev.step (f := fun _ => some true) (fun k => ?_) (Ev.now _)
  rw [graftbedlaw12_ExprMay.j2, if_neg (by decide)]
  simp only [Eval_eq g0, Any_eq g0, Any_eq g1, Option.bind_some, hw]
  revert m1 m2
  cases evalF (nds l0) l1 <;> cases anyF (nds l0) <;> cases anyF (nds t) <;> simp

theorem may_loop {l0 : List S52} {l1 : List ByteArray} (h0 : l0.length ≤ 70) (h1 : l1.length ≤ 50) (g0 : tags l0) : ∀ (d i : Nat), l1.length - i = d → i ≤ l1.length → (∀ y ∈ l1.take i, y ≠ ⟨#[105, 103, 110, 111, 114, 101]⟩) → Ev (fun k => graftbedlaw12_ExprMay.l0 k l0 l1 (i : Int)) true
  | 0, i, hd, hi, ha => by
    rw [List.take_of_length_le (by omega)] at ha
    obtain ⟨t, ht, hn, hl, hg⟩ := Not_eq (l := l0) (by omega)
    have g1 := hg g0
    have hst : ∀ k, graftbedlaw12_ExprMay.l0 (k + 1) l0 l1 (i : Int) = if checkF (nds l0) = 0 then graftbedlaw12_ExprMay.j2 k l0 l1 t (checkF (nds t) != 0) else graftbedlaw12_ExprMay.j2 k l0 l1 t true := fun k => by
      rw [graftbedlaw12_ExprMay.l0, if_neg (by omega), ht]
      simp only [Option.bind_some, Check_eq g0, Check_eq g1]
    by_cases hc : checkF (nds l0) = 0
    · by_cases hd : checkF (nds t) = 0
      · exact Ev.step (fun k => by rw [hst, if_pos hc, hd]; rfl) (may_j2_good g0 g1 hn hl h0 hc hd ha)
      · have e : (checkF (nds t) != 0) = true := by rw [bne_iff_ne]; exact hd
        exact Ev.step (fun k => by rw [hst, if_pos hc, e]) (may_j2_bad h0 (by omega) g0 g1 (fun h => hd h.2))
    · exact Ev.step (fun k => by rw [hst, if_neg hc]) (may_j2_bad h0 (by omega) g0 g1 (fun h => hc h.1))
  | d + 1, i, hd, hi, ha => by
    have hlt : i < l1.length := by omega
    have hrd : rdOf ByteArray.empty l1 (i : Int) = l1[i] := by
      unfold rdOf
      simp [List.getD, hlt]
    obtain ⟨la, hla, hpos⟩ := a_eq
    by_cases hx : l1[i].toList = [105, 103, 110, 111, 114, 101]
    · refine Ev.step (f := fun _ => some true) (fun k => ?_) (Ev.now _)
      rw [graftbedlaw12_ExprMay.l0, if_pos (by omega), if_pos (by omega), hrd, if_pos hx, hla]
      simp only [Option.bind_some]
      rw [if_pos hpos]
    · refine Ev.step (fun k => ?_) (may_loop h0 h1 g0 d (i + 1) (by omega) (by omega) (by
        rw [List.take_succ_eq_append_getElem hlt]
        intro y hy
        rcases List.mem_append.1 hy with h | h
        · exact ha y h
        · rw [List.mem_singleton] at h
          subst h
          intro e
          refine hx ?_
          rw [e, toList_L]; rfl))
      rw [graftbedlaw12_ExprMay.l0, if_pos (by omega), if_pos (by omega), hrd, if_neg hx, w64u (by omega) (by omega)]
      rfl

theorem ExprMay (l0 : List S52) (l1 : List ByteArray) (w0 : l0.length * 40 ≤ 140737488351232 ∧ ∀ y ∈ l0, ok52 y) (w1 : l1.length * 16 ≤ 140737488351232 ∧ ∀ y ∈ l1, y.size ≤ 140737488351232) : ∃ k, graftbedlaw12_ExprMay.f k l0 l1 = some true := by
  obtain ⟨la, hla, hpos⟩ := a_eq
  have hj : Ev (fun k => graftbedlaw12_ExprMay.j0 k l0 l1 true) true := by
    refine Ev.step (f := fun _ => some true) (fun k => ?_) (Ev.now _)
    rw [graftbedlaw12_ExprMay.j0, if_pos rfl, hla]
    simp only [Option.bind_some]
    rw [if_pos hpos]
  obtain ⟨b, hb, hbf⟩ := heavy_eq l0 (by omega)
  refine Ev.rounds (g := fun k => graftbedlaw12_ExprMay.f k l0 l1) ?_
  refine Ev.bind (f := fun k t => if t = true then (graftbedlaw12_ExprMay.j0 k l0 l1 true) else (if (l1.length : Int) > 50 then (graftbedlaw12_ExprMay.j0 k l0 l1 true) else ((graftbedlaw12_a.f).bind fun t132 => (if 0 < t132.length then (graftbedlaw12_ExprMay.j0 k l0 l1 false) else (none))))) hb ?_
  cases b with
  | true => exact Ev.congr (fun k => if_pos rfl) hj
  | false =>
    obtain ⟨h70, h100⟩ := hbf rfl
    by_cases h50 : (l1.length : Int) > 50
    · exact Ev.congr (fun k => by rw [if_neg (by decide), if_pos h50]) hj
    · refine Ev.congr (f := fun k => graftbedlaw12_ExprMay.j0 k l0 l1 false) (fun k => ?_) ?_
      · rw [if_neg (by decide), if_neg h50, hla]
        simp only [Option.bind_some]
        rw [if_pos hpos]
      · refine Ev.step (fun k => ?_) (may_loop h70 (show l1.length ≤ 50 by omega) (fun x hx => by have := h100 x hx; omega) _ 0 rfl (Nat.zero_le _) (by simp))
        rw [graftbedlaw12_ExprMay.j0, if_neg (by decide)]
        rfl
end Go.Proofs.YtjndccjpjknbkaaDoor.Pure
