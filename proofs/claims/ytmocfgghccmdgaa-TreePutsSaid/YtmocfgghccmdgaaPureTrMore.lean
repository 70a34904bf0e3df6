/- Check, Find and Drop on trees. -/
import Derived.Test.YtmocfgghccmdgaaPureTrFind
import Derived.Test.YtmocfgghccmdgaaMpc
import Derived.Test.YtmocfgghccmdgaaMpd
namespace Go.Proofs.Ytmocfgghccmdgaa.Pure
open Go Go.RowKit Go.Proofs.Ytmocfgghccmdgaa.PTr Go.Proofs.YtmocfgghccmdgaaW.PrintWords Go.Proofs.YtmocfgghccmdgaaW.PrintLast
open Go.Proofs.Ytmocfgghccmdgaa.BytesLib Go.Proofs.Ytmocfgghccmdgaa.SplitLib Go.Proofs.Ytmocfgghccmdgaa.OrderLib Go.Proofs.Ytmocfgghccmdgaa.Elems Go.Proofs.Ytmocfgghccmdgaa.Valid Go.Proofs.Ytmocfgghccmdgaa.PathBase Go.Proofs.Ytmocfgghccmdgaa.TrLib Go.Proofs.Ytmocfgghccmdgaa.TrPut Go.Proofs.Ytmocfgghccmdgaa.TrFits Go.Proofs.Ytmocfgghccmdgaa.TrOps Go.Proofs.Ytmocfgghccmdgaa.TrMerge Go.Proofs.Ytmocfgghccmdgaa.TrPlain
set_option linter.unusedVariables false
set_option linter.unusedSimpArgs false

/-! ### Check -/
theorem up_at {T : List Fl} (up : T.Pairwise (fun x y => cmpP x.1 y.1 < 0)) {i j : Nat} (hj : j < T.length) (h : i < j) : cmpP (T[i]'(by omega)).1 T[j].1 < 0 :=
  (List.pairwise_iff_getElem.1 up) i j (by omega) hj h
theorem check_loop {T : List Fl} (hT : Tree T) : ∀ (d i : Nat), i ≤ T.length → T.length - i = d → Ev (fun k => tree_Check.l0 k (T.map D) (T.map D) (T.length : Int) (i : Int)) (0, (⟨#[]⟩ : ByteArray), 0) := by
  have hfew := hT.few
  intro d
  induction d with
  | zero =>
    intro i h1 h2
    refine Ev.step (f := fun _ => some (0, (⟨#[]⟩ : ByteArray), 0)) (fun k => ?_) (Ev.now _)
    simp only [tree_Check.l0]
    rw [if_neg (by omega), if_neg (by rw [len_D]; omega)]
  | succ d ih =>
    intro i h1 h2
    have hi : i < T.length := by omega
    have hm := List.getElem_mem hi
    obtain ⟨v1, v2⟩ := hT.ok _ hm
    have hsz := (valid_tells v1).2.1
    have hw : tree_wrong.f T[i].1 T[i].2 = some 0 := by
      unfold tree_wrong.f
      rw [if_pos (by omega)]
      exact congrArg some (wrong_zero.2 ⟨v1, v2⟩)
    have hj : Ev (fun k => tree_Check.j1 k (T.map D) 0 (T.map D) (T.length : Int) (i : Int) false T[i].1 T[i].2) (0, (⟨#[]⟩ : ByteArray), 0) := by
      refine Ev.step (fun k => ?_) (ih (i + 1) (by omega) (by omega))
      simp only [tree_Check.j1, Bool.false_eq_true, if_false, if_true]
      rw [w64 (by omega) (by omega)]; rfl
    refine Ev.step (fun k => ?_) hj
    simp only [tree_Check.l0]
    rw [if_pos (by omega), if_pos (by omega), if_pos (by rw [len_D]; omega), rd_D hi]
    show ((tree_wrong.f T[i].1 T[i].2).bind fun t279 => _) = _
    rw [hw, Option.bind_some, if_pos rfl]
    by_cases g : (i : Int) > 0
    · rw [if_pos g, w64 (by omega) (by omega)]
      have e1 : (i : Int) - 1 = ((i - 1 : Nat) : Int) := by omega
      rw [e1, if_pos (by omega), if_pos (by rw [len_D]; omega), rd_D (show i - 1 < T.length by omega)]
      have hm2 := List.getElem_mem (show i - 1 < T.length by omega)
      have hsz2 := (valid_tells (hT.ok _ hm2).1).2.1
      have hc : paths_Compare.f (D (T[i - 1]'(by omega))).f0 (D T[i]).f0 = some (cmpP (T[i - 1]'(by omega)).1 T[i].1) := by
        unfold paths_Compare.f
        rw [if_pos ⟨by show (T[i - 1]'(by omega)).1.size ≤ _; omega, by show T[i].1.size ≤ _; omega⟩]; rfl
      have hn : tree_inside.f (D T[i]).f0 (D (T[i - 1]'(by omega))).f0 = some false := by
        unfold tree_inside.f
        rw [if_pos (by show (T[i - 1]'(by omega)).1.size ≤ _; omega)]
        exact congrArg some (hT.out _ hm _ hm2)
      have hlt := up_at hT.up hi (show i - 1 < i by omega)
      rw [hc, Option.bind_some, if_neg (by omega), hn, Option.bind_some]
      rfl
    · rw [if_neg g]
      rfl
theorem check_ev {T : List Fl} (hT : Tree T) : Ev (fun k => tree_Check.f k (T.map D)) (0, (⟨#[]⟩ : ByteArray), 0) := by
  unfold tree_Check.f
  rw [len_D]
  exact check_loop hT _ 0 (Nat.zero_le _) rfl

/-! ### the reference's Find -/
/-! ### Drop -/
end Go.Proofs.Ytmocfgghccmdgaa.Pure

