/- Check, Find and Drop on trees. -/
import Derived.Test.YtmocfgghccmdgaaPureTrFind
import Derived.Test.YtmocfgghccmdgaaMpd
import Derived.Test.YtmocfgghccmdgaaMpc
namespace Go.Proofs.Ytmocfgghccmdgaa.Pure
open Go Go.RowKit Go.Proofs.Ytmocfgghccmdgaa.PTr Go.Proofs.YtmocfgghccmdgaaW.PrintWords Go.Proofs.YtmocfgghccmdgaaW.PrintLast
open Go.Proofs.Ytmocfgghccmdgaa.BytesLib Go.Proofs.Ytmocfgghccmdgaa.SplitLib Go.Proofs.Ytmocfgghccmdgaa.OrderLib Go.Proofs.Ytmocfgghccmdgaa.Elems Go.Proofs.Ytmocfgghccmdgaa.Valid Go.Proofs.Ytmocfgghccmdgaa.PathBase Go.Proofs.Ytmocfgghccmdgaa.TrLib Go.Proofs.Ytmocfgghccmdgaa.TrPut Go.Proofs.Ytmocfgghccmdgaa.TrFits Go.Proofs.Ytmocfgghccmdgaa.TrOps Go.Proofs.Ytmocfgghccmdgaa.TrMerge Go.Proofs.Ytmocfgghccmdgaa.TrPlain
set_option linter.unusedVariables false
set_option linter.unusedSimpArgs false

/-! ### Check -/
/-! ### the reference's Find -/
def findR (p : ByteArray) : List Fl → ByteArray × Bool
  | [] => (⟨#[]⟩, false)
  | y :: r => if L y.1 = L p then (y.2, true) else findR p r
theorem ref_find_loop (T : List Fl) (p : ByteArray) (hT : T.length ≤ 1000000) : ∀ (d i : Nat), i ≤ T.length → T.length - i = d → Ev (fun k => graftbedref02_Find.l0 k (T.map D) p (i : Int)) (findR p (T.drop i)) := by
  intro d
  induction d with
  | zero =>
    intro i h1 h2
    rw [List.drop_of_length_le (by omega), findR]
    refine Ev.step (f := fun _ => some ((⟨#[]⟩ : ByteArray), false)) (fun k => ?_) (Ev.now _)
    simp only [graftbedref02_Find.l0]
    rw [if_neg (by rw [len_D]; omega)]
  | succ d ih =>
    intro i h1 h2
    have hi : i < T.length := by omega
    rw [List.drop_eq_getElem_cons hi, findR]
    by_cases g : L T[i].1 = L p
    · rw [if_pos g]
      refine Ev.step (f := fun _ => some (T[i].2, true)) (fun k => ?_) (Ev.now _)
      simp only [graftbedref02_Find.l0]
      rw [if_pos (by rw [len_D]; omega), if_pos (by omega), rd_D hi, toList_L, toList_L]
      exact if_pos g
    · rw [if_neg g]
      refine Ev.step (fun k => ?_) (ih (i + 1) (by omega) (by omega))
      simp only [graftbedref02_Find.l0]
      rw [if_pos (by rw [len_D]; omega), if_pos (by omega), rd_D hi, toList_L, toList_L, w64 (by omega) (by omega)]
      exact if_neg g
theorem findR_form (p : ByteArray) : ∀ T : List Fl, (∃ y ∈ T, y.1 = p ∧ findR p T = (y.2, true)) ∨ ((∀ y ∈ T, y.1 ≠ p) ∧ findR p T = (⟨#[]⟩, false))
  | [] => .inr ⟨(fun _ h => nomatch h), rfl⟩
  | y :: r => by
    rw [findR]
    by_cases g : L y.1 = L p
    · rw [if_pos g]
      exact .inl ⟨y, List.mem_cons_self, L_inj g, rfl⟩
    · rw [if_neg g]
      rcases findR_form p r with ⟨z, hz, e, f⟩ | ⟨h, f⟩
      · exact .inl ⟨z, List.mem_cons_of_mem _ hz, e, f⟩
      · refine .inr ⟨fun z hz => ?_, f⟩
        rcases List.mem_cons.1 hz with rfl | hz
        · exact fun e => g (by rw [e])
        · exact h z hz
theorem findR_T {T : List Fl} (up : T.Pairwise (fun x y => cmpP x.1 y.1 < 0)) (p : ByteArray) : findR p T = findT T p := by
  rcases findR_form p T with ⟨y, hy, e, f⟩ | ⟨h, f⟩
  · rw [f]
    have := find_has up hy
    rw [e] at this
    exact this.symm
  · rw [f, find_no h]
/-! ### Drop -/
end Go.Proofs.Ytmocfgghccmdgaa.Pure

