/- TreeFinds: what is put is found. -/
import Derived.Test.YtmocfgghccmdgaaPureTrFind
import Derived.Test.YtmocfgghccmdgaaRowOksTreeFinds
import Derived.Test.YtmocfgghccmdgaaMpb
namespace Go.Proofs.Ytmocfgghccmdgaa.Pure
open Go Go.RowKit Go.Proofs.Ytmocfgghccmdgaa.PTr Go.Proofs.YtmocfgghccmdgaaW.PrintWords Go.Proofs.YtmocfgghccmdgaaW.PrintLast
open Go.Proofs.Ytmocfgghccmdgaa.BytesLib Go.Proofs.Ytmocfgghccmdgaa.SplitLib Go.Proofs.Ytmocfgghccmdgaa.OrderLib Go.Proofs.Ytmocfgghccmdgaa.Elems Go.Proofs.Ytmocfgghccmdgaa.Valid Go.Proofs.Ytmocfgghccmdgaa.PathBase Go.Proofs.Ytmocfgghccmdgaa.TrLib Go.Proofs.Ytmocfgghccmdgaa.TrPut Go.Proofs.Ytmocfgghccmdgaa.TrFits Go.Proofs.Ytmocfgghccmdgaa.TrOps Go.Proofs.Ytmocfgghccmdgaa.TrMerge Go.Proofs.Ytmocfgghccmdgaa.TrPlain
open Go.Proofs.Ytmocfgghccmdgaa.RowOksTreeFinds
set_option linter.unusedVariables false
set_option linter.unusedSimpArgs false

theorem finds_loop (T : List Fl) (hT : Tree T) (path : ByteArray) : ∀ (d i : Nat) (th : Bool), i ≤ T.length → T.length - i = d → (th = true ↔ ∃ y ∈ T.take i, y.1 = path) →
    Ev (fun k => graftbedlaw02_TreeFinds.l0 k path (T.map D) th (i : Int)) true := by
  have hfew := hT.few
  intro d
  induction d with
  | zero =>
    intro i th h1 h2 h3
    refine Ev.step (f := fun _ => some true) (fun k => ?_) (Ev.now _)
    simp only [graftbedlaw02_TreeFinds.l0]
    rw [if_neg (by rw [len_D]; omega), find_f, Option.bind_some]
    rw [List.take_of_length_le (by omega)] at h3
    cases th with
    | true =>
      obtain ⟨y, hy, e⟩ := h3.1 rfl
      have := find_has hT.up hy
      rw [e] at this
      rw [this]; rfl
    | false =>
      have hn : ∀ y ∈ T, y.1 ≠ path := fun y hy e => by have := h3.2 ⟨y, hy, e⟩; cases this
      rw [find_no hn]
      show (if (false == false) = true then (if false = true then _ else some ((⟨#[]⟩ : ByteArray).toList == [])) else _) = _
      simp only [BEq.rfl, if_true, Bool.false_eq_true, if_false]
      rw [toList_L]; rfl
  | succ d ih =>
    intro i th h1 h2 h3
    have hi : i < T.length := by omega
    have hf := find_has hT.up (List.getElem_mem hi)
    have htk : ∀ y, y ∈ T.take (i + 1) ↔ y ∈ T.take i ∨ y = T[i] := by
      intro y
      rw [List.take_succ_eq_append_getElem hi, List.mem_append, List.mem_singleton]
    refine Ev.step (f := fun k => if th = true then (graftbedlaw02_TreeFinds.l0 k path (T.map D) true ((i + 1 : Nat) : Int)) else (graftbedlaw02_TreeFinds.l0 k path (T.map D) (T[i].1.toList == path.toList) ((i + 1 : Nat) : Int))) (fun k => ?_) ?_
    · simp only [graftbedlaw02_TreeFinds.l0]
      rw [if_pos (by rw [len_D]; omega), if_pos (by omega), rd_D hi, w64 (by omega) (by omega)]
      show ((tree_Find.f (T.map D) T[i].1).bind fun bt213 => (if bt213.2 = true then (if bt213.1.toList = T[i].2.toList then _ else (some false)) else (some false))) = _
      rw [find_f, hf, Option.bind_some, if_pos rfl, if_pos rfl]
      rfl
    · cases th with
      | true =>
        simp only [if_true]
        refine ih (i + 1) true (by omega) (by omega) ⟨fun _ => ?_, fun _ => rfl⟩
        obtain ⟨y, hy, e⟩ := h3.1 rfl
        exact ⟨y, (htk y).2 (.inl hy), e⟩
      | false =>
        simp only [Bool.false_eq_true, if_false]
        refine ih (i + 1) _ (by omega) (by omega) ⟨fun h => ⟨T[i], (htk _).2 (.inr rfl), ?_⟩, ?_⟩
        · rw [beq_iff_eq, toList_L, toList_L] at h
          exact L_inj h
        · rintro ⟨y, hy, e⟩
          rcases (htk y).1 hy with hy | rfl
          · have := h3.2 ⟨y, hy, e⟩; cases this
          · rw [e]; simp

theorem TreeFinds (l0 : List S24) (a1 : ByteArray) (w0 : l0.length * 32 ≤ 140737488351232 ∧ ∀ y ∈ l0, ok24 y) (w1 : a1.size ≤ 140737488351232) : ∃ k, graftbedlaw02_TreeFinds.f k l0 a1 = some true := by
  suffices h : Ev (fun k => graftbedlaw02_TreeFinds.f k l0 a1) true by
    obtain ⟨K, hK⟩ := h
    exact ⟨K, hK K (Nat.le_refl _)⟩
  have big : Ev (fun k => graftbedlaw02_TreeFinds.j0 k l0 a1 true) true :=
    Ev.step (f := fun _ => some true) (fun k => by simp only [graftbedlaw02_TreeFinds.j0, if_true]; rw [shown_f]; rfl) (Ev.now _)
  obtain ⟨b1, hb1, hc1⟩ := heavy_ev (l0.map E)
  rw [DE] at hb1
  unfold graftbedlaw02_TreeFinds.f
  refine Ev.bind hb1 ?_
  cases b1 with
  | true => simp only [if_true]; exact big
  | false =>
    simp only [Bool.false_eq_true, if_false]
    by_cases g : (a1.size : Int) > 1024
    · simp only [if_pos g]; exact big
    · simp only [if_neg g]
      rw [shown_f]
      simp only [Option.bind_some, Bool.not_true]
      obtain ⟨p1, p2⟩ := hc1 rfl
      have hgr := grown_ev (l0.map E) (by omega) (fun y hy => by have := (p2 y hy).1; omega)
      rw [DE] at hgr
      refine Ev.step (f := fun k => (graftbedlaw02_grown.f k l0).bind fun t209 => (graftbedlaw02_TreeFinds.l0 k a1 t209 false 0)) (fun k => by simp only [graftbedlaw02_TreeFinds.j0, Bool.false_eq_true, if_false]) ?_
      refine Ev.bind hgr ?_
      refine finds_loop _ (grow_tree _ _ tree_nil) a1 _ 0 false (Nat.zero_le _) rfl ⟨fun h => (nomatch h), ?_⟩
      rintro ⟨y, hy, _⟩
      rw [List.take_zero] at hy
      cases hy

end Go.Proofs.Ytmocfgghccmdgaa.Pure
