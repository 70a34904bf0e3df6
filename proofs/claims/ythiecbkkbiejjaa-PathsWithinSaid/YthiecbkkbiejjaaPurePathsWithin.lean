/- PathsWithin, as a statement over lists: what is within a directory is, joined with it, what it was; a path's directory and its name are joined to it. No condition but that each text is one that a machine holds. -/
import Derived.Test.YthiecbkkbiejjaaPAllx4
import Derived.Test.YthiecbkkbiejjaaPAllx5
import Derived.Test.YthiecbkkbiejjaaPAllx6
import Derived.Test.YthiecbkkbiejjaaPAllx7
import Derived.Test.YthiecbkkbiejjaaPureVLib
namespace Go.Proofs.Ythiecbkkbiejjaa.Pure
open Go.RowKit Go.Proofs.Ythiecbkkbiejjaa.PAll Go.Proofs.YthiecbkkbiejjaaW.PrintWords Go.Proofs.YthiecbkkbiejjaaW.PrintLast
open Go.Proofs.Ythiecbkkbiejjaa.BytesLib Go.Proofs.Ythiecbkkbiejjaa.SplitLib Go.Proofs.Ythiecbkkbiejjaa.OrderLib Go.Proofs.Ythiecbkkbiejjaa.Elems Go.Proofs.Ythiecbkkbiejjaa.Valid
set_option linter.unusedVariables false

theorem last_loop (s : ByteArray) (hn : s.size ≤ 140737488351232) (d : Nat) : ∀ (i : Int), -1 ≤ i → i < s.size → i + 1 = d →
    ∃ t, Ev (fun k => bytealg_LastIndexByteString.l0 k s 47 i) t ∧ -1 ≤ t ∧ t ≤ i ∧ (0 ≤ t → bt s t = 47) := by
  induction d with
  | zero =>
    intro i h0 h1 hd
    refine ⟨-1, Ev.step (f := fun _ => some (-1)) (fun k => ?_) (Ev.now _), by omega, by omega, by omega⟩
    simp only [bytealg_LastIndexByteString.l0]; rw [if_neg (by omega)]
  | succ d ih =>
    intro i h0 h1 hd
    by_cases h : bt s i = 47
    · refine ⟨i, Ev.step (f := fun _ => some i) (fun k => ?_) (Ev.now _), by omega, by omega, fun _ => h⟩
      simp only [bytealg_LastIndexByteString.l0]; rw [if_pos (by omega), if_pos (by omega), if_pos h1, if_pos h]
    · obtain ⟨t, e1, ht0, ht1, ht2⟩ := ih (i - 1) (by omega) (by omega) (by omega)
      refine ⟨t, Ev.step (f := fun k => bytealg_LastIndexByteString.l0 k s 47 (i - 1)) (fun k => ?_) e1, by omega, by omega, ht2⟩
      simp only [bytealg_LastIndexByteString.l0]; rw [if_pos (by omega), if_pos (by omega), if_pos h1, if_neg h, w64 (by omega) (by omega)]

/-- A text is split at a slash, or it is the name itself. -/
theorem split_f (s : ByteArray) (hn : s.size ≤ 140737488351232) : ∃ d n : ByteArray, Ev (fun k => paths_Split.f k s) (d, n) ∧ ((L d = [] ∧ n = s) ∨ L s = L d ++ 47 :: L n) ∧ d.size ≤ s.size ∧ n.size ≤ s.size := by
  obtain ⟨t, ht, h0, h1, h2⟩ := last_loop s hn s.size ((s.size : Int) - 1) (by omega) (by omega) (by omega)
  by_cases h : t ≥ 0
  · have hlt : t.toNat < (L s).length := by rw [L_length]; omega
    refine ⟨s.extract 0 t.toNat, s.extract (t + 1).toNat s.size, ?_, .inr ?_, by rw [ByteArray.size_extract]; omega, by rw [ByteArray.size_extract]; omega⟩
    · unfold paths_Split.f strings_LastIndexByte.f bytealg_LastIndexByteString.f
      rw [show wrap64 ((s.size : Int) - 1) = (s.size : Int) - 1 from w64 (by omega) (by omega)]
      refine Ev.bind (Ev.bind (f := fun _ t => some t) ht (Ev.now _)) ?_
      rw [if_pos h, if_pos h, if_pos (by omega), w64 (by omega) (by omega), if_pos (by omega), if_pos (by omega)]
      exact Ev.now _
    · have hb := h2 h
      obtain ⟨_, hbe⟩ := bt_eq (s := s) (i := t) h (by omega)
      rw [hbe] at hb
      have hc : (L s)[t.toNat] = 47 := UInt8.toNat_inj.1 (by simpa using Int.ofNat_inj.1 hb)
      rw [L_head, L_tail, show (t + 1).toNat = t.toNat + 1 from by omega]
      conv => lhs; rw [← List.take_append_drop t.toNat (L s), List.drop_eq_getElem_cons hlt, hc]
  · refine ⟨⟨#[]⟩, s, ?_, .inl ⟨rfl, rfl⟩, Nat.zero_le _, Nat.le_refl _⟩
    unfold paths_Split.f strings_LastIndexByte.f bytealg_LastIndexByteString.f
    rw [show wrap64 ((s.size : Int) - 1) = (s.size : Int) - 1 from w64 (by omega) (by omega)]
    refine Ev.bind (Ev.bind (f := fun _ t => some t) ht (Ev.now _)) ?_
    rw [if_neg h]
    exact Ev.now _

/-- What stands on either side of a slash of a path that may be is no directory of its own. -/
theorem valid_sides {s : ByteArray} (h : valid s = true) {a b : List UInt8} (hs : L s = a ++ 47 :: b) : ¬ (a = [] ∨ a = [46]) ∧ ¬ (b = [] ∨ b = [46]) := by
  obtain ⟨h1, _, h3⟩ := valid_tells h
  have hE : elemsL (L s) = splitL 47 a ++ splitL 47 b := by unfold elemsL; rw [if_neg h1, hs, splitL_join]
  constructor
  · rintro (e | e)
    · exact (h3 [] (by rw [hE, e]; exact List.mem_append.2 (.inl (by decide +kernel)))).1 rfl
    · exact (h3 [46] (by rw [hE, e]; exact List.mem_append.2 (.inl (by decide +kernel)))).2.1 rfl
  · rintro (e | e)
    · exact (h3 [] (by rw [hE, e]; exact List.mem_append.2 (.inr (by decide +kernel)))).1 rfl
    · exact (h3 [46] (by rw [hE, e]; exact List.mem_append.2 (.inr (by decide +kernel)))).2.1 rfl

theorem within_last (k : Nat) (s d : ByteArray) (hs : s.size ≤ 2048) (hd : d.size ≤ 2048) (h1 : graftbedref01_Valid.f k s = some (valid s)) (h2 : graftbedref01_Valid.f k d = some (valid d)) :
    graftbedlaw01_PathsWithin.j1 (k + 1) s d false = some true := by
  simp only [graftbedlaw01_PathsWithin.j1, Bool.false_eq_true, if_false]
  rw [within_f _ _ (by omega), h1, h2]
  simp only [Option.bind_some]
  by_cases e1 : L d = [] ∨ L d = [46]
  · rw [if_pos e1]
    simp only [if_true]
    cases v1 : valid s with
    | false => rfl
    | true =>
      simp only [if_true]
      cases v2 : valid d with
      | false => rfl
      | true =>
        obtain ⟨q1, q2⟩ := valid_not_here v2
        rcases e1 with e | e
        · exact absurd e q1
        · exact absurd e q2
  · rw [if_neg e1]
    by_cases e2 : L s = L d
    · rw [if_pos e2]
      simp only [if_true]
      cases v1 : valid s with
      | false => rfl
      | true =>
        simp only [if_true]
        cases v2 : valid d with
        | false => rfl
        | true =>
          simp only [if_true]
          rw [join_f _ _ (by omega) (by decide), if_neg e1, if_pos (.inl rfl), Option.bind_some, toList_L, toList_L, e2]
          simp
    · rw [if_neg e2]
      by_cases e3 : L d ++ [47] <+: L s
      · rw [if_pos e3]
        simp only [if_true]
        cases v1 : valid s with
        | false => rfl
        | true =>
          simp only [if_true]
          cases v2 : valid d with
          | false => rfl
          | true =>
            simp only [if_true]
            have hT : L (s.extract (d.size + 1) s.size) = (L s).drop (d.size + 1) := L_tail _ _
            obtain ⟨q, hq⟩ := e3
            have hq2 : L s = L d ++ 47 :: q := by rw [← hq]; simp
            have hdr : (L s).drop (d.size + 1) = q := by
              rw [← hq, List.drop_left' (by rw [List.length_append, L_length]; rfl)]
            have hsd := valid_sides v1 hq2
            rw [join_f _ _ (by omega) (by rw [ByteArray.size_extract]; omega), if_neg e1, if_neg (by rw [hT, hdr]; exact hsd.2), Option.bind_some, toList_L, toList_L, L_slash2, hT, hdr, hq2]
            simp
      · rw [if_neg e3]
        simp only [Bool.false_eq_true, if_false]
        rw [toList_L]; rfl

theorem PathsWithin : graftbedlaw01_PathsWithin.Pure := by
  intro s d hs hd
  have va : paths_Valid.f (⟨#[97]⟩ : ByteArray) = some true := by unfold paths_Valid.f; rw [if_pos (by decide), valid_a]
  have big : ∀ k, graftbedlaw01_PathsWithin.j0 (k + 1) s d true = some true := fun k => by simp only [graftbedlaw01_PathsWithin.j0, if_true]; rw [va]; rfl
  by_cases g1 : (s.size : Int) > 2048
  · exact ⟨1, by unfold graftbedlaw01_PathsWithin.f; rw [if_pos g1]; exact big 0⟩
  by_cases g2 : (d.size : Int) > 2048
  · exact ⟨1, by unfold graftbedlaw01_PathsWithin.f; rw [if_neg g1, if_pos g2]; exact big 0⟩
  obtain ⟨K1, h1⟩ := ref_valid s (by omega)
  obtain ⟨K2, h2⟩ := ref_valid d (by omega)
  obtain ⟨p, n, ⟨K3, h3⟩, hp, hps, hns⟩ := split_f s hs
  refine ⟨K1 + K2 + K3 + 2, ?_⟩
  have e1 := h1 (K1 + K2 + K3 + 1) (by omega)
  have e2 := h2 (K1 + K2 + K3 + 1) (by omega)
  have e3 := h3 (K1 + K2 + K3 + 1) (by omega)
  dsimp only at e1 e2 e3
  unfold graftbedlaw01_PathsWithin.f
  rw [if_neg g1, if_neg g2, va]
  simp only [Option.bind_some, Bool.not_true, graftbedlaw01_PathsWithin.j0, Bool.false_eq_true, if_false]
  rw [e3, e1]
  simp only [Option.bind_some]
  have fin := within_last (K1 + K2 + K3) s d (by omega) (by omega) (h1 _ (by omega)) (h2 _ (by omega))
  cases q1 : valid s with
  | false => simp only [Bool.false_eq_true, if_false]; exact fin
  | true =>
    simp only [if_true]
    rw [join_f _ _ (by omega) (by omega), Option.bind_some]
    have hj : (if L p = [] ∨ L p = [46] then n else if L n = [] ∨ L n = [46] then p else slash p n) = s := by
      rcases hp with ⟨hp, rfl⟩ | hp
      · rw [if_pos (.inl hp)]
      · have hsd := valid_sides q1 hp
        rw [if_neg hsd.1, if_neg hsd.2]
        exact L_inj (by rw [L_slash2, hp])
    rw [hj]
    simp only [bne_self_eq_false]
    exact fin

end Go.Proofs.Ythiecbkkbiejjaa.Pure
