/- PathsJoins, as a statement over numbers and lists: two texts are joined, one is split, and one is within another one, in the program as in the reference. No condition but that each text is one that a machine holds. -/
import Derived.Test.YthiecbkkbiejjaaPPathsJoinsx2
namespace Go.Proofs.Ythiecbkkbiejjaa.Pure
open Go.RowKit Go.Proofs.Ythiecbkkbiejjaa.PPathsJoins Go.Proofs.YthiecbkkbiejjaaW.PrintWords Go.Proofs.YthiecbkkbiejjaaW.PrintLast

set_option linter.unusedVariables false

theorem w64 {x : Int} (h0 : -9223372036854775808 ≤ x) (h1 : x ≤ 9223372036854775807) : wrap64 x = x := by
  unfold wrap64
  omega

theorem size_app (a b : ByteArray) : (a ++ b).size = a.size + b.size := ByteArray.size_append

theorem split_loop (s : ByteArray) (hn : s.size ≤ 140737488351232) (d : Nat) : ∀ (k : Nat) (i : Int), -1 ≤ i → i < s.size → i + 1 = d → d < k →
    ∃ t, bytealg_LastIndexByteString.l0 k s 47 i = some t ∧ -1 ≤ t ∧ t ≤ i ∧
      graftbedref01_Split.l0 k s i = some (if t ≥ 0 then (s.extract 0 t.toNat, s.extract (t + 1).toNat s.size) else ((⟨#[]⟩ : ByteArray), s)) := by
  induction d with
  | zero =>
    intro k i h0 h1 hd hk
    obtain ⟨k, rfl⟩ : ∃ m, k = m + 1 := ⟨k - 1, by omega⟩
    refine ⟨-1, ?_, by omega, by omega, ?_⟩
    · simp only [bytealg_LastIndexByteString.l0]; rw [if_neg (by omega)]
    · simp only [graftbedref01_Split.l0]; rw [if_neg (by omega), if_neg (by omega)]
  | succ d ih =>
    intro k i h0 h1 hd hk
    obtain ⟨k, rfl⟩ : ∃ m, k = m + 1 := ⟨k - 1, by omega⟩
    by_cases h : bt s i = 47
    · refine ⟨i, ?_, by omega, by omega, ?_⟩
      · simp only [bytealg_LastIndexByteString.l0]; rw [if_pos (by omega), if_pos (by omega), if_pos h1, if_pos h]
      · simp only [graftbedref01_Split.l0]; rw [w64 (by omega) (by omega), if_pos (by omega), if_pos (by omega), if_pos h1, if_pos h, if_pos (by omega), if_pos (by omega), if_pos (by omega), if_pos (by omega)]
    · obtain ⟨t, e1, ht0, ht1, e2⟩ := ih k (i - 1) (by omega) (by omega) (by omega) (by omega)
      refine ⟨t, ?_, by omega, by omega, ?_⟩
      · simp only [bytealg_LastIndexByteString.l0]; rw [if_pos (by omega), if_pos (by omega), if_pos h1, if_neg h, w64 (by omega) (by omega)]; exact e1
      · simp only [graftbedref01_Split.l0]; rw [if_pos (by omega), if_pos (by omega), if_pos h1, if_neg h, w64 (x := i - 1) (by omega) (by omega)]; exact e2

theorem split_same (s : ByteArray) (hn : s.size ≤ 140737488351232) : ∃ r, paths_Split.f (s.size + 1) s = some r ∧ graftbedref01_Split.f (s.size + 1) s = some r := by
  obtain ⟨t, e1, h0, h1, e2⟩ := split_loop s hn s.size (s.size + 1) ((s.size : Int) - 1) (by omega) (by omega) (by omega) (by omega)
  refine ⟨if t ≥ 0 then (s.extract 0 t.toNat, s.extract (t + 1).toNat s.size) else ((⟨#[]⟩ : ByteArray), s), ?_, by unfold graftbedref01_Split.f; rw [w64 (by omega) (by omega)]; exact e2⟩
  · unfold paths_Split.f strings_LastIndexByte.f bytealg_LastIndexByteString.f
    rw [w64 (x := (s.size : Int) - 1) (by omega) (by omega), e1]
    simp only [Option.bind_some]
    by_cases h : t ≥ 0
    · rw [if_pos h, if_pos h, if_pos h, if_pos (by omega), w64 (by omega) (by omega), if_pos (by omega), if_pos (by omega)]
    · rw [if_neg h, if_neg h]

theorem within_same (a b : ByteArray) (k : Nat) (ha : a.size ≤ 140737488351232) (hb : b.size ≤ 140737488351232) : ∃ r, paths_Within.f a b = some r ∧ graftbedref01_Within.f (k + 1) a b = some r := by
  unfold paths_Within.f graftbedref01_Within.f paths_here.f
  by_cases h1 : b.toList = []
  · rw [if_pos h1, if_pos h1]; exact ⟨(a, true), rfl, rfl⟩
  · rw [if_neg h1, if_neg h1]
    by_cases h2 : b.toList = [46]
    · rw [h2]; exact ⟨(a, true), rfl, rfl⟩
    · rw [show (b.toList == ([46] : List UInt8)) = false from beq_eq_false_iff_ne.mpr h2]
      simp only [Option.bind_some, graftbedref01_Within.j0, Bool.false_eq_true, if_false]
      by_cases h3 : a.toList = b.toList
      · rw [if_pos h3, if_pos h3]; exact ⟨_, rfl, rfl⟩
      · rw [if_neg h3, if_neg h3, if_pos (by omega)]
        have e : (b ++ (⟨#[47]⟩ : ByteArray)).size = b.size + 1 := size_app _ _
        have w : wrap64 ((b.size : Int) + 1) = (b.size : Int) + 1 := w64 (by omega) (by omega)
        unfold strings_CutPrefix.f stringslite_CutPrefix.f stringslite_HasPrefix.f
        rw [e, w]
        by_cases h4 : (a.size : Int) ≥ (b.size : Int) + 1
        · rw [if_pos h4, if_pos (by omega), if_pos (by omega), if_pos (by omega), if_pos (by omega), if_pos (by omega)]
          rw [if_pos (by omega), if_pos (by omega), if_pos (by omega)]
          rw [show (((b.size + 1 : Nat) : Int)).toNat = b.size + 1 from by omega, show ((b.size : Int) + 1).toNat = b.size + 1 from by omega]
          by_cases h5 : (a.extract 0 (b.size + 1)).toList = (b ++ (⟨#[47]⟩ : ByteArray)).toList
          · rw [if_pos h5]; simp [h5]
          · rw [if_neg h5]; simp [h5]
        · rw [if_neg h4, if_neg (by omega)]
          exact ⟨_, rfl, rfl⟩

theorem join_same (a b : ByteArray) (k : Nat) (ha : a.size ≤ 140737488351232) (hb : b.size ≤ 140737488351232) : ∃ r, paths_Join.f a b = some r ∧ graftbedref01_Join.f (k + 1) a b = some r := by
  unfold paths_Join.f graftbedref01_Join.f paths_here.f
  by_cases h1 : a.toList = []
  · rw [if_pos h1, if_pos h1]; exact ⟨b, rfl, rfl⟩
  · rw [if_neg h1, if_neg h1]
    by_cases h2 : a.toList = [46]
    · rw [h2]; exact ⟨b, rfl, rfl⟩
    · rw [show (a.toList == ([46] : List UInt8)) = false from beq_eq_false_iff_ne.mpr h2]
      simp only [Option.bind_some, graftbedref01_Join.j0, Bool.false_eq_true, if_false]
      by_cases h3 : b.toList = []
      · rw [if_pos h3, if_pos h3]; exact ⟨a, rfl, rfl⟩
      · rw [if_neg h3, if_neg h3]
        by_cases h4 : b.toList = [46]
        · rw [h4]; exact ⟨a, rfl, rfl⟩
        · rw [show (b.toList == ([46] : List UInt8)) = false from beq_eq_false_iff_ne.mpr h4]
          have e : (a ++ (⟨#[47]⟩ : ByteArray)).size = a.size + 1 := size_app _ _
          simp only [Option.bind_some, Bool.false_eq_true, if_false]
          rw [if_neg h4, if_pos (by omega), if_pos (by omega)]
          exact ⟨_, rfl, rfl⟩

theorem join_ab : (paths_Join.f (⟨#[97]⟩ : ByteArray) (⟨#[98]⟩ : ByteArray)).bind (fun t => some (t.toList == ([97, 47, 98] : List UInt8))) = some true := by decide +kernel

theorem PathsJoins : graftbedlaw01_PathsJoins.Pure := by
  intro a b ha hb
  by_cases h1 : (a.size : Int) > 2048
  · exact ⟨1, by unfold graftbedlaw01_PathsJoins.f; rw [if_pos h1]; rfl⟩
  · by_cases h2 : (b.size : Int) > 2048
    · refine ⟨1, ?_⟩
      unfold graftbedlaw01_PathsJoins.f; rw [if_neg h1, show decide ((b.size : Int) > 2048) = true from decide_eq_true h2]; rfl
    · refine ⟨a.size + 2, ?_⟩
      unfold graftbedlaw01_PathsJoins.f; rw [if_neg h1, show decide ((b.size : Int) > 2048) = false from decide_eq_false h2]
      obtain ⟨r1, e1, f1⟩ := split_same a ha
      obtain ⟨r2, e2, f2⟩ := within_same a b a.size ha hb
      obtain ⟨r3, e3, f3⟩ := join_same a b a.size ha hb
      simp only [graftbedlaw01_PathsJoins.j0, Bool.false_eq_true, if_false]
      rw [e1, f1, e2, f2, e3, f3]
      simp only [Option.bind_some, beq_self_eq_true, if_true]
      exact join_ab

end Go.Proofs.Ythiecbkkbiejjaa.Pure
