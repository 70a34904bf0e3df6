/- PathsNear, as a statement over lists: what stands between two texts that are in a directory is in it, too; the directory stands ahead of both. No condition but that each text is one that a machine holds. -/
import Derived.Test.YthiecbkkbiejjaaPAllx2
import Derived.Test.YthiecbkkbiejjaaPAllx3
import Derived.Test.YthiecbkkbiejjaaPAllx4
import Derived.Test.YthiecbkkbiejjaaPureALib
namespace Go.Proofs.Ythiecbkkbiejjaa.Pure
open Go.RowKit Go.Proofs.Ythiecbkkbiejjaa.PAll Go.Proofs.YthiecbkkbiejjaaW.PrintWords Go.Proofs.YthiecbkkbiejjaaW.PrintLast
open Go.Proofs.Ythiecbkkbiejjaa.BytesLib Go.Proofs.Ythiecbkkbiejjaa.SplitLib Go.Proofs.Ythiecbkkbiejjaa.OrderLib Go.Proofs.Ythiecbkkbiejjaa.Elems
set_option linter.unusedVariables false

theorem L_slash (a b : ByteArray) : L ((a ++ (⟨#[47]⟩ : ByteArray)) ++ b) = L a ++ 47 :: L b := by
  rw [L_append, L_append, List.append_assoc]; rfl

theorem near_last (k : Nat) (d a b c : ByteArray) (hd : L d ≠ []) (hds : d.size ≤ 1099511627776)
    (h1 : paths_Compare.f k ((d ++ (⟨#[47]⟩ : ByteArray)) ++ a) c = some (cmpP ((d ++ (⟨#[47]⟩ : ByteArray)) ++ a) c))
    (h2 : paths_Compare.f k c ((d ++ (⟨#[47]⟩ : ByteArray)) ++ b) = some (cmpP c ((d ++ (⟨#[47]⟩ : ByteArray)) ++ b))) :
    graftbedlaw01_PathsNear.j1 (k + 1) d c ((d ++ (⟨#[47]⟩ : ByteArray)) ++ a) ((d ++ (⟨#[47]⟩ : ByteArray)) ++ b) false = some true := by
  simp only [graftbedlaw01_PathsNear.j1, Bool.false_eq_true, if_false]
  rw [h1, h2]
  simp only [Option.bind_some]
  by_cases c1 : cmpP ((d ++ (⟨#[47]⟩ : ByteArray)) ++ a) c ≤ 0
  · rw [if_pos c1]
    by_cases c2 : cmpP c ((d ++ (⟨#[47]⟩ : ByteArray)) ++ b) ≤ 0
    · rw [if_pos c2]
      unfold cmpP at c1 c2
      rw [L_slash, elemsL_slash _ hd] at c1 c2
      obtain ⟨R, hR⟩ := cmpLL_between (elemsL (L d)) c1 c2
      have hdn : elemsL (L d) ≠ [] := fun e => hd (elemsL_nil.1 e)
      have hc : L c = joinL 47 (elemsL (L d) ++ R) := by rw [← hR, elemsL_join]
      unfold paths_Within.f paths_here.f
      rw [toList_L, toList_L]
      rw [if_neg hd]
      simp only [Option.bind_some]
      by_cases g : (L d == [46]) = true
      · rw [if_pos g]; rfl
      · rw [if_neg g]
        by_cases e : L c = L d
        · rw [if_pos e]; rfl
        · rw [if_neg e, if_pos (by omega)]
          have hRn : R ≠ [] := by
            intro hn
            rw [hn, List.append_nil, elemsL_join] at hc
            exact e hc
          rw [joinL_append _ _ _ hdn hRn, elemsL_join] at hc
          have hsz : c.size = d.size + 1 + (joinL 47 R).length := by
            have := congrArg List.length hc
            rw [L_length] at this
            rw [this, List.length_append, L_length]; simp; omega
          have hs1 : (d ++ (⟨#[47]⟩ : ByteArray)).size = d.size + 1 := size_append _ _
          unfold strings_CutPrefix.f stringslite_CutPrefix.f stringslite_HasPrefix.f
          rw [hs1, if_pos (by omega), if_pos (by omega), if_pos (by omega)]
          rw [toList_L, toList_L, L_head, L_append]
          have : ((L c).take (((d.size + 1 : Nat) : Int)).toNat == L d ++ L (⟨#[47]⟩ : ByteArray)) = true := by
            rw [beq_iff_eq, Int.toNat_natCast, hc]
            rw [show L d ++ 47 :: joinL 47 R = (L d ++ [47]) ++ joinL 47 R from by simp, List.take_left' (by simp [L_length])]; rfl
          rw [this]
          simp only [Option.bind_some, if_true]
          rw [if_pos (by omega), if_pos (by omega)]
          rfl
    · rw [if_neg c2]
  · rw [if_neg c1]

theorem PathsNear : graftbedlaw01_PathsNear.Pure := by
  intro d a b c hd ha hb hc
  obtain ⟨K0, h0⟩ := paths_cmp ⟨#[97]⟩ ⟨#[97, 47, 98]⟩ (by decide) (by decide)
  have big : graftbedlaw01_PathsNear.j0 (K0 + 1) d a b c true = some true := by
    simp only [graftbedlaw01_PathsNear.j0, if_true]
    have h0' := h0 K0 (Nat.le_refl _)
    dsimp only at h0'
    rw [h0', cmpP_ab]; rfl
  by_cases g1 : (d.size : Int) > 1024
  · exact ⟨K0 + 1, by unfold graftbedlaw01_PathsNear.f; rw [if_pos g1]; exact big⟩
  by_cases g2 : (a.size : Int) > 1024
  · exact ⟨K0 + 1, by unfold graftbedlaw01_PathsNear.f; rw [if_neg g1, if_pos g2]; exact big⟩
  by_cases g3 : (b.size : Int) > 1024
  · exact ⟨K0 + 1, by unfold graftbedlaw01_PathsNear.f; rw [if_neg g1, if_neg g2, if_pos g3]; exact big⟩
  by_cases g4 : (c.size : Int) > 1024
  · exact ⟨K0 + 1, by unfold graftbedlaw01_PathsNear.f; rw [if_neg g1, if_neg g2, if_neg g3, if_pos g4]; exact big⟩
  by_cases g5 : d.toList = []
  · exact ⟨K0 + 1, by unfold graftbedlaw01_PathsNear.f; rw [if_neg g1, if_neg g2, if_neg g3, if_neg g4, g5]; exact big⟩
  have s1 : (d ++ (⟨#[47]⟩ : ByteArray)).size = d.size + 1 := size_append _ _
  have s2 : ((d ++ (⟨#[47]⟩ : ByteArray)) ++ a).size = d.size + 1 + a.size := by rw [size_append, s1]
  have s3 : ((d ++ (⟨#[47]⟩ : ByteArray)) ++ b).size = d.size + 1 + b.size := by rw [size_append, s1]
  obtain ⟨K1, h1⟩ := paths_cmp d ((d ++ (⟨#[47]⟩ : ByteArray)) ++ a) (by omega) (by omega)
  obtain ⟨K2, h2⟩ := paths_cmp ((d ++ (⟨#[47]⟩ : ByteArray)) ++ a) c (by omega) (by omega)
  obtain ⟨K3, h3⟩ := ref_cmp ((d ++ (⟨#[47]⟩ : ByteArray)) ++ a) c (by omega) (by omega)
  obtain ⟨K4, h4⟩ := paths_cmp c ((d ++ (⟨#[47]⟩ : ByteArray)) ++ b) (by omega) (by omega)
  have hdn : L d ≠ [] := by rw [← toList_L]; exact g5
  refine ⟨K1 + K2 + K3 + K4 + 2, ?_⟩
  have e1 := h1 (K1 + K2 + K3 + K4 + 1) (by omega)
  have e2 := h2 (K1 + K2 + K3 + K4 + 1) (by omega)
  have e3 := h3 (K1 + K2 + K3 + K4 + 1) (by omega)
  dsimp only at e1 e2 e3
  unfold graftbedlaw01_PathsNear.f
  rw [if_neg g1, if_neg g2, if_neg g3, if_neg g4, show (d.toList == ([] : List UInt8)) = false from beq_eq_false_iff_ne.2 g5]
  simp only [graftbedlaw01_PathsNear.j0, Bool.false_eq_true, if_false]
  rw [if_pos (by omega), if_pos (by omega), if_pos (by omega), e1, e2, e3]
  simp only [Option.bind_some, bne_self_eq_false]
  have hw : cmpP d ((d ++ (⟨#[47]⟩ : ByteArray)) ++ a) = -1 := by
    unfold cmpP
    rw [L_slash, elemsL_slash _ hdn]
    exact cmpLL_within _ _ (splitL_ne _ _)
  rw [if_pos hw]
  exact near_last _ d a b c hdn (by omega) (h2 _ (by omega)) (h4 _ (by omega))

end Go.Proofs.Ythiecbkkbiejjaa.Pure
