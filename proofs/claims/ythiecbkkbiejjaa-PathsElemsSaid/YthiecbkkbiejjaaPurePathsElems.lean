/- PathsElems, as a statement over lists: a text's elements, with slashes between, are the text, and none of them has one; there are as many as in the reference. No condition but that the text is one that a machine holds. -/
import Derived.Test.YthiecbkkbiejjaaPAllx1
import Derived.Test.YthiecbkkbiejjaaPureALib
namespace Go.Proofs.Ythiecbkkbiejjaa.Pure
open Go.RowKit Go.Proofs.Ythiecbkkbiejjaa.PAll Go.Proofs.YthiecbkkbiejjaaW.PrintWords Go.Proofs.YthiecbkkbiejjaaW.PrintLast
open Go.Proofs.Ythiecbkkbiejjaa.BytesLib Go.Proofs.Ythiecbkkbiejjaa.SplitLib Go.Proofs.Ythiecbkkbiejjaa.OrderLib Go.Proofs.Ythiecbkkbiejjaa.Elems
set_option linter.unusedVariables false

theorem elems_law_inner (s : ByteArray) (l : List ByteArray) (t : ByteArray) (i : Nat) (hi : i < l.length) (hl : l.length ≤ 1099511627777) (hsz : l[i].size ≤ 1099511627777) (hfree : (47 : UInt8) ∉ L l[i]) (r : Bool)
    (hnext : Ev (fun k => graftbedlaw01_PathsElems.l0 k s l t ((i + 1 : Nat) : Int)) r) (d : Nat) :
    ∀ j : Nat, j ≤ l[i].size → l[i].size - j = d → Ev (fun k => graftbedlaw01_PathsElems.l1 k s l t (i : Int) (j : Int)) r := by
  induction d with
  | zero =>
    intro j h1 h2
    refine Ev.step (f := fun k => graftbedlaw01_PathsElems.l0 k s l t ((i + 1 : Nat) : Int)) (fun k => ?_) hnext
    simp only [graftbedlaw01_PathsElems.l1]
    rw [if_pos (by omega), if_pos (by omega), rdOf_get _ hi, if_neg (by omega), w64 (by omega) (by omega)]
    rfl
  | succ d ih =>
    intro j h1 h2
    have hlt : j < (L l[i]).length := by rw [L_length]; omega
    have hb := bt_nat hlt
    have hc : ¬ bt l[i] (j : Int) = 47 := by
      rw [hb]
      intro e
      exact hfree (by rw [← (UInt8.toNat_inj.1 (by simpa using Int.ofNat_inj.1 e) : (L l[i])[j] = 47)]; exact List.getElem_mem hlt)
    refine Ev.step (f := fun k => graftbedlaw01_PathsElems.l1 k s l t (i : Int) ((j + 1 : Nat) : Int)) (fun k => ?_) (ih (j + 1) (by omega) (by omega))
    simp only [graftbedlaw01_PathsElems.l1]
    rw [if_pos (by omega), if_pos (by omega), rdOf_get _ hi, if_pos (by omega), if_pos (by omega), if_neg hc, w64 (by omega) (by omega)]
    rfl

theorem elems_law_outer (s : ByteArray) (hs : s.size ≤ 1099511627776) (d : Nat) : ∀ (i : Nat) (t : ByteArray), i ≤ (elems s).length → (elems s).length - i = d →
    (if i < (elems s).length then L s = L t ++ ((if i = 0 then [] else [47]) ++ joinL 47 ((elemsL (L s)).drop i)) else L t = L s) →
    Ev (fun k => graftbedlaw01_PathsElems.l0 k s (elems s) t (i : Int)) true := by
  have hlen : (elems s).length = (elemsL (L s)).length := by rw [elems_list, List.length_map]
  have hll := elems_length s
  induction d with
  | zero =>
    intro i t h1 h2 h3
    obtain rfl : i = (elems s).length := by omega
    rw [if_neg (Nat.lt_irrefl _)] at h3
    refine Ev.step (f := fun k => (graftbedref01_Elems.f k s).bind fun t113 => (if ((elems s).length : Int) = (t113.length : Int) then ((paths_Elems.f (⟨#[97, 47, 98]⟩ : ByteArray)).bind fun t116 => (some ((t116.length : Int) == 2))) else (some false))) (fun k => ?_) ?_
    · simp only [graftbedlaw01_PathsElems.l0]
      rw [if_neg (by omega), if_pos (by rw [toList_L, toList_L, h3])]
    · refine Ev.bind (g := fun k => graftbedref01_Elems.f k s) (f := fun _ t113 => (if ((elems s).length : Int) = (t113.length : Int) then ((paths_Elems.f (⟨#[97, 47, 98]⟩ : ByteArray)).bind fun t116 => (some ((t116.length : Int) == 2))) else (some false))) (ref_elems s hs) ?_
      simp only [if_true]
      rw [elems_f _ (by decide), Option.bind_some, elems_list, List.length_map]
      exact Ev.now _
  | succ d ih =>
    intro i t h1 h2 h3
    have hlt : i < (elems s).length := by omega
    have hlt2 : i < (elemsL (L s)).length := by omega
    have he : L (elems s)[i] = (elemsL (L s))[i] := by
      have : (elems s)[i] = ofL (elemsL (L s))[i] := by simp only [elems_list, List.getElem_map]
      rw [this, L_ofL]
    rw [if_pos hlt] at h3
    have hdrop : (elemsL (L s)).drop i = L (elems s)[i] :: (elemsL (L s)).drop (i + 1) := by rw [List.drop_eq_getElem_cons hlt2, he]
    have hfree : (47 : UInt8) ∉ L (elems s)[i] := by rw [he]; exact elemsL_free _ _ (List.getElem_mem hlt2)
    have hesz : (elems s)[i].size ≤ s.size := Valid.elems_size s _ (List.getElem_mem hlt)
    have htsz : t.size + (if i = 0 then 0 else 1) ≤ s.size := by
      have := congrArg List.length h3
      rw [List.length_append, List.length_append, L_length, L_length] at this
      by_cases e : i = 0
      · rw [if_pos e] at this ⊢; omega
      · rw [if_neg e] at this ⊢; simp at this; omega
    -- behind the element
    have next : ∀ t' : ByteArray, L t' = L t ++ ((if i = 0 then [] else [47]) ++ L (elems s)[i]) → Ev (fun k => graftbedlaw01_PathsElems.l0 k s (elems s) t' ((i + 1 : Nat) : Int)) true := by
      intro t' ht'
      refine ih (i + 1) t' (by omega) (by omega) ?_
      rw [hdrop] at h3
      by_cases hm : i + 1 < (elems s).length
      · rw [if_pos hm, if_neg (by omega)]
        rw [joinL_cons _ _ (by rw [Ne, List.drop_eq_nil_iff]; omega)] at h3
        exact h3.trans (by rw [ht']; simp [List.append_assoc])
      · rw [if_neg hm]
        rw [show (elemsL (L s)).drop (i + 1) = [] from List.drop_of_length_le (by omega)] at h3
        exact (h3.trans (by rw [ht']; rfl)).symm
    have inner : ∀ t' : ByteArray, L t' = L t ++ ((if i = 0 then [] else [47]) ++ L (elems s)[i]) → Ev (fun k => graftbedlaw01_PathsElems.l1 k s (elems s) t' (i : Int) 0) true := fun t' ht' =>
      elems_law_inner s (elems s) t' i hlt (by omega) (by omega) hfree true (next t' ht') _ 0 (Nat.zero_le _) rfl
    have join : ∀ u : ByteArray, u.size ≤ s.size → L u = L t ++ (if i = 0 then [] else [47]) → Ev (fun k => graftbedlaw01_PathsElems.j1 k s (elems s) u (i : Int)) true := by
      intro u hu hu2
      refine Ev.step (f := fun k => graftbedlaw01_PathsElems.l1 k s (elems s) (u ++ (elems s)[i]) (i : Int) 0) (fun k => ?_) (inner (u ++ (elems s)[i]) (by rw [L_append, hu2, List.append_assoc]))
      simp only [graftbedlaw01_PathsElems.j1]
      rw [if_pos (by omega), if_pos (by omega), rdOf_get _ hlt, if_pos (by omega)]
    by_cases h0 : i = 0
    · refine Ev.step (f := fun k => graftbedlaw01_PathsElems.j1 k s (elems s) t (i : Int)) (fun k => ?_) (join t (by rw [if_pos h0] at htsz; omega) (by rw [if_pos h0, List.append_nil]))
      simp only [graftbedlaw01_PathsElems.l0]
      rw [if_pos (by omega), if_neg (by omega)]
    · rw [if_neg h0] at htsz
      refine Ev.step (f := fun k => graftbedlaw01_PathsElems.j1 k s (elems s) (t ++ (⟨#[47]⟩ : ByteArray)) (i : Int)) (fun k => ?_) (join _ (by rw [size_append]; exact htsz) (by rw [if_neg h0, L_append]; rfl))
      simp only [graftbedlaw01_PathsElems.l0]
      rw [if_pos (by omega), if_pos (by omega), if_pos (by omega)]

theorem PathsElems : graftbedlaw01_PathsElems.Pure := by
  intro s hs
  apply Ev.rounds
  by_cases h : (s.size : Int) > 2048
  · refine Ev.congr (f := fun _ => some true) (fun k => ?_) (Ev.now _)
    unfold graftbedlaw01_PathsElems.f; rw [if_pos h]
  · refine Ev.congr (f := fun k => graftbedlaw01_PathsElems.l0 k s (elems s) (⟨#[]⟩ : ByteArray) 0) (fun k => ?_) ?_
    · unfold graftbedlaw01_PathsElems.f; rw [if_neg h, elems_f s (by omega), Option.bind_some]
    · refine elems_law_outer s (by omega) (elems s).length 0 _ (Nat.zero_le _) (by omega) ?_
      have e : L (⟨#[]⟩ : ByteArray) = [] := rfl
      split
      · rw [if_pos rfl, e, List.drop_zero, elemsL_join]; rfl
      · rename_i hz
        have hn : elemsL (L s) = [] := by
          have : (elems s).length = (elemsL (L s)).length := by rw [elems_list, List.length_map]
          exact List.length_eq_zero_iff.1 (by omega)
        rw [e, elemsL_nil.1 hn]

end Go.Proofs.Ythiecbkkbiejjaa.Pure
