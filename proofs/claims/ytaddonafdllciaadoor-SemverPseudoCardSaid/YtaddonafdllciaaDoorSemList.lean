/- Texts cut at a sign, and what a version's parts are then. No condition on the program. -/
import Derived.Test.YtaddonafdllciaaDoorSemCmp
namespace Go.Proofs.YtaddonafdllciaaDoor.SemList
open Go.RowKit Go.Proofs.YtaddonafdllciaaDoorW.PrintWords Go.Proofs.YtaddonafdllciaaDoor.BytesLib Go.Proofs.YtaddonafdllciaaDoor.SemParts Go.Proofs.YtaddonafdllciaaDoor.SemNum Go.Proofs.YtaddonafdllciaaDoor.SemParse Go.Proofs.YtaddonafdllciaaDoor.SemOrder Go.Proofs.YtaddonafdllciaaDoor.SemSplit Go.Proofs.YtaddonafdllciaaDoor.SemCmp
set_option linter.unusedVariables false
set_option linter.unusedSimpArgs false

theorem takeWhile_split {c : UInt8} : ∀ {p : List UInt8} (q : List UInt8), c ∉ p → (p ++ c :: q).takeWhile (· != c) = p
  | [], q, _ => by simp
  | x :: p, q, h => by
    have h1 : x ≠ c := fun e => h (by rw [e]; exact List.mem_cons_self)
    have h2 : c ∉ p := fun e => h (List.mem_cons_of_mem _ e)
    rw [List.cons_append, List.takeWhile_cons, if_pos (by rw [bne_iff_ne]; exact h1), takeWhile_split q h2]
theorem takeWhile_none {c : UInt8} : ∀ {p : List UInt8}, c ∉ p → p.takeWhile (· != c) = p
  | [], _ => rfl
  | x :: p, h => by
    have h1 : x ≠ c := fun e => h (by rw [e]; exact List.mem_cons_self)
    have h2 : c ∉ p := fun e => h (List.mem_cons_of_mem _ e)
    rw [List.takeWhile_cons, if_pos (by rw [bne_iff_ne]; exact h1), takeWhile_none h2]
theorem not_mem_takeWhile (c : UInt8) : ∀ (p : List UInt8), c ∉ p.takeWhile (· != c)
  | [], h => by cases h
  | x :: p, h => by
    rw [List.takeWhile_cons] at h
    by_cases h1 : x = c
    · rw [if_neg (by rw [h1]; simp)] at h; cases h
    · rw [if_pos (by rw [bne_iff_ne]; exact h1)] at h
      rcases List.mem_cons.1 h with h2 | h2
      · exact h1 h2.symm
      · exact not_mem_takeWhile c p h2

theorem L_cutA (c : UInt8) (s : ByteArray) : L (cutA c s) = (L s).takeWhile (· != c) := by
  unfold cutA
  by_cases h0 : 0 ≤ cutI c s
  · rw [if_pos h0, L_head]
    obtain ⟨h1, h2⟩ := index_split c (L s) h0
    conv => rhs; rw [h1]
    exact (takeWhile_split _ h2).symm
  · rw [if_neg h0]
    exact (takeWhile_none (index_none c (L s) h0)).symm
theorem cutF_mem (c : UInt8) (s : ByteArray) : cutF c s = true ↔ c ∈ L s := by
  unfold cutF
  rw [decide_eq_true_eq]
  constructor
  · intro h
    obtain ⟨h1, h2⟩ := index_split c (L s) h
    rw [h1]; simp
  · intro h
    by_cases h0 : 0 ≤ cutI c s
    · exact h0
    · exact absurd h (index_none c (L s) h0)
theorem cutA_idem (c : UInt8) (s : ByteArray) : cutA c (cutA c s) = cutA c s := L_inj (by
  rw [L_cutA, L_cutA]; exact takeWhile_none (not_mem_takeWhile c _))
theorem cutF_cutA (c : UInt8) (s : ByteArray) : cutF c (cutA c s) = false := by
  cases h : cutF c (cutA c s) with
  | false => rfl
  | true =>
    have := (cutF_mem c _).1 h
    rw [L_cutA] at this
    exact absurd this (not_mem_takeWhile c _)
theorem cutB_none {c : UInt8} {s : ByteArray} (h : cutF c s = false) : cutB c s = ⟨#[]⟩ := by
  unfold cutB
  rw [if_neg (of_decide_eq_false h)]

/-- A text that is a version, and its parts. -/
theorem parse_ok {s : ByteArray} (h : (parseF s).2.2.2.2.2 = 0) : (L s).head? = some 118 ∧ s.size ≤ 60 ∧ ok4 (s.extract 1 s.size) = true := by
  by_cases h1 : (L s).head? = some 118 ∧ s.size ≤ 60 ∧ ok4 (s.extract 1 s.size) = true
  · exact h1
  · unfold parseF at h
    rw [if_neg h1] at h
    exact absurd h (by decide)
theorem head_cut {s : ByteArray} (h : (L s).head? = some 118) : (L (cutA 43 s)).head? = some 118 ∧ (cutA 43 s).extract 1 (cutA 43 s).size = cutA 43 (s.extract 1 s.size) := by
  cases hl : L s with
  | nil => rw [hl] at h; cases h
  | cons x l =>
    rw [hl] at h
    obtain rfl := Option.some.inj h
    have hc : L (cutA 43 s) = 118 :: l.takeWhile (· != 43) := by
      rw [L_cutA, hl, List.takeWhile_cons, if_pos (by decide)]
    refine ⟨by rw [hc]; rfl, L_inj ?_⟩
    rw [L_tail, hc, L_cutA, L_tail, hl]
    rfl
theorem parse_cut {s : ByteArray} (h : (parseF s).2.2.2.2.2 = 0) : parseF (cutA 43 s) = ((parseF s).1, (parseF s).2.1, (parseF s).2.2.1, (parseF s).2.2.2.1, ⟨#[]⟩, 0) := by
  obtain ⟨h1, h2, h3⟩ := parse_ok h
  obtain ⟨g1, g2⟩ := head_cut h1
  have hs : (cutA 43 s).size ≤ 60 := by have := cutA_le 43 s; omega
  have e1 : restOf (cutA 43 (s.extract 1 s.size)) = restOf (s.extract 1 s.size) := by unfold restOf; rw [cutA_idem]
  have e2 : preOf (cutA 43 (s.extract 1 s.size)) = preOf (s.extract 1 s.size) := by unfold preOf; rw [cutA_idem]
  have e3 : hasPre (cutA 43 (s.extract 1 s.size)) = hasPre (s.extract 1 s.size) := by unfold hasPre; rw [cutA_idem]
  have e4 : hasMeta (cutA 43 (s.extract 1 s.size)) = false := cutF_cutA 43 _
  have e5 : metaOf (cutA 43 (s.extract 1 s.size)) = ⟨#[]⟩ := cutB_none (cutF_cutA 43 _)
  have h4 : ok3 (s.extract 1 s.size) = true := by unfold ok4 at h3; rw [Bool.and_eq_true] at h3; exact h3.1
  have h5 : ok4 (cutA 43 (s.extract 1 s.size)) = true := by
    unfold ok4 ok3 ok2 ok1 at *
    rw [e1, e2, e3, e4, h4, show metaB false = (fun _ => true) from rfl]
    simp
  have h6 : ∀ i, numAt (cutA 43 (s.extract 1 s.size)) i = numAt (s.extract 1 s.size) i := fun i => by unfold numAt; rw [e1]
  unfold parseF
  rw [g2, if_pos ⟨g1, hs, h5⟩, if_pos ⟨h1, h2, h3⟩, e2, e5, h6, h6, h6]

theorem orI_zero {a b : Int} : orI a b = 0 ↔ a = 0 ∧ b = 0 := by
  unfold orI
  split <;> omega
theorem cmpI_zero {a b : Int} : cmpI a b = 0 ↔ a = b := by
  unfold cmpI
  repeat' split <;> omega
theorem preC_zero {a b : ByteArray} : preC a b = 0 ↔ a = b := by
  constructor
  · intro h
    unfold preC at h
    exact split_inj (LC_zero orderF_zero _ _ (orI_zero.1 h).2)
  · intro h
    rw [h, preC_cmp.self]
theorem VC_zero {a b : ByteArray} (ha : (parseF a).2.2.2.2.2 = 0) (hb : (parseF b).2.2.2.2.2 = 0) :
    VC a b = 0 ↔ (parseF a).1 = (parseF b).1 ∧ (parseF a).2.1 = (parseF b).2.1 ∧ (parseF a).2.2.1 = (parseF b).2.2.1 ∧ (parseF a).2.2.2.1 = (parseF b).2.2.2.1 := by
  unfold VC cmpP ek
  rw [if_pos ha, if_pos hb, orI_zero, orI_zero, orI_zero, orI_zero, cmpI_zero, cmpI_zero, cmpI_zero, cmpI_zero, preC_zero]
  simp

end Go.Proofs.YtaddonafdllciaaDoor.SemList
