/- SemverCanonical, as a statement over numbers and lists: what is made canonical is the reference's, it stays, it is alike; two that are alike are one in their parts. No condition but that each text is one that a machine holds. -/
import Derived.Test.YtaddonafdllciaaDoorMpa
import Derived.Test.YtaddonafdllciaaDoorMpb
import Derived.Test.YtaddonafdllciaaDoorPureSemRef
import Derived.Test.YtaddonafdllciaaDoorPureSemProg
namespace Go.Proofs.YtaddonafdllciaaDoor.Pure
open Go.RowKit Go.Proofs.YtaddonafdllciaaDoor.PAll Go.Proofs.YtaddonafdllciaaDoorW.PrintWords Go.Proofs.YtaddonafdllciaaDoorW.PrintLast
open Go.Proofs.YtaddonafdllciaaDoor.BytesLib Go.Proofs.YtaddonafdllciaaDoor.SemParts Go.Proofs.YtaddonafdllciaaDoor.SemNum Go.Proofs.YtaddonafdllciaaDoor.SemParse Go.Proofs.YtaddonafdllciaaDoor.SemOrder Go.Proofs.YtaddonafdllciaaDoor.SemSplit Go.Proofs.YtaddonafdllciaaDoor.SemCmp
set_option linter.unusedVariables false
set_option linter.unusedSimpArgs false

theorem takeWhile_split {c : UInt8} : ∀ {p : List UInt8} (q : List UInt8), c ∉ p → (p ++ c :: q).takeWhile (· != c) = p
  | [], q, _ => by simp
  | x :: p, q, h => by
    have h1 : x ≠ c := fun e => h (by rw [e]; exact List.mem_cons_self)
    have h2 : c ∉ p := fun e => h (List.mem_cons_of_mem _ e)
    rw [List.cons_append, List.takeWhile_cons, if_pos (by rw [bne_iff_ne]; exact h1), takeWhile_split q h2]
theorem takeWhile_none {c : UInt8} : ∀ {p : List UInt8}, c ∉ p → p.takeWhile (· != c) = p
  | [], _ => rfl
  | x :: p, h => by
    have h1 : x ≠ c := fun e => h (by rw [e]; exact List.mem_cons_self)
    have h2 : c ∉ p := fun e => h (List.mem_cons_of_mem _ e)
    rw [List.takeWhile_cons, if_pos (by rw [bne_iff_ne]; exact h1), takeWhile_none h2]
theorem not_mem_takeWhile (c : UInt8) : ∀ (p : List UInt8), c ∉ p.takeWhile (· != c)
  | [], h => by cases h
  | x :: p, h => by
    rw [List.takeWhile_cons] at h
    by_cases h1 : x = c
    · rw [if_neg (by rw [h1]; simp)] at h; cases h
    · rw [if_pos (by rw [bne_iff_ne]; exact h1)] at h
      rcases List.mem_cons.1 h with h2 | h2
      · exact h1 h2.symm
      · exact not_mem_takeWhile c p h2

theorem L_cutA (c : UInt8) (s : ByteArray) : L (cutA c s) = (L s).takeWhile (· != c) := by
  unfold cutA
  by_cases h0 : 0 ≤ cutI c s
  · rw [if_pos h0, L_head]
    obtain ⟨h1, h2⟩ := index_split c (L s) h0
    conv => rhs; rw [h1]
    exact (takeWhile_split _ h2).symm
  · rw [if_neg h0]
    exact (takeWhile_none (index_none c (L s) h0)).symm
theorem cutF_mem (c : UInt8) (s : ByteArray) : cutF c s = true ↔ c ∈ L s := by
  unfold cutF
  rw [decide_eq_true_eq]
  constructor
  · intro h
    obtain ⟨h1, h2⟩ := index_split c (L s) h
    rw [h1]; simp
  · intro h
    by_cases h0 : 0 ≤ cutI c s
    · exact h0
    · exact absurd h (index_none c (L s) h0)
theorem cutA_idem (c : UInt8) (s : ByteArray) : cutA c (cutA c s) = cutA c s := L_inj (by
  rw [L_cutA, L_cutA]; exact takeWhile_none (not_mem_takeWhile c _))
theorem cutF_cutA (c : UInt8) (s : ByteArray) : cutF c (cutA c s) = false := by
  cases h : cutF c (cutA c s) with
  | false => rfl
  | true =>
    have := (cutF_mem c _).1 h
    rw [L_cutA] at this
    exact absurd this (not_mem_takeWhile c _)
theorem cutB_none {c : UInt8} {s : ByteArray} (h : cutF c s = false) : cutB c s = ⟨#[]⟩ := by
  unfold cutB
  rw [if_neg (of_decide_eq_false h)]

/-- A text that is a version, and its parts. -/
theorem parse_ok {s : ByteArray} (h : (parseF s).2.2.2.2.2 = 0) : (L s).head? = some 118 ∧ s.size ≤ 60 ∧ ok4 (s.extract 1 s.size) = true := by
  by_cases h1 : (L s).head? = some 118 ∧ s.size ≤ 60 ∧ ok4 (s.extract 1 s.size) = true
  · exact h1
  · unfold parseF at h
    rw [if_neg h1] at h
    exact absurd h (by decide)
theorem head_cut {s : ByteArray} (h : (L s).head? = some 118) : (L (cutA 43 s)).head? = some 118 ∧ (cutA 43 s).extract 1 (cutA 43 s).size = cutA 43 (s.extract 1 s.size) := by
  cases hl : L s with
  | nil => rw [hl] at h; cases h
  | cons x l =>
    rw [hl] at h
    obtain rfl := Option.some.inj h
    have hc : L (cutA 43 s) = 118 :: l.takeWhile (· != 43) := by
      rw [L_cutA, hl, List.takeWhile_cons, if_pos (by decide)]
    refine ⟨by rw [hc]; rfl, L_inj ?_⟩
    rw [L_tail, hc, L_cutA, L_tail, hl]
    rfl
theorem parse_cut {s : ByteArray} (h : (parseF s).2.2.2.2.2 = 0) : parseF (cutA 43 s) = ((parseF s).1, (parseF s).2.1, (parseF s).2.2.1, (parseF s).2.2.2.1, ⟨#[]⟩, 0) := by
  obtain ⟨h1, h2, h3⟩ := parse_ok h
  obtain ⟨g1, g2⟩ := head_cut h1
  have hs : (cutA 43 s).size ≤ 60 := by have := cutA_le 43 s; omega
  have e1 : restOf (cutA 43 (s.extract 1 s.size)) = restOf (s.extract 1 s.size) := by unfold restOf; rw [cutA_idem]
  have e2 : preOf (cutA 43 (s.extract 1 s.size)) = preOf (s.extract 1 s.size) := by unfold preOf; rw [cutA_idem]
  have e3 : hasPre (cutA 43 (s.extract 1 s.size)) = hasPre (s.extract 1 s.size) := by unfold hasPre; rw [cutA_idem]
  have e4 : hasMeta (cutA 43 (s.extract 1 s.size)) = false := cutF_cutA 43 _
  have e5 : metaOf (cutA 43 (s.extract 1 s.size)) = ⟨#[]⟩ := cutB_none (cutF_cutA 43 _)
  have h4 : ok3 (s.extract 1 s.size) = true := by unfold ok4 at h3; rw [Bool.and_eq_true] at h3; exact h3.1
  have h5 : ok4 (cutA 43 (s.extract 1 s.size)) = true := by
    unfold ok4 ok3 ok2 ok1 at *
    rw [e1, e2, e3, e4, h4, show metaB false = (fun _ => true) from rfl]
    simp
  have h6 : ∀ i, numAt (cutA 43 (s.extract 1 s.size)) i = numAt (s.extract 1 s.size) i := fun i => by unfold numAt; rw [e1]
  unfold parseF
  rw [g2, if_pos ⟨g1, hs, h5⟩, if_pos ⟨h1, h2, h3⟩, e2, e5, h6, h6, h6]

/-- What a text is made to. -/
def incL : List UInt8 := [105, 110, 99, 111, 109, 112, 97, 116, 105, 98, 108, 101]
def canonF (s : ByteArray) : ByteArray := if (parseF s).2.2.2.2.2 = 0 then (if (parseF s).2.2.2.2.1.toList = incL then s else cutA 43 s) else ⟨#[]⟩

theorem prog_cut (c : UInt8) (s : ByteArray) (hs : s.size ≤ 140737488351232) : strings_Cut.f s ⟨#[c]⟩ = some (cutA c s, cutB c s, cutF c s) := by
  have h1 := cutI_lt c s
  unfold strings_Cut.f stringslite_Cut.f stringslite_Index.f
  rw [if_pos (show (⟨#[c]⟩ : ByteArray).size = 1 from rfl)]
  simp only [Option.bind_some]
  rw [show Lib.indexByte s.data.toList ((⟨#[c]⟩ : ByteArray).data.toList.headD 0) = cutI c s from rfl]
  rw [show (((⟨#[c]⟩ : ByteArray).size : Nat) : Int) = 1 from rfl]
  by_cases h : cutI c s ≥ 0
  · have hw : wrap64 (cutI c s + 1) = cutI c s + 1 := by unfold wrap64; omega
    rw [if_pos h, if_pos h, if_pos (by omega), hw, if_pos (by omega), if_pos (by omega)]
    simp only [Option.bind_some]
    unfold cutA cutB cutF
    rw [if_pos h, if_pos h, decide_eq_true h]
  · rw [if_neg h]
    simp only [Option.bind_some]
    unfold cutA cutB cutF
    rw [if_neg h, if_neg h, decide_eq_false h]

theorem prog_canon (s : ByteArray) (hs : s.size ≤ 140737488351232) : semver_Canonical.f s = some (canonF s) := by
  unfold semver_Canonical.f semver_Parse.f canonF incL
  rw [if_pos hs, Option.bind_some, prog_cut 43 s hs]
  simp only [Option.bind_some]
  split
  · split <;> rfl
  · rfl
theorem ref_canon (s : ByteArray) (hs : s.size ≤ 1099511627776) (k : Nat) (hk : s.size < k) : graftbedref03_Canonical.f k s = some (canonF s) := by
  have h0 := ref_find 43 s hs k hk
  have hl := cutI_lt 43 s
  unfold graftbedref03_Canonical.f graftbedref03_Parse.f canonF incL
  rw [if_pos (by omega), Option.bind_some, show graftbedref03_find.f k s 43 = _ from h0]
  simp only [Option.bind_some]
  split
  · split
    · rfl
    · unfold cutA
      by_cases h : 0 ≤ cutI 43 s
      · rw [if_pos h, if_pos h, if_pos h, if_pos (by omega)]
      · rw [if_neg h, if_neg h, if_pos (by omega), if_pos (Int.le_refl _), Int.toNat_natCast]
        exact congrArg some (L_inj (by rw [L_head, List.take_of_length_le (by rw [L_length]; exact Nat.le_refl _)]))
  · rfl

theorem parse_nil : (parseF ⟨#[]⟩).2.2.2.2.2 ≠ 0 := by
  unfold parseF
  rw [if_neg (fun h => by cases h.1)]
  decide
theorem canon_bad {s : ByteArray} (h : (parseF s).2.2.2.2.2 ≠ 0) : canonF s = ⟨#[]⟩ := by unfold canonF; rw [if_neg h]
theorem canon_two {s : ByteArray} (h : (parseF s).2.2.2.2.2 = 0) : canonF s = s ∧ (parseF s).2.2.2.2.1.toList = incL ∨ canonF s = cutA 43 s := by
  unfold canonF
  rw [if_pos h]
  by_cases h1 : (parseF s).2.2.2.2.1.toList = incL
  · exact .inl ⟨by rw [if_pos h1], h1⟩
  · exact .inr (by rw [if_neg h1])
/-- The parts of what a text is made to. -/
theorem canon_parse {s : ByteArray} (h : (parseF s).2.2.2.2.2 = 0) :
    (parseF (canonF s)).1 = (parseF s).1 ∧ (parseF (canonF s)).2.1 = (parseF s).2.1 ∧ (parseF (canonF s)).2.2.1 = (parseF s).2.2.1 ∧ (parseF (canonF s)).2.2.2.1 = (parseF s).2.2.2.1 ∧ (parseF (canonF s)).2.2.2.2.2 = 0 := by
  rcases canon_two h with ⟨h1, _⟩ | h1
  · rw [h1]; exact ⟨rfl, rfl, rfl, rfl, h⟩
  · rw [h1, parse_cut h]; exact ⟨rfl, rfl, rfl, rfl, rfl⟩
theorem canon_ne {s : ByteArray} (h : (parseF s).2.2.2.2.2 = 0) : (canonF s).toList ≠ [] := by
  intro e
  have h1 := (canon_parse h).2.2.2.2
  rw [toList_nil.1 e] at h1
  exact parse_nil h1
theorem canon_idem (s : ByteArray) : canonF (canonF s) = canonF s := by
  by_cases h : (parseF s).2.2.2.2.2 = 0
  · rcases canon_two h with ⟨h1, h2⟩ | h1
    · rw [h1]; exact h1
    · rw [h1]
      have h3 := parse_cut h
      unfold canonF
      rw [h3, if_pos rfl]
      show (if (⟨#[]⟩ : ByteArray).toList = incL then cutA 43 s else cutA 43 (cutA 43 s)) = cutA 43 s
      rw [cutA_idem]
      split <;> rfl
  · rw [canon_bad h, canon_bad parse_nil]
theorem canon_size (s : ByteArray) : (canonF s).size ≤ s.size := by
  unfold canonF
  split
  · split
    · exact Nat.le_refl _
    · exact cutA_le 43 s
  · exact Nat.zero_le _

set_option maxRecDepth 100000 in
theorem canon_const : (canonF ⟨#[118, 49, 46, 50, 46, 51, 43, 120]⟩).toList = [118, 49, 46, 50, 46, 51] := by
  rw [toList_L]
  unfold canonF parseF ok4 ok3 ok2 ok1 numAt preOf metaOf hasPre hasMeta restOf incL
  simp only [split_list, toList_L]
  decide +kernel
set_option maxRecDepth 100000 in
theorem nought_const : (parseF ⟨#[118, 48, 46, 48, 46, 48, 45, 48]⟩).2.2.2.2.2 = 0 := by
  unfold parseF ok4 ok3 ok2 ok1 numAt preOf metaOf hasPre hasMeta restOf
  simp only [split_list]
  decide +kernel

theorem orI_zero {a b : Int} : orI a b = 0 ↔ a = 0 ∧ b = 0 := by
  unfold orI
  split <;> omega
theorem cmpI_zero {a b : Int} : cmpI a b = 0 ↔ a = b := by
  unfold cmpI
  repeat' split <;> omega
theorem preC_zero {a b : ByteArray} : preC a b = 0 ↔ a = b := by
  constructor
  · intro h
    unfold preC at h
    exact split_inj (LC_zero orderF_zero _ _ (orI_zero.1 h).2)
  · intro h
    rw [h, preC_cmp.self]
theorem VC_zero {a b : ByteArray} (ha : (parseF a).2.2.2.2.2 = 0) (hb : (parseF b).2.2.2.2.2 = 0) :
    VC a b = 0 ↔ (parseF a).1 = (parseF b).1 ∧ (parseF a).2.1 = (parseF b).2.1 ∧ (parseF a).2.2.1 = (parseF b).2.2.1 ∧ (parseF a).2.2.2.1 = (parseF b).2.2.2.1 := by
  unfold VC cmpP ek
  rw [if_pos ha, if_pos hb, orI_zero, orI_zero, orI_zero, orI_zero, cmpI_zero, cmpI_zero, cmpI_zero, cmpI_zero, preC_zero]
  simp

theorem SemverCanonical : graftbedlaw03_SemverCanonical.Pure := by
  intro a b ha hb
  by_cases hbig : a.size > 1024 ∨ b.size > 1024
  · refine ⟨1, ?_⟩
    have hT : graftbedlaw03_SemverCanonical.j0 1 a b true = some true := by
      simp only [graftbedlaw03_SemverCanonical.j0]; rw [if_pos trivial]
    unfold graftbedlaw03_SemverCanonical.f
    rw [hT]
    split
    · rfl
    · rw [decide_eq_true (by omega)]; exact hT
  · have hsa : a.size ≤ 1024 := by omega
    have hsb : b.size ≤ 1024 := by omega
    have ca := canon_size a
    have cb := canon_size b
    refine ⟨3000 + 3, ?_⟩
    have hP := fun x y (hx : x.size ≤ 1024) (hy : y.size ≤ 1024) => prog_compare x y (by omega) (by omega) 3000 (by omega)
    have hJ2 : graftbedlaw03_SemverCanonical.j2 (3000 + 1) a (canonF a) (canonF b) ((canonF a).toList == [] || (canonF b).toList == []) = some true := by
      simp only [graftbedlaw03_SemverCanonical.j2]
      by_cases pa : (parseF a).2.2.2.2.2 = 0
      · have na := canon_ne pa
        by_cases pb : (parseF b).2.2.2.2.2 = 0
        · have nb := canon_ne pb
          obtain ⟨a1, a2, a3, a4, a5⟩ := canon_parse pa
          obtain ⟨b1, b2, b3, b4, b5⟩ := canon_parse pb
          have hz : VC a (canonF a) = 0 := (VC_zero pa a5).2 ⟨a1.symm, a2.symm, a3.symm, a4.symm⟩
          rw [show ((canonF a).toList == []) = false from beq_eq_false_iff_ne.2 na, show ((canonF b).toList == []) = false from beq_eq_false_iff_ne.2 nb, if_neg (by decide)]
          unfold graftbedref03_Parse.f
          rw [if_pos (by omega), if_pos (by omega), hP a (canonF a) hsa (by omega), hP (canonF a) (canonF b) (by omega) (by omega), hz]
          simp only [Option.bind_some]
          rw [if_pos trivial]
          have hv := VC_zero a5 b5
          have hd : ∀ p : Bool, (VC (canonF a) (canonF b) = 0 ↔ p = true) → ((VC (canonF a) (canonF b) == 0) == p) = true := by
            intro p hp
            cases p with
            | true => rw [beq_iff_eq, beq_iff_eq]; exact hp.2 rfl
            | false => rw [beq_iff_eq, beq_eq_false_iff_ne]; exact fun e => by cases hp.1 e
          by_cases c1 : (parseF (canonF a)).1 = (parseF (canonF b)).1
          · rw [if_pos c1]
            by_cases c2 : (parseF (canonF a)).2.1 = (parseF (canonF b)).2.1
            · rw [if_pos c2]
              by_cases c3 : (parseF (canonF a)).2.2.1 = (parseF (canonF b)).2.2.1
              · rw [if_pos c3, hd]
                rw [hv, beq_iff_eq, toList_inj]
                exact ⟨fun h => h.2.2.2, fun h => ⟨c1, c2, c3, h⟩⟩
              · rw [if_neg c3, hd]
                rw [hv]
                exact ⟨fun h => absurd h.2.2.1 c3, fun h => by cases h⟩
            · rw [if_neg c2, hd]
              rw [hv]
              exact ⟨fun h => absurd h.2.1 c2, fun h => by cases h⟩
          · rw [if_neg c1, hd]
            rw [hv]
            exact ⟨fun h => absurd h.1 c1, fun h => by cases h⟩
        · have eb : ((canonF b).toList == []) = true := beq_iff_eq.2 (by rw [canon_bad pb]; exact toList_nil.2 rfl)
          rw [eb, Bool.or_true, if_pos rfl, if_neg na]
      · have ea : (canonF a).toList = [] := by rw [canon_bad pa]; exact toList_nil.2 rfl
        rw [show ((canonF a).toList == []) = true from beq_iff_eq.2 ea, Bool.true_or, if_pos rfl, if_pos ea, hP a _ hsa (by decide), Option.bind_some]
        have hv : VC a ⟨#[118, 48, 46, 48, 46, 48, 45, 48]⟩ = -1 := by
          unfold VC cmpP ek
          rw [if_neg pa, if_pos nought_const]; rfl
        rw [hv]; rfl
    have hJ1 : graftbedlaw03_SemverCanonical.j1 (3000 + 2) a (canonF a) (canonF b) false = some true := by
      rw [show 3000 + 2 = (3000 + 1) + 1 from rfl]
      generalize 3000 + 1 = n at hJ2 ⊢
      simp only [graftbedlaw03_SemverCanonical.j1]
      rw [if_neg (by decide)]
      by_cases h : (canonF a).toList = []
      · rw [if_pos h]
        rw [show ((canonF a).toList == []) = true from beq_iff_eq.2 h, Bool.true_or] at hJ2
        exact hJ2
      · rw [if_neg h]
        rw [show ((canonF a).toList == []) = false from beq_eq_false_iff_ne.2 h, Bool.false_or] at hJ2
        exact hJ2
    have hJ0 : graftbedlaw03_SemverCanonical.j0 (3000 + 3) a b false = some true := by
      have e1 := prog_canon a ha
      have e2 := prog_canon b hb
      have e3 := ref_canon a (by omega) (3000 + 2) (by omega)
      have e4 := prog_canon (canonF a) (by omega)
      have e5 := prog_canon ⟨#[118, 49, 46, 50, 46, 51, 43, 120]⟩ (by decide)
      rw [show 3000 + 3 = (3000 + 2) + 1 from rfl]
      generalize 3000 + 2 = n at hJ1 e3 ⊢
      simp only [graftbedlaw03_SemverCanonical.j0]
      rw [if_neg (by decide), e1, e2, e3, e5]
      simp only [Option.bind_some]
      rw [if_pos trivial, e4, Option.bind_some, canon_idem, if_pos rfl, canon_const]
      exact hJ1
    unfold graftbedlaw03_SemverCanonical.f
    rw [if_neg (by omega), decide_eq_false (by omega)]
    exact hJ0

end Go.Proofs.YtaddonafdllciaaDoor.Pure
