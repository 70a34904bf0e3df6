/- What the program's Compare and Max come to. -/
import Derived.Test.YtaddonafdllciaaDoorMpa
import Derived.Test.YtaddonafdllciaaDoorSemCmp
namespace Go.Proofs.YtaddonafdllciaaDoor.Pure
open Go.RowKit Go.Proofs.YtaddonafdllciaaDoor.PAll Go.Proofs.YtaddonafdllciaaDoorW.PrintWords Go.Proofs.YtaddonafdllciaaDoorW.PrintLast
open Go.Proofs.YtaddonafdllciaaDoor.BytesLib Go.Proofs.YtaddonafdllciaaDoor.SemParts Go.Proofs.YtaddonafdllciaaDoor.SemNum Go.Proofs.YtaddonafdllciaaDoor.SemParse Go.Proofs.YtaddonafdllciaaDoor.SemOrder Go.Proofs.YtaddonafdllciaaDoor.SemSplit Go.Proofs.YtaddonafdllciaaDoor.SemCmp
set_option linter.unusedVariables false
set_option linter.unusedSimpArgs false

theorem prog_cmpI (a b : Int) : cmp_Compare_int.f a b = some (cmpI a b) := by
  unfold cmp_Compare_int.f cmp_isNaN_int.f cmpI
  simp only [Option.bind_some, bne_self_eq_false, if_neg (show ¬ false = true by decide)]
  split
  · rfl
  · split <;> rfl

theorem prog_or (a b c d : Int) (k : Nat) (hk : 6 ≤ k) : cmp_Or_int.f k [a, b, c, d] = some (orI a (orI b (orI c d))) := by
  obtain ⟨k, rfl⟩ : ∃ k', k = k' + 6 := ⟨k - 6, by omega⟩
  have e0 : rd [a, b, c, d] 0 = a := rfl
  have e1 : rd [a, b, c, d] 1 = b := rfl
  have e2 : rd [a, b, c, d] 2 = c := rfl
  have e3 : rd [a, b, c, d] 3 = d := rfl
  have w1 : wrap64 ((0 : Int) + 1) = 1 := w64 (x := 0 + 1) (by decide) (by decide)
  have w2 : wrap64 ((1 : Int) + 1) = 2 := w64 (x := 1 + 1) (by decide) (by decide)
  have w3 : wrap64 ((2 : Int) + 1) = 3 := w64 (x := 2 + 1) (by decide) (by decide)
  have w4 : wrap64 ((3 : Int) + 1) = 4 := w64 (x := 3 + 1) (by decide) (by decide)
  have hl : (([a, b, c, d] : List Int).length : Int) = 4 := rfl
  unfold cmp_Or_int.f
  rw [hl]
  have s4 : cmp_Or_int.l0 (k + 2) 0 [a, b, c, d] 4 4 = some 0 := by simp only [cmp_Or_int.l0]; rw [if_neg (by omega)]
  have s3 : cmp_Or_int.l0 (k + 3) 0 [a, b, c, d] 4 3 = some d := by
    rw [show k + 3 = (k + 2) + 1 from rfl]
    generalize k + 2 = q at s4 ⊢
    simp only [cmp_Or_int.l0]
    rw [if_pos (by omega), if_pos (by omega), hl, if_pos (by omega), e3, w4, s4]
    split
    · rename_i h; rw [h]
    · rfl
  have s2 : cmp_Or_int.l0 (k + 4) 0 [a, b, c, d] 4 2 = some (orI c d) := by
    rw [show k + 4 = (k + 3) + 1 from rfl]
    generalize k + 3 = q at s3 ⊢
    simp only [cmp_Or_int.l0]
    rw [if_pos (by omega), if_pos (by omega), hl, if_pos (by omega), e2, w3, s3]
    unfold orI
    split <;> rfl
  have s1 : cmp_Or_int.l0 (k + 5) 0 [a, b, c, d] 4 1 = some (orI b (orI c d)) := by
    rw [show k + 5 = (k + 4) + 1 from rfl]
    generalize k + 4 = q at s2 ⊢
    simp only [cmp_Or_int.l0]
    rw [if_pos (by omega), if_pos (by omega), hl, if_pos (by omega), e1, w2, s2]
    conv => rhs; unfold orI
    split <;> rfl
  rw [show k + 6 = (k + 5) + 1 from rfl]
  generalize k + 5 = q at s1 ⊢
  simp only [cmp_Or_int.l0]
  rw [if_pos (by omega), if_pos (by omega), hl, if_pos (by omega), e0, w1, s1]
  conv => rhs; unfold orI
  split <;> rfl

theorem parse_two (s : ByteArray) : (parseF s).2.2.2.2.2 = 0 ∨ parseF s = (0, 0, 0, ⟨#[]⟩, ⟨#[]⟩, 30) := by
  unfold parseF
  split
  · exact .inl rfl
  · exact .inr rfl
theorem parse_pre_size (s : ByteArray) : (parseF s).2.2.2.1.size ≤ s.size := by
  unfold parseF
  split
  · show (cutB 45 (cutA 43 (s.extract 1 s.size))).size ≤ s.size
    have h1 := cutB_le 45 (cutA 43 (s.extract 1 s.size))
    have h2 := cutA_le 43 (s.extract 1 s.size)
    rw [ByteArray.size_extract] at h2
    omega
  · exact Nat.zero_le _

theorem prog_compare (a b : ByteArray) (ha : a.size ≤ 140737488351232) (hb : b.size ≤ 140737488351232) (k : Nat) (hk : 10 ≤ k) : semver_Compare.f k a b = some (VC a b) := by
  obtain ⟨k, rfl⟩ : ∃ k', k = k' + 1 := ⟨k - 1, by omega⟩
  have pa := parse_pre_size a
  have pb := parse_pre_size b
  have ta := parse_two a
  have tb := parse_two b
  unfold semver_Compare.f semver_Parse.f VC
  rw [if_pos ha, if_pos hb, Option.bind_some, Option.bind_some]
  generalize parseF a = p at pa ta ⊢
  generalize parseF b = q at pb tb ⊢
  simp only [semver_Compare.j0]
  by_cases h1 : p.2.2.2.2.2 = 0
  · rw [if_pos h1, if_neg (by decide), if_pos h1]
    by_cases h2 : q.2.2.2.2.2 = 0
    · rw [if_pos h2, prog_cmpI, Option.bind_some, prog_cmpI, Option.bind_some, prog_cmpI, Option.bind_some]
      unfold semver_orderPre.f
      rw [if_pos ⟨by omega, by omega⟩, Option.bind_some, prog_or _ _ _ _ k (by omega), Option.bind_some]
      unfold cmpP ek
      rw [if_pos h1, if_pos h2, preF_eq]
      rfl
    · rw [if_neg h2]
      unfold cmpP ek
      rw [if_pos h1, if_neg h2]
      rfl
  · obtain rfl := ta.resolve_left h1
    rw [if_neg h1, if_neg h1]
    by_cases h2 : q.2.2.2.2.2 = 0
    · have e : (q.2.2.2.2.2 != 0) = false := by rw [h2]; rfl
      rw [e, if_neg (by decide)]
      unfold cmpP ek
      rw [if_neg h1, if_pos h2]
      rfl
    · obtain rfl := tb.resolve_left h2
      rw [if_pos (by decide)]
      rw [cmpP_cmp.self]

theorem VC_neg (a b : ByteArray) : wrap64 (-(VC a b)) = VC b a := by
  have h1 := VC_cmp.anti a b
  have h2 := VC_cmp.one a b
  rw [w64 (by omega) (by omega), h1]

def maxF (a b : ByteArray) : ByteArray := if VC a b < 0 then b else a
theorem prog_max (a b : ByteArray) (ha : a.size ≤ 140737488351232) (hb : b.size ≤ 140737488351232) (k : Nat) (hk : 10 ≤ k) : semver_Max.f k a b = some (maxF a b) := by
  unfold semver_Max.f maxF
  rw [prog_compare a b ha hb k hk, Option.bind_some]
  split <;> rfl

end Go.Proofs.YtaddonafdllciaaDoor.Pure
