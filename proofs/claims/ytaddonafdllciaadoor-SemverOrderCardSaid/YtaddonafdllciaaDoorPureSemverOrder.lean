/- SemverOrder, as a statement over numbers and lists: the program's order of versions is the reference's, turned round it turns, and it goes on. No condition but that each text is one that a machine holds. -/
import Derived.Test.YtaddonafdllciaaDoorMpb
import Derived.Test.YtaddonafdllciaaDoorPureSemCompare
namespace Go.Proofs.YtaddonafdllciaaDoor.Pure
open Go.RowKit Go.Proofs.YtaddonafdllciaaDoor.PAll Go.Proofs.YtaddonafdllciaaDoorW.PrintWords Go.Proofs.YtaddonafdllciaaDoorW.PrintLast
open Go.Proofs.YtaddonafdllciaaDoor.BytesLib Go.Proofs.YtaddonafdllciaaDoor.SemParts Go.Proofs.YtaddonafdllciaaDoor.SemNum Go.Proofs.YtaddonafdllciaaDoor.SemParse Go.Proofs.YtaddonafdllciaaDoor.SemOrder Go.Proofs.YtaddonafdllciaaDoor.SemSplit Go.Proofs.YtaddonafdllciaaDoor.SemCmp
set_option linter.unusedVariables false
set_option linter.unusedSimpArgs false

set_option maxRecDepth 100000 in
theorem VC_const : VC ⟨#[118, 49, 46, 48, 46, 48, 45, 97]⟩ ⟨#[118, 49, 46, 48, 46, 48]⟩ = -1 := by
  unfold VC cmpP preC parseF ok4 ok3 ok2 ok1 numAt preOf metaOf hasPre hasMeta restOf
  simp only [split_list]
  decide +kernel

theorem VC_max_l (a b : ByteArray) : ¬ VC (maxF a b) a < 0 := by
  unfold maxF
  have h1 := VC_cmp.anti a b
  have h2 := VC_cmp.self a
  split <;> omega
theorem VC_max_r (a b : ByteArray) : ¬ VC (maxF a b) b < 0 := by
  unfold maxF
  have h2 := VC_cmp.self b
  split <;> omega
theorem max_size (a b : ByteArray) (ha : a.size ≤ 140737488351232) (hb : b.size ≤ 140737488351232) : (maxF a b).size ≤ 140737488351232 := by
  unfold maxF
  split <;> assumption

theorem SemverOrder : graftbedlaw03_SemverOrder.Pure := by
  intro a b c ha hb hc
  refine ⟨2000 + 2, ?_⟩
  have hm := max_size a b ha hb
  have hT : graftbedlaw03_SemverOrder.j0 (2000 + 2) a b c true = some true := by
    simp only [graftbedlaw03_SemverOrder.j0]; rw [if_pos trivial]
  have hP := fun x y hx hy => prog_compare x y hx hy 2000 (by omega)
  have hcst := hP ⟨#[118, 49, 46, 48, 46, 48, 45, 97]⟩ ⟨#[118, 49, 46, 48, 46, 48]⟩ (by decide) (by decide)
  rw [VC_const] at hcst
  have hJ1 : graftbedlaw03_SemverOrder.j1 (2000 + 1) a b c (VC a b) (maxF a b) false = some true := by
    simp only [graftbedlaw03_SemverOrder.j1]
    rw [if_neg (by decide), hP b c hb hc, hP a c ha hc, hP _ a hm ha, hP _ b hm hb, hcst]
    simp only [Option.bind_some]
    rw [if_neg (VC_max_l a b), if_neg (VC_max_r a b)]
    split
    · rename_i h1
      split
      · rename_i h2
        have h3 := VC_cmp.trans a b c h1 h2
        rw [if_neg (by omega)]; rfl
      · rfl
    · rfl
  have hF : graftbedlaw03_SemverOrder.j0 (2000 + 2) a b c false = some true := by
    have e1 := prog_compare a b ha hb (2000 + 1) (by omega)
    have e2 := prog_max a b ha hb (2000 + 1) (by omega)
    have e3 := ref_compare a b ha hb (2000 + 1) (by omega)
    have e4 := prog_compare b a hb ha (2000 + 1) (by omega)
    have e5 := prog_compare a a ha ha (2000 + 1) (by omega)
    have e6 := ref_max a b ha hb (2000 + 1) (by omega)
    rw [show 2000 + 2 = (2000 + 1) + 1 from rfl]
    generalize 2000 + 1 = n at hJ1 e1 e2 e3 e4 e5 e6 ⊢
    simp only [graftbedlaw03_SemverOrder.j0]
    rw [if_neg (by decide), e1, e2, e3, e4, e5, e6]
    simp only [Option.bind_some]
    rw [if_pos trivial, if_pos (VC_neg a b).symm, if_pos (VC_cmp.self a), show ((maxF a b).toList != (maxF a b).toList) = false from by simp, hJ1]
  unfold graftbedlaw03_SemverOrder.f
  rw [hT]
  split
  · rfl
  · split
    · rfl
    · cases h : decide ((c.size : Int) > 1024) with
      | true => exact hT
      | false => exact hF

end Go.Proofs.YtaddonafdllciaaDoor.Pure
