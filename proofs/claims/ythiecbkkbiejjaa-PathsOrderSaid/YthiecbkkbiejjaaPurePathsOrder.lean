/- PathsOrder, as a statement over lists: of any two texts the order is the reference's, one way round and the other; of three it goes on. No condition but that each text is one that a machine holds. -/
import Derived.Test.YthiecbkkbiejjaaPAllx2
import Derived.Test.YthiecbkkbiejjaaPAllx3
import Derived.Test.YthiecbkkbiejjaaPureALib
namespace Go.Proofs.Ythiecbkkbiejjaa.Pure
open Go.RowKit Go.Proofs.Ythiecbkkbiejjaa.PAll Go.Proofs.YthiecbkkbiejjaaW.PrintWords Go.Proofs.YthiecbkkbiejjaaW.PrintLast
open Go.Proofs.Ythiecbkkbiejjaa.BytesLib Go.Proofs.Ythiecbkkbiejjaa.SplitLib Go.Proofs.Ythiecbkkbiejjaa.OrderLib Go.Proofs.Ythiecbkkbiejjaa.Elems
set_option linter.unusedVariables false

theorem order_last (k : Nat) (a b c : ByteArray) (n : Int) (hn : n = cmpP a b) (h5 : paths_Compare.f k b c = some (cmpP b c)) (h6 : paths_Compare.f k a c = some (cmpP a c))
    (h7 : paths_Compare.f k (⟨#[97]⟩ : ByteArray) (⟨#[97, 47, 98]⟩ : ByteArray) = some (cmpP ⟨#[97]⟩ ⟨#[97, 47, 98]⟩)) :
    graftbedlaw01_PathsOrder.j1 (k + 1) a b c n false = some true := by
  simp only [graftbedlaw01_PathsOrder.j1, Bool.false_eq_true, if_false]
  rw [h5, h6, h7, cmpP_ab]
  simp only [Option.bind_some]
  by_cases h1 : n ≤ 0
  · rw [if_pos h1]
    by_cases h2 : cmpP b c ≤ 0
    · have h3 : cmpP a c ≤ 0 := cmpLL_tr (by rw [hn] at h1; exact h1) h2
      rw [if_pos h2, if_neg (by omega)]; rfl
    · rw [if_neg h2]; rfl
  · rw [if_neg h1]; rfl

theorem PathsOrder : graftbedlaw01_PathsOrder.Pure := by
  intro a b c ha hb hc
  have big : ∀ k, graftbedlaw01_PathsOrder.j0 (k + 1) a b c true = some true := fun k => by simp only [graftbedlaw01_PathsOrder.j0, if_true]
  by_cases g1 : (a.size : Int) > 1024
  · exact ⟨1, by unfold graftbedlaw01_PathsOrder.f; rw [if_pos g1]; exact big 0⟩
  · by_cases g2 : (b.size : Int) > 1024
    · exact ⟨1, by unfold graftbedlaw01_PathsOrder.f; rw [if_neg g1, if_pos g2]; exact big 0⟩
    · by_cases g3 : (c.size : Int) > 1024
      · exact ⟨1, by unfold graftbedlaw01_PathsOrder.f; rw [if_neg g1, if_neg g2, decide_eq_true g3]; exact big 0⟩
      · obtain ⟨K1, h1⟩ := paths_cmp a b (by omega) (by omega)
        obtain ⟨K2, h2⟩ := ref_cmp a b (by omega) (by omega)
        obtain ⟨K3, h3⟩ := paths_cmp b a (by omega) (by omega)
        obtain ⟨K4, h4⟩ := paths_cmp a a (by omega) (by omega)
        obtain ⟨K5, h5⟩ := paths_cmp b c (by omega) (by omega)
        obtain ⟨K6, h6⟩ := paths_cmp a c (by omega) (by omega)
        obtain ⟨K7, h7⟩ := paths_cmp ⟨#[97]⟩ ⟨#[97, 47, 98]⟩ (by decide) (by decide)
        refine ⟨K1 + K2 + K3 + K4 + K5 + K6 + K7 + 2, ?_⟩
        replace h1 := h1 (K1 + K2 + K3 + K4 + K5 + K6 + K7 + 1) (by omega)
        replace h2 := h2 (K1 + K2 + K3 + K4 + K5 + K6 + K7 + 1) (by omega)
        replace h3 := h3 (K1 + K2 + K3 + K4 + K5 + K6 + K7 + 1) (by omega)
        replace h4 := h4 (K1 + K2 + K3 + K4 + K5 + K6 + K7 + 1) (by omega)
        dsimp only at h1 h2 h3 h4
        unfold graftbedlaw01_PathsOrder.f
        rw [if_neg g1, if_neg g2, decide_eq_false g3]
        simp only [graftbedlaw01_PathsOrder.j0, Bool.false_eq_true, if_false]
        rw [h1, h2, h3, h4]
        simp only [Option.bind_some, if_true]
        have hr := cmpLL_range (elemsL (L a)) (elemsL (L b))
        have ht : cmpP b a = wrap64 (-cmpP a b) := by
          have e := cmpLL_turn (elemsL (L a)) (elemsL (L b))
          unfold cmpP
          rw [e, w64 (by omega) (by omega)]
        have hz : cmpP a a = 0 := cmpLL_self _
        rw [if_pos ht, if_pos hz]
        have fin : graftbedlaw01_PathsOrder.j1 (K1 + K2 + K3 + K4 + K5 + K6 + K7 + 1) a b c (cmpP a b) false = some true :=
          order_last _ a b c _ rfl (h5 _ (by omega)) (h6 _ (by omega)) (h7 _ (by omega))
        by_cases e : cmpP a b = 0
        · rw [if_pos e]
          have hab : a = b := L_inj (elemsL_inj (cmpLL_zero e))
          rw [show (a.toList != b.toList) = false from by rw [hab]; simp]
          exact fin
        · rw [if_neg e]; exact fin

end Go.Proofs.Ythiecbkkbiejjaa.Pure
