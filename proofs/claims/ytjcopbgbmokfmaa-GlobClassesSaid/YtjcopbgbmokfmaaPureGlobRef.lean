/- What the reference answers of patterns and texts: the errors; that it answers. -/
import Derived.Test.YtjcopbgbmokfmaaPAllx4
import Derived.Test.YtjcopbgbmokfmaaPAllx5
import Derived.Test.YtjcopbgbmokfmaaPureGlobLib
namespace Go.Proofs.Ytjcopbgbmokfmaa.Pure
open Go.RowKit Go.Proofs.Ytjcopbgbmokfmaa.PAll Go.Proofs.YtjcopbgbmokfmaaW.PrintWords Go.Proofs.YtjcopbgbmokfmaaW.PrintLast
open Go.Proofs.Ytjcopbgbmokfmaa.BytesLib Go.Proofs.Ytjcopbgbmokfmaa.GlobLib Go.Proofs.Ytjcopbgbmokfmaa.GlobNext Go.Proofs.Ytjcopbgbmokfmaa.GlobClass Go.Proofs.Ytjcopbgbmokfmaa.GlobPieces Go.Proofs.Ytjcopbgbmokfmaa.GlobMain
set_option linter.unusedVariables false

theorem ref_check (s : ByteArray) (hs : s.size ≤ 1099511627776) : Ev (fun k => graftbedref15_Check.l0 k s) (checkF (L s)) := by
  induction h : s.size using Nat.strongRecOn generalizing s with
  | _ N ih =>
    have hl := L_length s
    have ht := toList_L s
    by_cases h0 : L s = []
    · refine Ev.step (f := fun _ => some 0) (fun k => ?_) ?_
      · simp only [graftbedref15_Check.l0]; rw [if_pos (by rw [ht]; exact h0)]
      · rw [h0]; exact Ev.now _
    · have hpos : 0 < s.size := by
        have := List.length_pos_iff.2 h0
        omega
      have hp := ref_piece s hs hpos
      refine Ev.step (f := fun k => (graftbedref15_piece.f k s).bind fun t113 => (if t113 = 0 then (some 150) else (if 0 ≤ t113 then (if t113 ≤ (s.size : Int) then (graftbedref15_Check.l0 k (s.extract (t113 : Int).toNat s.size)) else (none)) else (none)))) (fun k => ?_) (Ev.bind hp ?_)
      · simp only [graftbedref15_Check.l0]; rw [if_neg (by rw [ht]; exact h0)]
      · have hpc := patt_cons h0
        cases hf : first (L s) with
        | none =>
          rw [hf] at hpc
          have e : checkF (L s) = 150 := by unfold checkF; rw [hpc]
          rw [e]
          exact Ev.congr (fun k => if_pos rfl) (Ev.now _)
        | some q =>
          obtain ⟨p, r⟩ := q
          rw [hf] at hpc
          have hr := first_len hf
          obtain ⟨u, hu⟩ := first_drop hf
          have hul : u.length + r.length = s.size := by rw [← hl, hu, List.length_append]
          have e : checkF (L s) = checkF (L (s.extract u.length s.size)) := by
            have er : L (s.extract u.length s.size) = r := by rw [L_tail, hu]; simp
            rw [er]
            unfold checkF
            rw [hpc]
            dsimp only
            cases patt r <;> rfl
          rw [e]
          have hn : pieceN (L s) (some (p, r)) = (u.length : Int) := by simp only [pieceN, hl]; omega
          have := ih (s.extract u.length s.size).size (by rw [ByteArray.size_extract]; omega) (s.extract u.length s.size) (by rw [ByteArray.size_extract]; omega) rfl
          refine Ev.congr (fun k => ?_) this
          rw [hn, if_neg (by omega), if_pos (by omega), if_pos (by omega), Int.toNat_natCast]

end Go.Proofs.Ytjcopbgbmokfmaa.Pure
