/- A star matches all that has no slash, two no more than one; a question mark one byte: the plain law. -/
import Derived.Test.YtjcopbgbmokfmaaPAllx1
namespace Go.Proofs.Ytjcopbgbmokfmaa.Pure
open Go.RowKit Go.Proofs.Ytjcopbgbmokfmaa.PAll Go.Proofs.YtjcopbgbmokfmaaW.PrintWords Go.Proofs.YtjcopbgbmokfmaaW.PrintLast
open Go.Proofs.Ytjcopbgbmokfmaa.BytesLib Go.Proofs.Ytjcopbgbmokfmaa.GlobLib Go.Proofs.Ytjcopbgbmokfmaa.GlobPieces Go.Proofs.Ytjcopbgbmokfmaa.GlobMain

theorem mt_end_iff (s : List UInt8) : (∃ j, Takes [] s j) ↔ (47 : UInt8) ∉ s := by
  constructor
  · rintro ⟨j, h1, h2, h3⟩
    rw [mt_nil, List.isEmpty_iff] at h3
    have : s.length ≤ j := by
      have := congrArg List.length h3
      simp at this; omega
    rwa [List.take_of_length_le this] at h2
  · intro h
    exact ⟨s.length, Nat.le_refl _, by rwa [List.take_length], by simp [mt_nil]⟩
theorem star_one (s : List UInt8) : mt [.star] s = !(decide ((47 : UInt8) ∈ s)) := by
  rw [Bool.eq_iff_iff, mt_star_iff, mt_end_iff]
  simp
theorem star_two (s : List UInt8) : mt [.star, .star] s = !(decide ((47 : UInt8) ∈ s)) := by
  rw [Bool.eq_iff_iff, mt_star_iff]
  constructor
  · rintro ⟨j, _, h2, h3⟩
    rw [star_one] at h3
    simp only [Bool.not_eq_true', decide_eq_false_iff_not] at h3 ⊢
    intro hm
    rw [← List.take_append_drop j s, List.mem_append] at hm
    exact hm.elim h2 h3
  · intro h
    refine ⟨0, Nat.zero_le _, by simp, ?_⟩
    rw [List.drop_zero, star_one]
    exact h
theorem any_one (s : List UInt8) : mt [.any] s = (decide (s.length = 1) && !(decide ((47 : UInt8) ∈ s))) := by
  match s with
  | [] => rw [mt_end]; rfl
  | [c] =>
    rw [mt_one rfl, mt_nil]
    by_cases h : c = 47
    · subst h; simp [Pc.ok]
    · have h' : ¬ 47 = c := fun e => h e.symm
      simp [Pc.ok, h, h']
  | c :: d :: s => rw [mt_one rfl, mt_nil]; simp

theorem m1 (s : ByteArray) (h : s.size ≤ 140737488351232) : glob_Match.f (⟨#[42]⟩ : ByteArray) s = some (!(decide ((47 : UInt8) ∈ L s)), 0) := by
  unfold glob_Match.f
  rw [if_pos ⟨by decide, h⟩, ← star_one]; rfl
theorem m2 (s : ByteArray) (h : s.size ≤ 140737488351232) : glob_Match.f (⟨#[42, 42]⟩ : ByteArray) s = some (!(decide ((47 : UInt8) ∈ L s)), 0) := by
  unfold glob_Match.f
  rw [if_pos ⟨by decide, h⟩, ← star_two]; rfl
theorem m3 (s : ByteArray) (h : s.size ≤ 140737488351232) : glob_Match.f (⟨#[63]⟩ : ByteArray) s = some (decide ((L s).length = 1) && !(decide ((47 : UInt8) ∈ L s)), 0) := by
  unfold glob_Match.f
  rw [if_pos ⟨by decide, h⟩, ← any_one]; rfl

theorem stars_loop (s : ByteArray) (hs : s.size ≤ 256) (d : Nat) : ∀ i : Nat, i ≤ s.size → s.size - i = d →
    Ev (fun k => graftbedlaw15_GlobStars.l0 k s (decide ((47 : UInt8) ∈ (L s).take i)) (i : Int)) true := by
  induction d with
  | zero =>
    intro i h1 h2
    obtain rfl : i = s.size := by omega
    refine Ev.step (f := fun _ => some true) (fun k => ?_) (Ev.now _)
    simp only [graftbedlaw15_GlobStars.l0]
    rw [if_neg (by omega), m1 s (by omega), m2 s (by omega), m3 s (by omega), List.take_of_length_le (by rw [L_length]; exact Nat.le_refl _)]
    have hl := L_length s
    by_cases h : s.size = 1
    · rw [show decide ((L s).length = 1) = true from decide_eq_true (by omega)]
      simp [h]
    · rw [show decide ((L s).length = 1) = false from decide_eq_false (by omega)]
      simp
      omega
  | succ d ih =>
    intro i h1 h2
    have hlt : i < (L s).length := by rw [L_length]; omega
    have hn := ih (i + 1) (by omega) (by omega)
    rw [List.take_succ_eq_append_getElem hlt] at hn
    by_cases hm : (47 : UInt8) ∈ (L s).take i
    · rw [show decide ((47 : UInt8) ∈ (L s).take i ++ [(L s)[i]]) = true from decide_eq_true (List.mem_append_left _ hm)] at hn
      refine Ev.step (fun k => ?_) hn
      simp only [graftbedlaw15_GlobStars.l0]
      rw [if_pos (by omega), if_pos (decide_eq_true hm), w64 (by omega) (by omega)]
      rfl
    · have e : decide ((47 : UInt8) ∈ (L s).take i ++ [(L s)[i]]) = (bt s (i : Int) == 47) := by
        rw [bt_nat hlt]
        by_cases hc : (L s)[i] = 47
        · rw [hc]; simp
        · rw [decide_eq_false (fun e => by
            rcases List.mem_append.1 e with e | e
            · exact hm e
            · exact hc (List.mem_singleton.1 e).symm)]
          symm
          rw [beq_eq_false_iff_ne]
          intro e
          exact hc (UInt8.toNat_inj.1 (by simpa using Int.ofNat_inj.1 e))
      rw [e] at hn
      refine Ev.step (fun k => ?_) hn
      simp only [graftbedlaw15_GlobStars.l0]
      rw [if_pos (by omega), if_neg (by simpa using hm), if_pos (by omega), w64 (by omega) (by omega)]
      rfl

theorem GlobStars : graftbedlaw15_GlobStars.Pure := by
  intro s hs
  by_cases h : (s.size : Int) > 256
  · exact ⟨0, by unfold graftbedlaw15_GlobStars.f; rw [if_pos h]⟩
  · have := (stars_loop s (by omega) s.size 0 (Nat.zero_le _) (by omega)).rounds
    obtain ⟨k, hk⟩ := this
    refine ⟨k, ?_⟩
    unfold graftbedlaw15_GlobStars.f
    rw [if_neg h]
    simpa using hk

end Go.Proofs.Ytjcopbgbmokfmaa.Pure
