/- GlobClasses, as a statement over numbers and lists: a class of one range has just the bytes of it, with ^ just the others, but for the slash. No condition but the machine's own. -/
import Derived.Test.YtjcopbgbmokfmaaPAllx1
import Derived.Test.YtjcopbgbmokfmaaPAllx10
import Derived.Test.YtjcopbgbmokfmaaPAllx11
import Derived.Test.YtjcopbgbmokfmaaPureGlobAns
import Derived.DataShut
namespace Go.Proofs.Ytjcopbgbmokfmaa.Pure
open Go.RowKit Go.Proofs.Ytjcopbgbmokfmaa.PAll Go.Proofs.YtjcopbgbmokfmaaW.PrintWords Go.Proofs.YtjcopbgbmokfmaaW.PrintLast
open Go.Proofs.Ytjcopbgbmokfmaa.BytesLib Go.Proofs.Ytjcopbgbmokfmaa.GlobLib Go.Proofs.Ytjcopbgbmokfmaa.GlobNext Go.Proofs.Ytjcopbgbmokfmaa.GlobClass Go.Proofs.Ytjcopbgbmokfmaa.GlobPieces Go.Proofs.Ytjcopbgbmokfmaa.GlobMain
set_option linter.unusedVariables false

def rangeL (a b : UInt8) : List UInt8 := [92, a, 45, 92, b, 93]
def rangeT (a b : UInt8) : Nat → Bool := setR (fun _ => false) a.toNat b.toNat
theorem rng_range (n : Nat) (a b : UInt8) : rng (n + 2) false (fun _ => false) (rangeL a b) = if b < a then none else some (rangeT a b, []) := by
  unfold rangeL rangeT
  rw [rng, if_neg (fun h => by cases h.1), nextB_back a _ (by decide)]
  dsimp only
  rw [if_pos (show ([45, 92, b, 93] : List UInt8).head? = some 45 from rfl), show ([45, 92, b, 93] : List UInt8).tail = [92, b, 93] from rfl, nextB_back b _ (by decide)]
  dsimp only
  by_cases h : b < a
  · rw [if_pos h, if_pos h]
  · rw [if_neg h, if_neg h, rng, if_pos ⟨rfl, rfl⟩]; rfl
theorem patt_one (no : Bool) (a b : UInt8) : patt (91 :: (if no = true then 94 :: rangeL a b else rangeL a b)) = if b < a then none else some [.cls (rangeT a b) no] := by
  have hc : classL (if no = true then 94 :: rangeL a b else rangeL a b) = if b < a then none else some (.cls (rangeT a b) no, []) := by
    cases no with
    | true =>
      show classL (94 :: rangeL a b) = _
      unfold classL
      rw [if_pos (show (94 :: rangeL a b).head? = some 94 from rfl), show (94 :: rangeL a b).tail = rangeL a b from rfl, show (rangeL a b).length + 1 = 5 + 2 from rfl, rng_range]
      by_cases h : b < a
      · rw [if_pos h, if_pos h]
      · rw [if_neg h, if_neg h]; rfl
    | false =>
      show classL (rangeL a b) = _
      unfold classL
      have hn : ¬ ((rangeL a b).head? = some 94) := fun e => absurd (show (92 : UInt8) = 94 from Option.some.inj e) (by decide)
      rw [if_neg hn, show (rangeL a b).length + 1 = 5 + 2 from rfl, rng_range, decide_eq_false hn]
      by_cases h : b < a
      · rw [if_pos h, if_pos h]
      · rw [if_neg h, if_neg h]
  rw [patt_cons (by simp)]
  have hf : ∀ X : List UInt8, first (91 :: X) = classL X := fun X => rfl
  rw [hf, hc]
  by_cases h : b < a
  · rw [if_pos h, if_pos h]
  · rw [if_neg h, if_neg h]
    dsimp only
    rw [patt_nil]; rfl
theorem mt_cls (t : Nat → Bool) (no : Bool) (c : UInt8) : mt [.cls t no] [c] = (c != 47 && (t c.toNat != no)) := by
  rw [mt_one rfl, mt_nil]
  show ((c != 47 && (t c.toNat != no)) && true) = _
  rw [Bool.and_true]
theorem match_one (no : Bool) (a b c : UInt8) : matchF (91 :: (if no = true then 94 :: rangeL a b else rangeL a b)) [c] = if b < a then (false, 150) else (c != 47 && (rangeT a b c.toNat != no), 0) := by
  unfold matchF
  rw [patt_one]
  by_cases h : b < a
  · rw [if_pos h, if_pos h]
  · rw [if_neg h, if_neg h]
    dsimp only
    rw [mt_cls]

theorem str_one (x : UInt8) : strOfNums [(x.toNat : Int)] = ofL [x] := by
  unfold strOfNums
  simp [ofL]

theorem GlobClasses : graftbedlaw15_GlobClasses.Pure := by
  intro x y z wx wy wz
  have num : ∀ v : Int, (Lit.int .u8 v).wf = true → ∃ a : UInt8, v = (a.toNat : Int) := fun v h => by
    have h1 : (0 : Int) ≤ v := ((Lit.wf_int_iff .u8 v).1 h).1
    have h2 : v ≤ 255 := ((Lit.wf_int_iff .u8 v).1 h).2
    exact ⟨UInt8.ofNat v.toNat, by rw [UInt8.toNat_ofNat']; omega⟩
  obtain ⟨a, rfl⟩ := num x wx
  obtain ⟨b, rfl⟩ := num y wy
  obtain ⟨c, rfl⟩ := num z wz
  clear num wx wy wz
  have hA := size_ofL [a]
  have hB := size_ofL [b]
  have hC := size_ofL [c]
  simp only [List.length_cons, List.length_nil, Nat.zero_add] at hA hB hC
  have e1 : ((((⟨#[91, 92]⟩ : ByteArray) ++ ofL [a]) ++ (⟨#[45, 92]⟩ : ByteArray)) ++ ofL [b]) ++ (⟨#[93]⟩ : ByteArray) = ofL (91 :: rangeL a b) := L_inj (by
    simp only [L_append, L_ofL]; rfl)
  have z1 : (ofL (91 :: rangeL a b)).size = 7 := size_ofL _
  have e2 : (⟨#[91, 94]⟩ : ByteArray) ++ (ofL (91 :: rangeL a b)).extract 1 (ofL (91 :: rangeL a b)).size = ofL (91 :: 94 :: rangeL a b) := L_inj (by
    rw [L_append, L_tail, L_ofL, L_ofL]; rfl)
  have z2 : (ofL (91 :: 94 :: rangeL a b)).size = 8 := size_ofL _
  have m1 := match_one false a b c
  have m2 := match_one true a b c
  rw [if_neg (by decide)] at m1
  rw [if_pos rfl] at m2
  obtain ⟨r, K, hK⟩ := ref_match (ofL (91 :: rangeL a b)) (ofL [c]) (by omega) (by omega)
  have hm : checkF (L (ofL (91 :: rangeL a b))) = if b < a then 150 else 0 := by
    have hp := patt_one false a b
    rw [if_neg (by decide)] at hp
    unfold checkF
    rw [L_ofL, hp]
    by_cases h : b < a
    · rw [if_pos h, if_pos h]
    · rw [if_neg h, if_neg h]
  rw [hm] at hK
  have hk := hK (K + 1) (by omega)
  dsimp only at hk
  have l2 : ∀ x y : UInt8, (⟨#[x, y]⟩ : ByteArray).size = 2 := fun _ _ => rfl
  have f1 : glob_Match.f (ofL (91 :: rangeL a b)) (ofL [c]) = some (if b < a then (false, 150) else (c != 47 && (rangeT a b c.toNat != false), 0)) := by
    unfold glob_Match.f
    rw [if_pos ⟨by omega, by omega⟩, L_ofL, L_ofL, m1]
  have f2 : glob_Match.f (ofL (91 :: 94 :: rangeL a b)) (ofL [c]) = some (if b < a then (false, 150) else (c != 47 && (rangeT a b c.toNat != true), 0)) := by
    unfold glob_Match.f
    rw [if_pos ⟨by omega, by omega⟩, L_ofL, L_ofL, m2]
  refine ⟨K + 1, ?_⟩
  unfold graftbedlaw15_GlobClasses.f
  simp only [Option.bind_some]
  rw [str_one, str_one, str_one, e1, e2, f1, f2, hk]
  simp only [size_append, l2, hA, hB, z1, Option.bind_some]
  rw [if_pos (by omega), if_pos (by omega), if_pos (by omega), if_pos (by omega), if_pos (by omega), if_pos (by rw [ByteArray.size_extract]; omega)]
  have hpl : glob_Plain.f (⟨#[97]⟩ : ByteArray) = some true := by unfold glob_Plain.f; rw [if_pos rfl]
  have h47 : ((c.toNat : Int) != 47) = (c != 47) := by
    by_cases h : c = 47
    · subst h; rfl
    · rw [show (c != 47) = true from by rw [bne_iff_ne]; exact h, bne_iff_ne]
      intro e
      exact h (UInt8.toNat_inj.1 (by show c.toNat = 47; omega))
  by_cases hlt : b < a
  · have hle : ¬ ((a.toNat : Int) ≤ (b.toNat : Int)) := by have := UInt8.lt_iff_toNat_lt.1 hlt; omega
    rw [if_pos hlt, if_pos hlt, if_pos hlt]
    dsimp only
    rw [if_pos rfl, decide_eq_false hle, if_neg (by decide)]
    rw [graftbedlaw15_GlobClasses.j0]
    rw [if_neg (by decide), if_neg (by decide), if_neg (by decide), if_neg (by decide), hpl]; rfl
  · have hle : (a.toNat : Int) ≤ (b.toNat : Int) := by
      have : ¬ b.toNat < a.toNat := fun e => hlt (UInt8.lt_iff_toNat_lt.2 e)
      omega
    rw [if_neg hlt, if_neg hlt, if_neg hlt]
    dsimp only
    rw [if_pos rfl, decide_eq_true hle, if_neg (by decide)]
    rw [graftbedlaw15_GlobClasses.j0]
    rw [if_neg (by decide), if_pos rfl, h47]
    have hR : rangeT a b c.toNat = (decide (a.toNat ≤ c.toNat) && decide (c.toNat ≤ b.toNat)) := by unfold rangeT setR; simp
    rw [hR]
    by_cases h1 : (a.toNat : Int) ≤ (c.toNat : Int)
    · rw [if_pos h1, decide_eq_true (show a.toNat ≤ c.toNat by omega)]
      by_cases h2 : (c.toNat : Int) ≤ (b.toNat : Int)
      · rw [if_pos h2, decide_eq_true (show c.toNat ≤ b.toNat by omega)]
        cases c != 47 <;> rfl
      · rw [if_neg h2, decide_eq_false (show ¬ c.toNat ≤ b.toNat by omega)]
        cases c != 47 <;> rfl
    · rw [if_neg h1, decide_eq_false (show ¬ a.toNat ≤ c.toNat by omega)]
      cases c != 47 <;> rfl

end Go.Proofs.Ytjcopbgbmokfmaa.Pure
