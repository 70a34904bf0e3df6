/- GlobSlashes, as a statement over numbers and lists: a pattern without a slash, and without a backslash, matches no text with a slash. No condition but the machine's own. -/
import Derived.Test.YtjcopbgbmokfmaaPAllx1
import Derived.Test.YtjcopbgbmokfmaaPAllx10
import Derived.Test.YtjcopbgbmokfmaaPAllx12
import Derived.Test.YtjcopbgbmokfmaaPureGlobAns
namespace Go.Proofs.Ytjcopbgbmokfmaa.Pure
open Go.RowKit Go.Proofs.Ytjcopbgbmokfmaa.PAll Go.Proofs.YtjcopbgbmokfmaaW.PrintWords Go.Proofs.YtjcopbgbmokfmaaW.PrintLast
open Go.Proofs.Ytjcopbgbmokfmaa.BytesLib Go.Proofs.Ytjcopbgbmokfmaa.GlobLib Go.Proofs.Ytjcopbgbmokfmaa.GlobNext Go.Proofs.Ytjcopbgbmokfmaa.GlobClass Go.Proofs.Ytjcopbgbmokfmaa.GlobPieces Go.Proofs.Ytjcopbgbmokfmaa.GlobMain
set_option linter.unusedVariables false

theorem no_slash : ∀ (l : List Pc) (s : List UInt8), (∀ p ∈ l, p ≠ .byte 47) → mt l s = true → (47 : UInt8) ∉ s
  | [], s, _, h => by
    rw [mt_nil] at h
    cases s with
    | nil => exact List.not_mem_nil
    | cons c s => cases h
  | p :: l, s, hp, h => by
    have ih := fun s h => no_slash l s (fun p hm => hp p (List.mem_cons_of_mem _ hm)) h
    have h47 := hp p List.mem_cons_self
    cases hs : p.isStar with
    | true =>
      obtain rfl : p = .star := by cases p <;> first | rfl | cases hs
      obtain ⟨j, _, h2, h3⟩ := (mt_star_iff l s).1 h
      intro hm
      rw [← List.take_append_drop j s] at hm
      rcases List.mem_append.1 hm with hm | hm
      · exact h2 hm
      · exact ih _ h3 hm
    | false =>
      cases s with
      | nil => exact List.not_mem_nil
      | cons c s =>
        rw [mt_one hs, Bool.and_eq_true] at h
        intro hm
        rcases List.mem_cons.1 hm with e | hm
        · subst e
          have h1 := h.1
          cases p with
          | star => cases hs
          | any => exact absurd h1 (by simp [Pc.ok])
          | byte b => exact h47 (by have : (47 : UInt8) = b := by simpa [Pc.ok] using h1
                                    rw [this])
          | cls t n => exact absurd h1 (by simp [Pc.ok])
        · exact ih s h.2 hm

theorem first_byte {l : List UInt8} {p : Pc} {r : List UInt8} (h : first l = some (p, r)) (h47 : (47 : UInt8) ∉ l) : p ≠ .byte 47 := by
  cases l with
  | nil => cases h
  | cons x l =>
    have h : (if x = 42 then some (Pc.star, l) else if x = 63 then some (.any, l) else if x = 91 then classL l else match nextB [] (x :: l) with | none => none | some (b, r') => some (.byte b, r')) = some (p, r) := h
    by_cases h1 : x = 42
    · rw [if_pos h1] at h; cases h; exact fun e => by cases e
    · rw [if_neg h1] at h
      by_cases h2 : x = 63
      · rw [if_pos h2] at h; cases h; exact fun e => by cases e
      · rw [if_neg h2] at h
        by_cases h3 : x = 91
        · rw [if_pos h3] at h
          unfold classL at h
          split at h
          · cases h
          · cases h; exact fun e => by cases e
        · rw [if_neg h3] at h
          cases hx : nextB [] (x :: l) with
          | none => rw [hx] at h; cases h
          | some q =>
            obtain ⟨b, r'⟩ := q
            rw [hx] at h
            cases h
            have := nextB_mem hx
            intro e
            cases e
            exact h47 this
theorem pcs_byte : ∀ (n : Nat) (l : List UInt8) {ps : List Pc}, pcs n l = some ps → (47 : UInt8) ∉ l → ∀ p ∈ ps, p ≠ .byte 47
  | 0, _, _, h, _ => by cases h
  | n + 1, l, ps, h, h47 => by
    rw [pcs] at h
    by_cases h0 : l = []
    · rw [if_pos h0] at h; cases h; intro p hp; cases hp
    · rw [if_neg h0] at h
      cases hf : first l with
      | none => rw [hf] at h; cases h
      | some q =>
        obtain ⟨p, r⟩ := q
        rw [hf] at h
        obtain ⟨u, hu⟩ := first_drop hf
        obtain ⟨ps', h1, h2⟩ := Option.map_eq_some_iff.1 h
        subst h2
        intro p' hp'
        rcases List.mem_cons.1 hp' with rfl | hp'
        · exact first_byte hf h47
        · exact pcs_byte n r h1 (fun e => h47 (by rw [hu]; exact List.mem_append_right _ e)) p' hp'

theorem plain_a : glob_Plain.f (⟨#[97]⟩ : ByteArray) = some true := by unfold glob_Plain.f; rw [if_pos rfl]
theorem bt_is47 {s : ByteArray} {i : Nat} (h : i < s.size) (c : UInt8) : bt s (i : Int) = (c.toNat : Int) ↔ (L s)[i]'(by rw [L_length]; exact h) = c := by
  rw [bt_nat (by rw [L_length]; exact h)]
  constructor
  · intro e; exact UInt8.toNat_inj.1 (by omega)
  · intro e; rw [e]

theorem slash_l1 (s : ByteArray) (hs : s.size ≤ 128) (is : Bool) (h : is = true → (47 : UInt8) ∉ L s) : ∀ (d i : Nat), i + d = s.size → Ev (fun k => graftbedlaw15_GlobSlashes.l1 k s is (i : Int)) true
  | 0, i, hi => ⟨1, fun k hk => by
      dsimp only
      obtain ⟨k, rfl⟩ : ∃ k', k = k' + 1 := ⟨k - 1, by omega⟩
      rw [graftbedlaw15_GlobSlashes.l1, if_neg (by omega), plain_a]; rfl⟩
  | d + 1, i, hi => by
    obtain ⟨K, hK⟩ := slash_l1 s hs is h d (i + 1) (by omega)
    refine ⟨K + 1, fun k hk => ?_⟩
    dsimp only
    obtain ⟨k, rfl⟩ : ∃ k', k = k' + 1 := ⟨k - 1, by omega⟩
    have hk2 := hK k (by omega)
    dsimp only at hk2
    have hw : wrap64 ((i : Int) + 1) = ((i + 1 : Nat) : Int) := by unfold wrap64; omega
    rw [graftbedlaw15_GlobSlashes.l1, if_pos (by omega), if_pos (by omega), hw]
    by_cases h47 : bt s (i : Int) = 47
    · rw [if_pos h47]
      have hm : (47 : UInt8) ∈ L s := by
        have := (bt_is47 (s := s) (i := i) (by omega) 47).1 h47
        rw [← this]; exact List.getElem_mem _
      by_cases his : is = true
      · exact absurd hm (h his)
      · rw [if_neg his]; exact hk2
    · rw [if_neg h47]; exact hk2

theorem slash_l0 (p s : ByteArray) (hp : p.size ≤ 128) (hs : s.size ≤ 128) (is : Bool) (h : (47 : UInt8) ∉ L p → is = true → (47 : UInt8) ∉ L s) : ∀ (d i : Nat), i + d = p.size → (47 : UInt8) ∉ (L p).take i → Ev (fun k => graftbedlaw15_GlobSlashes.l0 k p s is (i : Int)) true
  | 0, i, hi, ht => by
    obtain ⟨K, hK⟩ := slash_l1 s hs is (h (by rwa [List.take_of_length_le (by rw [L_length]; omega)] at ht)) s.size 0 (by omega)
    refine ⟨K + 1, fun k hk => ?_⟩
    dsimp only
    obtain ⟨k, rfl⟩ : ∃ k', k = k' + 1 := ⟨k - 1, by omega⟩
    rw [graftbedlaw15_GlobSlashes.l0, if_neg (by omega)]
    exact hK k (by omega)
  | d + 1, i, hi, ht => by
    have hw : wrap64 ((i : Int) + 1) = ((i + 1 : Nat) : Int) := by unfold wrap64; omega
    by_cases h47 : bt p (i : Int) = 47
    · refine ⟨1, fun k hk => ?_⟩
      dsimp only
      obtain ⟨k, rfl⟩ : ∃ k', k = k' + 1 := ⟨k - 1, by omega⟩
      rw [graftbedlaw15_GlobSlashes.l0, if_pos (by omega), if_pos (by omega), if_pos h47, plain_a]; rfl
    · by_cases h92 : bt p (i : Int) = 92
      · refine ⟨1, fun k hk => ?_⟩
        dsimp only
        obtain ⟨k, rfl⟩ : ∃ k', k = k' + 1 := ⟨k - 1, by omega⟩
        rw [graftbedlaw15_GlobSlashes.l0, if_pos (by omega), if_pos (by omega), if_neg h47, if_pos h92, plain_a]; rfl
      · obtain ⟨K, hK⟩ := slash_l0 p s hp hs is h d (i + 1) (by omega) (by
          rw [List.take_succ_eq_append_getElem (by rw [L_length]; omega)]
          intro e
          rcases List.mem_append.1 e with e | e
          · exact ht e
          · exact h47 ((bt_is47 (s := p) (i := i) (by omega) 47).2 (List.mem_singleton.1 e).symm))
        refine ⟨K + 1, fun k hk => ?_⟩
        dsimp only
        obtain ⟨k, rfl⟩ : ∃ k', k = k' + 1 := ⟨k - 1, by omega⟩
        rw [graftbedlaw15_GlobSlashes.l0, if_pos (by omega), if_pos (by omega), if_neg h47, if_neg h92, hw]
        exact hK k (by omega)

theorem GlobSlashes : graftbedlaw15_GlobSlashes.Pure := by
  intro p s hp hs
  by_cases hbig : p.size > 128 ∨ s.size > 128
  · refine ⟨1, ?_⟩
    have hT : graftbedlaw15_GlobSlashes.j0 1 p s true = some true := by
      rw [graftbedlaw15_GlobSlashes.j0, if_pos rfl]
    unfold graftbedlaw15_GlobSlashes.f
    rw [hT]
    split
    · rfl
    · rw [decide_eq_true (by omega)]; exact hT
  · obtain ⟨b, K1, h1⟩ := ref_match p s (by omega) (by omega)
    have hm : (matchF (L p) (L s)).2 = checkF (L p) := by unfold matchF checkF; cases patt (L p) <;> rfl
    have hno : (47 : UInt8) ∉ L p → (matchF (L p) (L s)).1 = true → (47 : UInt8) ∉ L s := by
      intro h47 ht
      unfold matchF at ht
      cases hq : patt (L p) with
      | none => rw [hq] at ht; cases ht
      | some l => rw [hq] at ht; exact no_slash l (L s) (pcs_byte _ _ hq h47) ht
    obtain ⟨K2, h2⟩ := slash_l0 p s (by omega) (by omega) (matchF (L p) (L s)).1 hno p.size 0 (by omega) (by simp)
    refine ⟨max K1 K2 + 1, ?_⟩
    unfold graftbedlaw15_GlobSlashes.f
    rw [if_neg (by omega), decide_eq_false (by omega), graftbedlaw15_GlobSlashes.j0, if_neg (by decide)]
    unfold glob_Match.f
    have g1 := h1 (max K1 K2) (by omega)
    dsimp only at g1
    have g2 := h2 (max K1 K2) (by omega)
    dsimp only at g2
    rw [if_pos ⟨by omega, hs⟩, Option.bind_some, g1, Option.bind_some, if_pos hm]
    exact g2

end Go.Proofs.Ytjcopbgbmokfmaa.Pure
