/- SemverFits, as a statement over numbers and lists: which major version a path takes, and whether a version fits to it, is the reference's. No condition but the machine's own. -/
import Derived.Test.YtaddonafdllciaaDoorMpa
import Derived.Test.YtaddonafdllciaaDoorMpb
import Derived.Test.YtaddonafdllciaaDoorPureSemDigits
import Derived.DataShut
import Derived.Test.YtaddonafdllciaaDoorPureSemRef
namespace Go.Proofs.YtaddonafdllciaaDoor.Pure
open Go.RowKit Go.Proofs.YtaddonafdllciaaDoor.PAll Go.Proofs.YtaddonafdllciaaDoorW.PrintWords Go.Proofs.YtaddonafdllciaaDoorW.PrintLast
open Go.Proofs.YtaddonafdllciaaDoor.BytesLib Go.Proofs.YtaddonafdllciaaDoor.SemParts Go.Proofs.YtaddonafdllciaaDoor.SemNum Go.Proofs.YtaddonafdllciaaDoor.SemParse Go.Proofs.YtaddonafdllciaaDoor.SemOrder Go.Proofs.YtaddonafdllciaaDoor.SemSplit Go.Proofs.YtaddonafdllciaaDoor.SemCmp Go.Proofs.YtaddonafdllciaaDoor.SemList
set_option linter.unusedVariables false
set_option linter.unusedSimpArgs false

/-! ### the last element -/
theorem last_loop (c : UInt8) (s : ByteArray) (hs : s.size ≤ 1099511627776) : ∀ (i k : Nat), i ≤ s.size → (∀ j, i ≤ j → j < s.size → (L s)[j]? ≠ some c) →
    (∃ o : Nat, bytealg_LastIndexByteString.l0 (k + i + 1) s (c.toNat : Int) ((i : Int) - 1) = some (o : Int) ∧ ∃ h : o < (L s).length, (L s)[o] = c ∧ ∀ j, o < j → j < s.size → (L s)[j]? ≠ some c) ∨
    (bytealg_LastIndexByteString.l0 (k + i + 1) s (c.toNat : Int) ((i : Int) - 1) = some (-1) ∧ c ∉ L s)
  | 0, k, _, h => by
    right
    simp only [bytealg_LastIndexByteString.l0]
    refine ⟨by rw [if_neg (by omega)], fun hm => ?_⟩
    obtain ⟨j, hj, e⟩ := List.mem_iff_getElem.1 hm
    exact h j (Nat.zero_le _) (by rw [← L_length]; exact hj) (by rw [List.getElem?_eq_some_iff]; exact ⟨hj, e⟩)
  | i + 1, k, hi, h => by
    have hlt : i < (L s).length := by rw [L_length]; omega
    have e0 : ((i + 1 : Nat) : Int) - 1 = (i : Int) := by omega
    by_cases hc : (L s)[i] = c
    · left
      refine ⟨i, ?_, hlt, hc, fun j hj hj2 => h j (by omega) hj2⟩
      rw [e0, show k + (i + 1) + 1 = (k + i + 1) + 1 from by omega]
      simp only [bytealg_LastIndexByteString.l0]
      rw [if_pos (by omega), if_pos (by omega), if_pos (by omega), if_pos ((bt_ne hlt c).2 hc)]
    · have ih := last_loop c s hs i k (by omega) (fun j hj hj2 => by
        by_cases e : j = i
        · subst e
          rw [List.getElem?_eq_getElem hlt]
          exact fun e => hc (Option.some.inj e)
        · exact h j (by omega) hj2)
      have step : bytealg_LastIndexByteString.l0 (k + (i + 1) + 1) s (c.toNat : Int) (((i + 1 : Nat) : Int) - 1) = bytealg_LastIndexByteString.l0 (k + i + 1) s (c.toNat : Int) ((i : Int) - 1) := by
        rw [e0, show k + (i + 1) + 1 = (k + i + 1) + 1 from by omega]
        generalize k + i + 1 = q
        conv => lhs; simp only [bytealg_LastIndexByteString.l0]
        rw [if_pos (by omega), if_pos (by omega), if_pos (by omega), if_neg (fun e => hc ((bt_ne hlt c).1 e)), w64 (by omega) (by omega)]
      rw [step]
      exact ih


theorem split_last {l p q : List UInt8} (h : l = p ++ 47 :: q) (hq : 47 ∉ q) : (splitL 47 l).getLast? = some q := by
  rw [h, splitL_join, splitL_none hq, List.getLast?_append]
  rfl

theorem prog_head (t : ByteArray) (c : UInt8) : strings_CutPrefix.f t ⟨#[c]⟩ = some (if (L t).head? = some c then t.extract 1 t.size else t, decide ((L t).head? = some c)) := by
  unfold strings_CutPrefix.f stringslite_CutPrefix.f stringslite_HasPrefix.f
  have e1 : ((⟨#[c]⟩ : ByteArray).size : Int) = 1 := rfl
  have e2 : ((⟨#[c]⟩ : ByteArray)).toList = [c] := (toList_L _).trans rfl
  rw [e1, e2]
  have hl := L_length t
  by_cases h : (t.size : Int) ≥ 1
  · have e3 : ((t.extract 0 (1 : Int).toNat).toList == [c]) = decide ((L t).head? = some c) := by
      rw [toList_L, L_head, show (1 : Int).toNat = 1 from rfl]
      cases hL : L t with
      | nil => rw [hL] at hl; simp at hl; omega
      | cons x l => simp; rfl
    rw [if_pos h, if_pos (by omega), if_pos (by omega), e3]
    by_cases hh : (L t).head? = some c
    · rw [decide_eq_true hh, if_pos hh]; simp only [Option.bind_some, if_true]; rw [if_pos (by omega), if_pos (by omega)]; rfl
    · rw [decide_eq_false hh, if_neg hh]; rfl
  · have hh : ¬ (L t).head? = some c := by
      intro hh
      cases hL : L t with
      | nil => rw [hL] at hh; cases hh
      | cons x l => rw [hL] at hl; simp at hl; omega
    rw [if_neg h]
    simp [hh]
theorem prog_prefix (t : ByteArray) (c : UInt8) : strings_HasPrefix.f t ⟨#[c]⟩ = some (decide ((L t).head? = some c)) := by
  unfold strings_HasPrefix.f stringslite_HasPrefix.f
  have e1 : ((⟨#[c]⟩ : ByteArray).size : Int) = 1 := rfl
  have e2 : ((⟨#[c]⟩ : ByteArray)).toList = [c] := (toList_L _).trans rfl
  rw [e1, e2]
  have hl := L_length t
  by_cases h : (t.size : Int) ≥ 1
  · have e3 : ((t.extract 0 (1 : Int).toNat).toList == [c]) = decide ((L t).head? = some c) := by
      rw [toList_L, L_head, show (1 : Int).toNat = 1 from rfl]
      cases hL : L t with
      | nil => rw [hL] at hl; simp at hl; omega
      | cons x l => simp; rfl
    rw [if_pos h, if_pos (by omega), if_pos (by omega), e3]; rfl
  · have hh : ¬ (L t).head? = some c := by
      intro hh
      cases hL : L t with
      | nil => rw [hL] at hh; cases hh
      | cons x l => rw [hL] at hl; simp at hl; omega
    rw [if_neg h, decide_eq_false hh]; rfl

/-- What a last element tells. -/
def lastF (q : List UInt8) : Int := match q with
  | 118 :: t => if numB (ofL t) = true ∧ 2 ≤ (numF (ofL t)).1 then (numF (ofL t)).1 else 0
  | _ => 0
theorem lastF_no {q : List UInt8} (h : q.head? ≠ some 118) : lastF q = 0 := by
  unfold lastF
  split
  · exact absurd rfl h
  · rfl

theorem prog_major (p : ByteArray) (hp : p.size ≤ 1000000) (k : Nat) (hk : p.size + 2 ≤ k) : semver_Major.f k p = some (if 47 ∈ L p then lastF (((splitL 47 (L p)).getLast?).getD []) else 0) := by
  unfold semver_Major.f paths_Split.f strings_LastIndexByte.f bytealg_LastIndexByteString.f
  rw [w64 (x := (p.size : Int) - 1) (by omega) (by omega)]
  have hL := last_loop 47 p (by omega) p.size (k - p.size - 1) (Nat.le_refl _) (fun j h1 h2 => by omega)
  rw [show k - p.size - 1 + p.size + 1 = k from by omega] at hL
  rcases hL with ⟨o, h1, h2, h3, h4⟩ | ⟨h1, h2⟩
  · have hos : o < p.size := by rw [← L_length]; exact h2
    have hsp : L p = (L p).take o ++ 47 :: (L p).drop (o + 1) := by
      conv => lhs; rw [← List.take_append_drop o (L p), List.drop_eq_getElem_cons h2, h3]
    have hq : 47 ∉ (L p).drop (o + 1) := by
      intro hm
      obtain ⟨j, hj, e⟩ := List.mem_iff_getElem.1 hm
      rw [List.length_drop, L_length] at hj
      rw [List.getElem_drop] at e
      exact h4 (o + 1 + j) (by omega) (by omega) (by rw [List.getElem?_eq_some_iff]; exact ⟨by rw [L_length]; omega, e⟩)
    have hm : 47 ∈ L p := by rw [hsp]; simp
    rw [show bytealg_LastIndexByteString.l0 k p 47 ((p.size : Int) - 1) = some (o : Int) from h1, Option.bind_some, Option.bind_some, if_pos (by omega), if_pos (by omega), if_pos (by omega), w64 (by omega) (by omega), if_pos (by omega), if_pos (by omega), Option.bind_some, if_pos hm, split_last hsp hq]
    simp only [Int.toNat_natCast]
    rw [show ((o : Int) + 1).toNat = o + 1 from rfl]
    have hl : L (p.extract (o + 1) p.size) = (L p).drop (o + 1) := L_tail _ _
    have hls : (p.extract (o + 1) p.size).size ≤ p.size := by rw [ByteArray.size_extract]; omega
    generalize p.extract (o + 1) p.size = t at hl hls ⊢
    rw [prog_head t 118, Option.bind_some]
    unfold semver_number.f
    dsimp only
    rw [if_pos (by split <;> first | (rw [ByteArray.size_extract]; omega) | omega), Option.bind_some]
    show _ = some (lastF ((L p).drop (o + 1)))
    rw [← hl]
    by_cases hh : (L t).head? = some 118
    · rw [if_pos hh, decide_eq_true hh, if_pos rfl]
      obtain ⟨u, hu⟩ : ∃ u, L t = 118 :: u := by
        cases h : L t with
        | nil => rw [h] at hh; cases hh
        | cons x u => rw [h] at hh; obtain rfl := Option.some.inj hh; exact ⟨u, rfl⟩
      have hx : t.extract 1 t.size = ofL u := L_inj (by rw [L_tail, hu, L_ofL]; rfl)
      rw [hx, hu, numF_snd]
      show _ = some (if numB (ofL u) = true ∧ 2 ≤ (numF (ofL u)).1 then (numF (ofL u)).1 else 0)
      cases hn : numB (ofL u) with
      | false => rw [if_neg (by decide), if_neg (fun h => by cases h.1)]
      | true =>
        rw [if_pos rfl]
        by_cases h2n : (numF (ofL u)).1 < 2
        · rw [if_pos h2n, if_neg (fun h => by omega)]
        · have hge : true = true ∧ 2 ≤ (numF (ofL u)).1 := ⟨rfl, by omega⟩
          rw [if_neg h2n, if_pos hge]
          by_cases hd : (p.extract 0 o).toList = []
          · rw [if_pos hd, prog_prefix p 47, Option.bind_some]
            have h0 : o = 0 := by
              rw [toList_L, L_head] at hd
              have := congrArg List.length hd
              rw [List.length_take, L_length, List.length_nil] at this
              omega
            subst h0
            have : (L p).head? = some 47 := by rw [hsp]; rfl
            rw [decide_eq_true this, if_pos rfl]
          · rw [if_neg hd]
    · rw [if_neg hh, decide_eq_false hh, if_neg (by decide), lastF_no hh]
  · rw [show bytealg_LastIndexByteString.l0 k p 47 ((p.size : Int) - 1) = some (-1) from h1, Option.bind_some, Option.bind_some, if_neg (by omega), Option.bind_some, if_neg h2, prog_head p 118, Option.bind_some]
    unfold semver_number.f
    dsimp only
    rw [if_pos (by split <;> first | (rw [ByteArray.size_extract]; omega) | omega), Option.bind_some]
    have hnp : ¬ (L p).head? = some 47 := by
      intro h
      cases hl : L p with
      | nil => rw [hl] at h; cases h
      | cons x u => rw [hl] at h h2; obtain rfl := Option.some.inj h; exact h2 List.mem_cons_self
    rw [prog_prefix p 47, decide_eq_false hnp, if_pos (toList_nil.2 rfl)]
    simp only [Option.bind_some]
    repeat' first | rfl | split

/-- The major version that a path takes. -/
def majF (p : ByteArray) : Int := if 47 ∈ L p then lastF (((splitL 47 (L p)).getLast?).getD []) else 0

theorem ref_elems_loop (s : ByteArray) (hs : s.size ≤ 1099511627776) (d : Nat) : ∀ (i m k : Nat) (acc : List ByteArray), m ≤ i → i ≤ s.size → s.size - i = d → acc.length ≤ i →
    (∀ j, m ≤ j → j < i → (L s)[j]? ≠ some 47) →
    graftbedref01_Elems.l0 (k + d + 2) s acc (m : Int) (i : Int) = some (acc ++ (splitL 47 ((L s).drop m)).map ofL) := by
  induction d with
  | zero =>
    intro i m k acc h1 h2 h3 h4 h5
    obtain rfl : i = s.size := by omega
    have hn : 47 ∉ (L s).drop m := by
      have := not_mem_take h5
      rwa [List.take_of_length_le (by rw [List.length_drop, L_length]; exact Nat.le_refl _)] at this
    rw [splitL_none hn]
    simp only [graftbedref01_Elems.l0]
    rw [if_pos (by omega), if_pos trivial, if_pos (by omega), if_pos (by omega), if_pos (by omega), w64 (by omega) (by omega), if_neg (by omega), Int.toNat_natCast, Int.toNat_natCast, tail_ofL]
    rfl
  | succ d ih =>
    intro i m k acc h1 h2 h3 h4 h5
    have hlt : i < (L s).length := by rw [L_length]; omega
    have hb : bt s (i : Int) = 47 ↔ (L s)[i] = 47 := bt_ne (s := s) hlt 47
    rw [show k + (d + 1) + 2 = (k + d + 2) + 1 from by omega]
    simp only [graftbedref01_Elems.l0]
    rw [if_pos (by omega), if_neg (by omega), if_pos (by omega), if_pos (by omega)]
    by_cases hc : (L s)[i] = 47
    · have hn := not_mem_take h5
      have hsp : (L s).drop m = ((L s).drop m).take (i - m) ++ 47 :: (L s).drop (i + 1) := by
        conv => lhs; rw [← List.take_append_drop (i - m) ((L s).drop m), List.drop_drop, show m + (i - m) = i from by omega, List.drop_eq_getElem_cons hlt, hc]
      rw [if_pos (hb.2 hc), if_pos (by omega), if_pos (by omega), if_pos (by omega), w64 (by omega) (by omega), Int.toNat_natCast, Int.toNat_natCast]
      have := ih (i + 1) (i + 1) k (acc ++ [s.extract m i]) (Nat.le_refl _) (by omega) (by omega) (by simp; omega) (fun j hj hj2 => by omega)
      rw [hsp, splitL_at _ hn, List.map_cons]
      rw [List.append_assoc] at this
      rw [cut_ofL] at this ⊢
      exact this
    · rw [if_neg (fun e => hc (hb.1 e)), w64 (by omega) (by omega)]
      exact ih (i + 1) m k acc (by omega) (by omega) (by omega) (by omega) (fun j hj hj2 => by
        by_cases e : j = i
        · subst e
          rw [List.getElem?_eq_getElem hlt]
          exact fun e => hc (Option.some.inj e)
        · exact h5 j hj (by omega))
theorem ref_elems (s : ByteArray) (hs : s.size ≤ 1099511627776) (k : Nat) (hk : s.size + 1 < k) : graftbedref01_Elems.f k s = some (if L s = [] then [] else (splitL 47 (L s)).map ofL) := by
  unfold graftbedref01_Elems.f
  rw [Option.bind_some, toList_L]
  by_cases h : L s = []
  · rw [if_pos h, if_pos h]
  · rw [if_neg h, if_neg h]
    have := ref_elems_loop s hs s.size 0 0 (k - s.size - 2) [] (Nat.le_refl _) (by omega) (by omega) (by simp) (fun j _ hj => by omega)
    rw [show k - s.size - 2 + s.size + 2 = k from by omega, List.drop_zero, List.nil_append] at this
    exact this

theorem mem_split {c : UInt8} : ∀ {l : List UInt8}, c ∈ l → ∃ p q, l = p ++ c :: q ∧ c ∉ q
  | [], h => by cases h
  | x :: l, h => by
    by_cases hl : c ∈ l
    · obtain ⟨p, q, e, hq⟩ := mem_split hl
      exact ⟨x :: p, q, by rw [e]; rfl, hq⟩
    · rcases List.mem_cons.1 h with h1 | h1
      · exact ⟨[], l, by rw [h1]; rfl, hl⟩
      · exact absurd h1 hl

theorem number_of (q : List UInt8) (hq : q.length ≤ 1000000) (k : Nat) (hk : q.length + 40 ≤ k) :
    graftbedref03_Number.f k (ofL q) = some (if numB (ofL q) = true then (numF (ofL q)).1 else -1) :=
  ref_number (ofL q) (by rw [size_ofL]; exact hq) k (by rw [size_ofL]; exact hk)

theorem ref_major (p : ByteArray) (hp : p.size ≤ 1000000) (k : Nat) (hk : p.size + 100 ≤ k) : graftbedref03_Major.f k p = some (majF p) := by
  unfold graftbedref03_Major.f majF
  rw [ref_elems p (by omega) k (by omega), Option.bind_some]
  by_cases hm : 47 ∈ L p
  · obtain ⟨a, q, e, hq⟩ := mem_split hm
    have hne : L p ≠ [] := fun h => by rw [h] at hm; cases hm
    have hlq : q.length ≤ p.size := by rw [← L_length, e]; simp; omega
    rw [if_neg hne, if_pos hm, split_last e hq]
    have hs : splitL 47 (L p) = splitL 47 a ++ [q] := by rw [e, splitL_join, splitL_none hq]
    have hlen : ((splitL 47 (L p)).map ofL).length = (splitL 47 a).length + 1 := by rw [hs]; simp
    have hpos : 1 ≤ (splitL 47 a).length := by
      cases h : splitL 47 a with
      | nil => exact absurd h (splitL_ne 47 a)
      | cons x y => simp
    have hcount : (splitL 47 a).length + 1 ≤ 1000002 := by
      have h1 : ∀ l : List UInt8, (splitL 47 l).length ≤ l.length + 1 := by
        intro l
        induction l with
        | nil => simp [splitL]
        | cons x l ih =>
          rw [splitL]
          split
          · simp; omega
          · split
            · simp
            · rename_i h; rw [h] at ih; simp at ih ⊢; omega
      have h2 := h1 a
      have h3 : a.length ≤ p.size := by rw [← L_length, e]; simp
      omega
    have hr : rdOf ByteArray.empty ((splitL 47 (L p)).map ofL) (((splitL 47 a).length : Nat) : Int) = ofL q := by
      rw [rdOf_get _ (by omega)]
      simp [hs]
    rw [hlen, if_neg (by omega), show (((splitL 47 a).length + 1 : Nat) : Int) - 1 = (((splitL 47 a).length : Nat) : Int) from by omega, w64 (by omega) (by omega), if_pos (by omega), if_pos (by omega), hr]
    show _ = some (lastF q)
    have hsz : (ofL q).size = q.length := size_ofL q
    by_cases h2 : q.length < 2
    · rw [if_pos (by omega)]
      have : lastF q = 0 := by
        match q, h2 with
        | [], _ => rfl
        | [x], _ =>
          by_cases hx : x = 118
          · subst hx
            show (if numB (ofL []) = true ∧ 2 ≤ (numF (ofL [])).1 then (numF (ofL [])).1 else 0) = 0
            have : numB (ofL []) = false := by decide
            rw [if_neg (fun h => by rw [this] at h; cases h.1)]
          · exact lastF_no (fun h => hx (Option.some.inj h))
      rw [this]
    · rw [if_neg (by omega), if_pos (by omega)]
      match q, h2 with
      | x :: t, h2 =>
        have hb : bt (ofL (x :: t)) 0 = 118 ↔ (L (ofL (x :: t)))[0]'(by rw [L_ofL]; simp) = 118 := bt_ne (s := ofL (x :: t)) (i := 0) (by rw [L_ofL]; simp) 118
        have hg : (L (ofL (x :: t)))[0]'(by rw [L_ofL]; simp) = x := by simp [L_ofL]
        rw [hg] at hb
        by_cases hx : x = 118
        · subst hx
          have hex : (ofL (118 :: t)).extract 1 (ofL (118 :: t)).size = ofL t := L_inj (by rw [L_tail, L_ofL, L_ofL]; rfl)
          rw [if_pos (hb.2 rfl), if_pos (by omega), hex, number_of t (by simp at hlq; omega) k (by simp at hlq; omega), Option.bind_some, Option.bind_some]
          show _ = some (if numB (ofL t) = true ∧ 2 ≤ (numF (ofL t)).1 then (numF (ofL t)).1 else 0)
          cases hn : numB (ofL t) with
          | false =>
            rw [if_neg (show ¬ (false = true) by decide), if_pos (show (-1 : Int) < 2 by decide), if_neg (fun h => by cases h.1)]
          | true =>
            rw [if_pos rfl]
            by_cases h2n : (numF (ofL t)).1 < 2
            · rw [if_pos h2n, if_neg (fun h => by omega)]
            · rw [if_neg h2n, if_pos ⟨rfl, by omega⟩]
        · rw [if_neg (fun h => hx (hb.1 h)), lastF_no (q := x :: t) (fun h => hx (Option.some.inj h))]
  · rw [if_neg hm]
    by_cases hne : L p = []
    · rw [if_pos hne]; rfl
    · rw [if_neg hne, splitL_none hm]; rfl
theorem prog_major' (p : ByteArray) (hp : p.size ≤ 1000000) (k : Nat) (hk : p.size + 2 ≤ k) : semver_Major.f k p = some (majF p) := prog_major p hp k hk
theorem majF_two (p : ByteArray) : majF p = 0 ∨ 2 ≤ majF p := by
  unfold majF
  split
  · unfold lastF
    split
    · split
      · rename_i h; exact .inr h.2
      · exact .inl rfl
    · exact .inl rfl
  · exact .inl rfl

def incF : List UInt8 := [105, 110, 99, 111, 109, 112, 97, 116, 105, 98, 108, 101]
/-- Does a version of such a number fit to such a major version? -/
def fitsV (m a : Int) (o : Bool) : Int := if (0 < m ∧ a = m ∧ o = false) ∨ (m = 0 ∧ a < 2 ∧ o = false) ∨ (m = 0 ∧ 2 ≤ a ∧ o = true) then 0 else 31
theorem fv0t (a : Int) : fitsV 0 a true = if 2 ≤ a then 0 else 31 := by
  unfold fitsV
  by_cases h : 2 ≤ a
  · rw [if_pos (.inr (.inr ⟨rfl, h, rfl⟩)), if_pos h]
  · rw [if_neg h, if_neg]
    rintro (⟨_, _, h1⟩ | ⟨_, _, h1⟩ | ⟨_, h1, _⟩)
    · cases h1
    · cases h1
    · exact h h1
theorem fv0f (a : Int) : fitsV 0 a false = if a < 2 then 0 else 31 := by
  unfold fitsV
  by_cases h : a < 2
  · rw [if_pos (.inr (.inl ⟨rfl, h, rfl⟩)), if_pos h]
  · rw [if_neg h, if_neg]
    rintro (⟨h1, _⟩ | ⟨_, h1, _⟩ | ⟨_, _, h1⟩)
    · omega
    · exact h h1
    · cases h1
theorem fvmt (m a : Int) (h2 : 2 ≤ m) : fitsV m a true = 31 := by
  unfold fitsV
  rw [if_neg]
  rintro (⟨_, _, h1⟩ | ⟨_, _, h1⟩ | ⟨h1, _⟩)
  · cases h1
  · cases h1
  · omega
theorem fvmf (m a : Int) (h2 : 2 ≤ m) : fitsV m a false = if a = m then 0 else 31 := by
  unfold fitsV
  by_cases h : a = m
  · rw [if_pos (.inl ⟨by omega, h, rfl⟩), if_pos h]
  · rw [if_neg h, if_neg]
    rintro (⟨_, h1, _⟩ | ⟨h1, _⟩ | ⟨h1, _⟩)
    · exact h h1
    · omega
    · omega
/-- Does a version fit? -/
def fitsF (p v : ByteArray) : Int := if (parseF v).2.2.2.2.2 = 0 then fitsV (majF p) (parseF v).1 ((parseF v).2.2.2.2.1.toList == incF) else 30

theorem prog_fits (p v : ByteArray) (hp : p.size ≤ 1000000) (hv : v.size ≤ 140737488351232) (k : Nat) (hk : p.size + 100 ≤ k) : semver_Fits.f k p v = some (fitsF p v) := by
  have hM := prog_major' p hp k (by omega)
  have m2 := majF_two p
  obtain ⟨k, rfl⟩ : ∃ k', k = k' + 1 := ⟨k - 1, by omega⟩
  have hq := parse_two v
  unfold semver_Fits.f semver_Parse.f fitsF incF
  rw [if_pos hv, Option.bind_some, hM]
  generalize majF p = m at m2 ⊢
  generalize parseF v = q at hq ⊢
  simp only [Option.bind_some, semver_Fits.j0]
  generalize (q.2.2.2.2.1.toList == ([105, 110, 99, 111, 109, 112, 97, 116, 105, 98, 108, 101] : List UInt8)) = o
  clear hM hk hp
  by_cases e : q.2.2.2.2.2 = 0
  · rw [if_pos e, if_pos e]
    rcases m2 with rfl | m2
    · by_cases h1 : q.1 > 1
      · rw [decide_eq_true h1]
        cases o
        · rw [fv0f]
          repeat' first | rfl | split
          all_goals (exfalso; first | omega | contradiction)
        · rw [fv0t]
          repeat' first | rfl | split
          all_goals (exfalso; first | omega | contradiction)
      · rw [decide_eq_false h1]
        cases o
        · rw [fv0f]
          repeat' first | rfl | split
          all_goals (exfalso; first | omega | contradiction)
        · rw [fv0t]
          repeat' first | rfl | split
          all_goals (exfalso; first | omega | contradiction)
    · cases o
      · rw [fvmf _ _ m2]
        repeat' first | rfl | split
        all_goals (exfalso; first | omega | contradiction)
      · rw [fvmt _ _ m2]
        repeat' first | rfl | split
        all_goals (exfalso; first | omega | contradiction)
  · rw [if_neg e, if_neg e]
    rw [hq.resolve_left e]

theorem ref_fits (p v : ByteArray) (hp : p.size ≤ 1000000) (hv : v.size ≤ 140737488351232) (k : Nat) (hk : p.size + 100 ≤ k) : graftbedref03_Fits.f k p v = some (fitsF p v) := by
  have hM := ref_major p hp k hk
  have m2 := majF_two p
  have hq := parse_two v
  unfold graftbedref03_Fits.f graftbedref03_Parse.f fitsF incF
  rw [if_pos hv, Option.bind_some, hM]
  generalize majF p = m at m2 ⊢
  generalize parseF v = q at hq ⊢
  simp only [Option.bind_some]
  clear hM hk hp
  by_cases e : q.2.2.2.2.2 = 0
  · rw [if_pos e, if_pos e]
    by_cases ho : q.2.2.2.2.1.toList = [105, 110, 99, 111, 109, 112, 97, 116, 105, 98, 108, 101]
    · rw [show (q.2.2.2.2.1.toList == ([105, 110, 99, 111, 109, 112, 97, 116, 105, 98, 108, 101] : List UInt8)) = true from beq_iff_eq.2 ho]
      simp only [if_pos ho]
      rcases m2 with rfl | m2
      · rw [fv0t]
        repeat' first | rfl | split
        all_goals (exfalso; first | omega | contradiction)
      · rw [fvmt _ _ m2]
        repeat' first | rfl | split
        all_goals (exfalso; first | omega | contradiction)
    · rw [show (q.2.2.2.2.1.toList == ([105, 110, 99, 111, 109, 112, 97, 116, 105, 98, 108, 101] : List UInt8)) = false from beq_eq_false_iff_ne.2 ho]
      simp only [if_neg ho]
      rcases m2 with rfl | m2
      · rw [fv0f]
        repeat' first | rfl | split
        all_goals (exfalso; first | omega | contradiction)
      · rw [fvmf _ _ m2]
        repeat' first | rfl | split
        all_goals (exfalso; first | omega | contradiction)
  · rw [if_neg e, if_neg e]
    rw [hq.resolve_left e]

/-- The path with one element more takes just its major version. -/
theorem majF_made (m : Nat) (h2 : 2 ≤ m) (hm : m < 1000000000) : majF ((⟨#[97, 46, 98, 47, 118]⟩ : ByteArray) ++ D m) = m := by
  have hl : L ((⟨#[97, 46, 98, 47, 118]⟩ : ByteArray) ++ D m) = [97, 46, 98] ++ 47 :: (118 :: dL m) := by
    rw [L_append, show L (D m) = dL m from L_ofL _]; rfl
  have hq : (47 : UInt8) ∉ (118 :: dL m) := by
    intro h
    rcases List.mem_cons.1 h with h | h
    · exact absurd h (by decide)
    · exact dL_no (by decide) h
  have hmem : (47 : UInt8) ∈ L ((⟨#[97, 46, 98, 47, 118]⟩ : ByteArray) ++ D m) := by rw [hl]; simp
  obtain ⟨n1, n2⟩ := D_num hm
  unfold majF
  rw [if_pos hmem, split_last hl hq]
  show (if numB (D m) = true ∧ 2 ≤ (numF (D m)).1 then (numF (D m)).1 else 0) = (m : Int)
  rw [n1, n2, if_pos ⟨rfl, by omega⟩]

theorem SemverFits : graftbedlaw03_SemverFits.Pure := by
  intro p v x hp hv wx
  by_cases hbig : p.size > 1024 ∨ v.size > 1024
  · refine ⟨1, ?_⟩
    have hT : graftbedlaw03_SemverFits.j0 1 p v x true = some true := by
      simp only [graftbedlaw03_SemverFits.j0]; rw [if_pos trivial]
    unfold graftbedlaw03_SemverFits.f
    rw [hT]
    split
    · rfl
    · rw [decide_eq_true (by omega)]; exact hT
  · have hsp : p.size ≤ 1024 := by omega
    have hsv : v.size ≤ 1024 := by omega
    obtain ⟨n, rfl, hn⟩ : ∃ n : Nat, x = n ∧ n < 256 := by
      have h1 : (0 : Int) ≤ x := ((Lit.wf_int_iff .u8 x).1 wx).1
      have h2 : x ≤ 255 := ((Lit.wf_int_iff .u8 x).1 wx).2
      exact ⟨x.toNat, by omega, by omega⟩
    clear wx
    have em : wrap64 (2 + wrap64 (n : Int)) = ((2 + n : Nat) : Int) := by
      rw [w64 (x := (n : Int)) (by omega) (by omega), w64 (by omega) (by omega)]; omega
    have hds : (D (2 + n)).size ≤ 6 := by rw [D_size]; exact dL_len 5 (2 + n) (by omega)
    have hM := majF_made (2 + n) (by omega) (by omega)
    obtain ⟨P, hP⟩ : ∃ P, ((⟨#[97, 46, 98, 47, 118]⟩ : ByteArray) ++ D (2 + n)) = P := ⟨_, rfl⟩
    have sP : P.size ≤ 11 := by rw [← hP, size_append, show (⟨#[97, 46, 98, 47, 118]⟩ : ByteArray).size = 5 from rfl]; omega
    rw [hP] at hM
    have f1 := prog_fits P v (by omega) hv 2000 (by omega)
    have f2 := prog_major' P (by omega) 2000 (by omega)
    have f3 := ref_Digits (2 + n) (by omega) 2000 (by omega)
    have hJ1 : graftbedlaw03_SemverFits.j1 (2000 + 1) v (n : Int) false = some true := by
      have h2 : 2 ≤ 2 + n := by omega
      generalize 2 + n = m at *
      simp only [graftbedlaw03_SemverFits.j1]
      rw [if_neg (by decide), em, f3, Option.bind_some, if_pos (by omega), hP, f1, f2, hM]
      unfold semver_Parse.f
      rw [if_pos (by omega)]
      simp only [Option.bind_some]
      have hf : fitsF P v = if (parseF v).2.2.2.2.2 = 0 then (if (parseF v).1 = (m : Int) ∧ ((parseF v).2.2.2.2.1.toList == incF) = false then 0 else 31) else 30 := by
        unfold fitsF
        rw [hM]
        by_cases e : (parseF v).2.2.2.2.2 = 0
        · rw [if_pos e, if_pos e]
          cases (parseF v).2.2.2.2.1.toList == incF with
          | true => rw [fvmt _ _ (by omega), if_neg (fun h => by cases h.2)]
          | false =>
            rw [fvmf _ _ (by omega)]
            by_cases h : (parseF v).1 = (m : Int)
            · rw [if_pos h, if_pos ⟨h, rfl⟩]
            · rw [if_neg h, if_neg (fun e => h e.1)]
        · rw [if_neg e, if_neg e]
      rw [hf]
      generalize parseF v = q
      unfold incF
      by_cases e : q.2.2.2.2.2 = 0
      · rw [if_pos e, if_pos e]
        by_cases h1 : q.1 = (m : Int)
        · rw [if_pos trivial, if_pos h1]
          by_cases ho : q.2.2.2.2.1.toList = [105, 110, 99, 111, 109, 112, 97, 116, 105, 98, 108, 101]
          · simp [h1, ho]
          · simp [h1, ho]
        · rw [if_pos trivial, if_neg h1]
          simp [h1]
      · rw [if_neg e, if_neg e, if_pos rfl]
        simp
    have hJ0 : graftbedlaw03_SemverFits.j0 (2001 + 1) p v (n : Int) false = some true := by
      have g1 := prog_fits p v (by omega) hv 2001 (by omega)
      have g2 := ref_fits p v (by omega) hv 2001 (by omega)
      have g3 := prog_major' p (by omega) 2001 (by omega)
      have g4 := ref_major p (by omega) 2001 (by omega)
      generalize hk : 2001 = k at g1 g2 g3 g4 ⊢
      simp only [graftbedlaw03_SemverFits.j0]
      rw [if_neg (by decide), g1, g2, g3, g4]
      simp only [Option.bind_some]
      rw [if_pos trivial, bne_self_eq_false, ← hk]
      exact hJ1
    refine ⟨2001 + 1, ?_⟩
    unfold graftbedlaw03_SemverFits.f
    rw [if_neg (by omega), decide_eq_false (by omega)]
    exact hJ0

end Go.Proofs.YtaddonafdllciaaDoor.Pure
