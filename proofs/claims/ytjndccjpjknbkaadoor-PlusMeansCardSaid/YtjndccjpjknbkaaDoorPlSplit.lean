/- A line's options and an option's terms as lists of bytes: cut at the blanks, at the commas. -/
import Derived.Test.YtjndccjpjknbkaaDoorPlLine
import Derived.Lib.FieldsU
import Derived.Lib.IndexLaws
import Derived.Laws.RangeAny
import Derived.Laws.RangeString
namespace Go.Proofs.YtjndccjpjknbkaaDoor.PlSplit
open Go Go.Proofs Go.RowKit Go.Proofs.YtjndccjpjknbkaaDoorW.PrintWords Go.Proofs.YtjndccjpjknbkaaDoor.BytesLib Go.Proofs.YtjndccjpjknbkaaDoor.PlJoin Go.Proofs.YtjndccjpjknbkaaDoor.PlLine
set_option linter.unusedVariables false

/-- Cut at each byte of a kind. -/
def splitP (p : UInt8 → Bool) : List UInt8 → List (List UInt8)
  | [] => [[]]
  | x :: l => if p x = true then [] :: splitP p l else match splitP p l with
    | [] => [[x]]
    | h :: t => (x :: h) :: t
theorem splitP_ne (p : UInt8 → Bool) (l : List UInt8) : splitP p l ≠ [] := by
  cases l with
  | nil => simp [splitP]
  | cons x l =>
    unfold splitP
    split
    · simp
    · split <;> simp
theorem splitP_none {p : UInt8 → Bool} : ∀ {l : List UInt8}, (∀ x ∈ l, p x = false) → splitP p l = [l]
  | [], _ => rfl
  | x :: l, h => by
    have h1 := h x List.mem_cons_self
    rw [splitP, if_neg (by rw [h1]; decide), splitP_none (fun y hy => h y (List.mem_cons_of_mem _ hy))]
theorem splitP_at {p : UInt8 → Bool} {c : UInt8} (hc : p c = true) : ∀ {l : List UInt8} (q : List UInt8), (∀ x ∈ l, p x = false) → splitP p (l ++ c :: q) = l :: splitP p q
  | [], q, _ => by rw [List.nil_append, splitP, if_pos hc]
  | x :: l, q, h => by
    have h1 := h x List.mem_cons_self
    rw [List.cons_append, splitP, if_neg (by rw [h1]; decide), splitP_at hc q (fun y hy => h y (List.mem_cons_of_mem _ hy))]
def blankB (c : UInt8) : Bool := c == 32 || c == 9
def commaB (c : UInt8) : Bool := c == 44

/-! ### FieldsFunc -/
theorem decodeN_cont (n b0 b1 b2 b3 : Nat) : (1 < (Lib.decodeN n b0 b1 b2 b3).2 → 128 ≤ b1) ∧ (2 < (Lib.decodeN n b0 b1 b2 b3).2 → 128 ≤ b2) ∧ (3 < (Lib.decodeN n b0 b1 b2 b3).2 → 128 ≤ b3) ∧ (Lib.decodeN n b0 b1 b2 b3).2 ≤ 4 := by
  unfold Lib.decodeN
  repeat' split
  all_goals (simp only; omega)
theorem get_L (s : ByteArray) (i : Nat) (h : i < s.size) : (s.get! i).toNat = ((L s)[i]'(by rw [L_length]; exact h)).toNat := by
  have : s.get! i = s[i] := by
    show s.data[i]! = _
    rw [getElem!_pos s.data i h]
    rfl
  rw [this]
  rfl
theorem decode_cont (s : ByteArray) (pos j : Nat) (h1 : pos < j) (h2 : j < pos + (Utf8.decode s pos).2) (h3 : j < s.size) : 128 ≤ ((L s)[j]'(by rw [L_length]; exact h3)).toNat := by
  have hd := Lib.decode_at s pos
  obtain ⟨a1, a2, a3, a4⟩ := decodeN_cont (s.size - pos) (s.get! pos).toNat (s.get! (pos + 1)).toNat (s.get! (pos + 2)).toNat (s.get! (pos + 3)).toNat
  rw [← hd] at a1 a2 a3 a4
  rw [← get_L s j h3]
  have hj : j = pos + 1 ∨ j = pos + 2 ∨ j = pos + 3 := by omega
  rcases hj with rfl | rfl | rfl
  · exact a1 (by omega)
  · exact a2 (by omega)
  · exact a3 (by omega)
theorem blank_high {c : UInt8} (h : 128 ≤ c.toNat) : blankB c = false := by
  unfold blankB
  have h1 : (c == 32) = false := by rw [beq_eq_false_iff_ne]; rintro rfl; exact absurd h (by decide)
  have h2 : (c == 9) = false := by rw [beq_eq_false_iff_ne]; rintro rfl; exact absurd h (by decide)
  rw [h1, h2]; rfl
theorem blank_low (c : UInt8) : blankR c.toNat = blankB c := by
  unfold blankR blankB
  have h1 : (c.toNat == 32) = (c == 32) := by
    by_cases h : c = 32
    · subst h; rfl
    · rw [beq_eq_false_iff_ne.2 h, beq_eq_false_iff_ne.2 (fun e => h (by apply UInt8.toNat_inj.1; rw [e]; rfl))]
  have h2 : (c.toNat == 9) = (c == 9) := by
    by_cases h : c = 9
    · subst h; rfl
    · rw [beq_eq_false_iff_ne.2 h, beq_eq_false_iff_ne.2 (fun e => h (by apply UInt8.toNat_inj.1; rw [e]; rfl))]
  rw [h1, h2]
def ne (l : List (List UInt8)) : List (List UInt8) := l.filter fun x => !x.isEmpty
def piece (l : List UInt8) (a b : Nat) : List UInt8 := (l.drop a).take (b - a)
theorem L_piece (s : ByteArray) (a b : Nat) : L (s.extract a b) = piece (L s) a b := by
  unfold piece
  rw [L_extract]
theorem piece_all (l : List UInt8) (a : Nat) (h : a ≤ l.length) : piece l a l.length = l.drop a := by
  unfold piece
  rw [List.take_of_length_le (by simp)]
theorem piece_join {l : List UInt8} {a b : Nat} (h : a ≤ b) : piece l a b ++ l.drop b = l.drop a := by
  unfold piece
  have : l.drop b = (l.drop a).drop (b - a) := by rw [List.drop_drop, show a + (b - a) = b from by omega]
  rw [this, List.take_append_drop]
theorem piece_ne {l : List UInt8} {a b : Nat} (h : a < b) (hb : b ≤ l.length) : piece l a b ≠ [] := by
  intro e
  have := congrArg List.length e
  unfold piece at this
  simp at this
  omega
theorem ne_cons {x : List UInt8} {r : List (List UInt8)} : ne (x :: r) = if x = [] then ne r else x :: ne r := by
  unfold ne
  cases x <;> simp

/-- From a place on. -/
theorem spans_split (s : ByteArray) : ∀ (f pos : Nat) (st : Option Nat) (acc : List (Nat × Nat)), s.size ≤ pos + f → pos ≤ s.size → (∀ a, st = some a → a < pos ∧ ∀ x ∈ piece (L s) a pos, blankB x = false) →
    (Lib.closeSpans s (Lib.spansFromP blankR s f pos st acc)).map (fun x => L (s.extract x.1 x.2)) = acc.map (fun x => L (s.extract x.1 x.2)) ++ ne (splitP blankB ((L s).drop (st.getD pos)))
  | 0, pos, st, acc, hf, hp, hst => by
    obtain rfl : pos = s.size := by omega
    have hl := L_length s
    unfold Lib.spansFromP Lib.closeSpans
    cases st with
    | none =>
      show _ = _ ++ ne (splitP blankB ((L s).drop s.size))
      rw [← hl, List.drop_length]
      simp [splitP, ne]
    | some a =>
      obtain ⟨h1, h2⟩ := hst a rfl
      show List.map _ (acc ++ [(a, s.size)]) = _ ++ ne (splitP blankB ((L s).drop a))
      rw [← hl] at h2 h1
      rw [piece_all _ _ (by omega)] at h2
      rw [splitP_none h2, List.map_append]
      congr 1
      show [L (s.extract a s.size)] = _
      rw [L_piece, ← hl, piece_all _ _ (by omega), ne_cons, if_neg (by intro e; have := congrArg List.length e; simp at this; omega)]
      rfl
  | f + 1, pos, st, acc, hf, hp, hst => by
    have hl := L_length s
    by_cases hlt : pos < s.size
    · have hltL : pos < (L s).length := by omega
      obtain ⟨c, hc⟩ : ∃ c, (L s)[pos] = c := ⟨_, rfl⟩
      have hcs : s[pos]'hlt = c := by rw [← hc]; rfl
      unfold Lib.spansFromP
      rw [if_pos hlt]
      by_cases hascii : c.toNat < 128
      · have hd := Go.decode_ascii s pos hlt (by rw [hcs]; exact hascii)
        rw [hcs] at hd
        rw [hd]
        simp only [blank_low]
        have hdrop : (L s).drop pos = c :: (L s).drop (pos + 1) := by rw [List.drop_eq_getElem_cons hltL, hc]
        by_cases hb : blankB c = true
        · rw [if_pos hb]
          cases st with
          | none =>
            have ih := spans_split s f (pos + 1) none acc (by omega) (by omega) (fun a h => by cases h)
            simp only
            rw [ih]
            show _ ++ ne (splitP blankB ((L s).drop (pos + 1))) = _ ++ ne (splitP blankB ((L s).drop pos))
            rw [hdrop, splitP, if_pos hb, ne_cons, if_pos rfl]
          | some a =>
            obtain ⟨h1, h2⟩ := hst a rfl
            have ih := spans_split s f (pos + 1) none (acc ++ [(a, pos)]) (by omega) (by omega) (fun a h => by cases h)
            simp only
            rw [ih, List.map_append, List.append_assoc]
            congr 1
            show [L (s.extract a pos)] ++ ne (splitP blankB ((L s).drop (pos + 1))) = ne (splitP blankB ((L s).drop a))
            rw [L_piece, ← piece_join (l := L s) (show a ≤ pos from by omega), hdrop, splitP_at hb _ h2, ne_cons, if_neg (piece_ne h1 (by omega))]
            rfl
        · rw [if_neg hb]
          have hb' : blankB c = false := by simpa using hb
          have hnew : ∀ a, a ≤ pos → (∀ x ∈ piece (L s) a pos, blankB x = false) → ∀ x ∈ piece (L s) a (pos + 1), blankB x = false := fun a ha h x hx => by
            unfold piece at h hx
            rw [show pos + 1 - a = (pos - a) + 1 from by omega, List.take_succ_eq_append_getElem (by rw [List.length_drop]; omega)] at hx
            rcases List.mem_append.1 hx with h3 | h3
            · exact h x h3
            · rw [List.mem_singleton, List.getElem_drop] at h3
              have : (L s)[a + (pos - a)]'(by omega) = c := by rw [← hc]; congr 1; omega
              rw [h3, this]; exact hb'
          cases st with
          | none =>
            have ih := spans_split s f (pos + 1) (some pos) acc (by omega) (by omega) (fun a h => by
              injection h with h
              subst h
              exact ⟨by omega, hnew pos (Nat.le_refl _) (by unfold piece; simp)⟩)
            simp only
            rw [ih]
            rfl
          | some a =>
            obtain ⟨h1, h2⟩ := hst a rfl
            have ih := spans_split s f (pos + 1) (some a) acc (by omega) (by omega) (fun b h => by
              injection h with h
              subst h
              exact ⟨by omega, hnew a (by omega) h2⟩)
            simp only
            rw [ih]
            rfl
      · have hh := Go.decode_high s pos hlt (by rw [hcs]; omega)
        have hbn : blankR (Utf8.decode s pos).1 = false := by
          unfold blankR
          rw [beq_eq_false_iff_ne.2 (by omega), beq_eq_false_iff_ne.2 (by omega)]; rfl
        obtain ⟨w, hw⟩ : ∃ w, (Utf8.decode s pos).2 = w := ⟨_, rfl⟩
        have hcont := decode_cont s pos
        rw [hbn]
        rw [hw] at hcont hh ⊢
        have hwle : pos + w ≤ s.size := by
          have := Lib.decode_at s pos
          have h2 := Lib.decodeN_le_n' (s.size - pos) (s.get! pos).toNat (s.get! (pos + 1)).toNat (s.get! (pos + 2)).toNat (s.get! (pos + 3)).toNat (by omega)
          rw [← this, hw] at h2
          omega
        have hnew : ∀ a, a ≤ pos → (∀ x ∈ piece (L s) a pos, blankB x = false) → ∀ x ∈ piece (L s) a (pos + w), blankB x = false := fun a ha h x hx => by
          unfold piece at h hx
          obtain ⟨j, hj, rfl⟩ := List.getElem_of_mem hx
          rw [List.length_take, List.length_drop] at hj
          rw [List.getElem_take, List.getElem_drop]
          by_cases hja : a + j < pos
          · refine h _ ?_
            rw [List.mem_iff_getElem]
            exact ⟨j, by rw [List.length_take, List.length_drop]; omega, by rw [List.getElem_take, List.getElem_drop]⟩
          · by_cases hjp : a + j = pos
            · have : (L s)[a + j]'(by omega) = c := by rw [← hc]; congr 1
              rw [this]
              exact blank_high (by omega)
            · exact blank_high (hcont (a + j) (by omega) (by omega) (by omega))
        simp only [Bool.false_eq_true, if_false]
        cases st with
        | none =>
          have ih := spans_split s f (pos + w) (some pos) acc (by omega) hwle (fun a h => by
            injection h with h
            subst h
            exact ⟨by omega, hnew pos (Nat.le_refl _) (by unfold piece; simp)⟩)
          simp only
          rw [ih]
          rfl
        | some a =>
          obtain ⟨h1, h2⟩ := hst a rfl
          have ih := spans_split s f (pos + w) (some a) acc (by omega) hwle (fun b h => by
            injection h with h
            subst h
            exact ⟨by omega, hnew a (by omega) h2⟩)
          simp only
          rw [ih]
          rfl
    · have e : pos = s.size := by omega
      rw [Lib.spansFromP_end blankR s (f + 1) pos st acc hlt]
      have h0 := spans_split s 0 pos st acc (by omega) hp hst
      exact h0
theorem fields_eq (s : ByteArray) : (fieldsOf s).map L = ne (splitP blankB (L s)) := by
  unfold fieldsOf Lib.goFieldsP Lib.spansOfP
  rw [List.map_map]
  have h := spans_split s s.size 0 none [] (by omega) (Nat.zero_le _) (fun a h => by cases h)
  exact h

/-! ### Split at the commas -/
theorem comma_iff (c : UInt8) : commaB c = true ↔ c = 44 := by unfold commaB; rw [beq_iff_eq]
theorem splitK_eq : ∀ (k : Nat) (l : List UInt8), Lib.count l [44] ≤ k → Lib.splitK [44] 0 k l = splitP commaB l := by
  intro k
  induction k with
  | zero =>
    intro l h
    rcases Int.lt_or_le (Lib.index l [44]) 0 with hi | hi
    · have hm : Lib.index l [44] = -1 := by have := Lib.indexByte_ge l 44; rw [Lib.index_one] at hi ⊢; omega
      rw [Lib.index_one] at hm
      rw [splitP_none]
      · rfl
      · intro x hx
        obtain ⟨j, hj, rfl⟩ := List.getElem_of_mem hx
        have := Lib.indexByte_none hm j
        rw [Bool.eq_false_iff]
        intro e
        rw [comma_iff] at e
        exact this (by rw [List.getElem?_eq_getElem hj, e])
    · obtain ⟨i, hi2⟩ := Int.eq_ofNat_of_zero_le hi
      have := Lib.count_hit (sub := [44]) (by simp) hi2
      omega
  | succ k ih =>
    intro l h
    unfold Lib.splitK
    rcases Int.lt_or_le (Lib.index l [44]) 0 with hi | hi
    · have hm : Lib.index l [44] = -1 := by have := Lib.indexByte_ge l 44; rw [Lib.index_one] at hi ⊢; omega
      rw [if_pos (beq_iff_eq.2 hm)]
      rw [Lib.index_one] at hm
      rw [splitP_none]
      intro x hx
      obtain ⟨j, hj, rfl⟩ := List.getElem_of_mem hx
      have := Lib.indexByte_none hm j
      rw [Bool.eq_false_iff]
      intro e
      rw [comma_iff] at e
      exact this (by rw [List.getElem?_eq_getElem hj, e])
    · obtain ⟨i, hi2⟩ := Int.eq_ofNat_of_zero_le hi
      have hc := Lib.count_hit (sub := [44]) (by simp) hi2
      rw [if_neg (by intro e; have := beq_iff_eq.1 e; omega)]
      have e1 : (Lib.index l [44]).toNat = i := by omega
      rw [e1, Nat.add_zero]
      have h2 := hi2
      rw [Lib.index_one] at h2
      obtain ⟨h3, h4⟩ := Lib.indexByte_some h2
      obtain ⟨hlt, h5⟩ := List.getElem?_eq_some_iff.1 h3
      have hsplit : l = l.take i ++ 44 :: l.drop (i + 1) := by
        conv => lhs; rw [← List.take_append_drop i l, List.drop_eq_getElem_cons hlt, h5]
      have hno : ∀ x ∈ l.take i, commaB x = false := by
        intro x hx
        obtain ⟨j, hj, rfl⟩ := List.getElem_of_mem hx
        rw [List.length_take] at hj
        rw [Bool.eq_false_iff]
        intro e
        rw [comma_iff, List.getElem_take] at e
        exact h4 j (by omega) (by rw [List.getElem?_eq_getElem (by omega), e])
      have hl1 : ([44] : List UInt8).length = 1 := rfl
      rw [hl1] at hc ⊢
      rw [ih (l.drop (i + 1)) (by omega)]
      conv => rhs; rw [hsplit]
      rw [splitP_at (by decide) _ hno]
theorem terms_eq (s : ByteArray) : (termsOf s).map L = splitP commaB (L s) := by
  unfold termsOf SplitW.splitF
  have h := Lib.splitB_data (SplitW.one 44) 0 (Lib.countB s (SplitW.one 44)) s
  rw [show (List.map (fun x : ByteArray => x.data.toList) (Lib.splitB (SplitW.one 44) 0 (Lib.countB s (SplitW.one 44)) s)) = List.map L (Lib.splitB (SplitW.one 44) 0 (Lib.countB s (SplitW.one 44)) s) from rfl] at h
  rw [h]
  refine splitK_eq _ _ ?_
  show Lib.count s.data.toList [44] ≤ Lib.countB s (SplitW.one 44)
  exact Nat.le_refl _
end Go.Proofs.YtjndccjpjknbkaaDoor.PlSplit
