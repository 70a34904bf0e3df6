/- What the reference's functions on versions come to, in lists of bytes. -/
import Derived.Test.YtaddonafdllciaaDoorSemCmp
import Derived.Test.YtaddonafdllciaaDoorMba
namespace Go.Proofs.YtaddonafdllciaaDoor.SemRefB
open Go.RowKit Go.Proofs.YtaddonafdllciaaDoor.BRef Go.Proofs.YtaddonafdllciaaDoorW.PrintWords Go.Proofs.YtaddonafdllciaaDoorW.PrintLast
open Go.Proofs.YtaddonafdllciaaDoor.BytesLib Go.Proofs.YtaddonafdllciaaDoor.SemParts Go.Proofs.YtaddonafdllciaaDoor.SemNum Go.Proofs.YtaddonafdllciaaDoor.SemParse Go.Proofs.YtaddonafdllciaaDoor.SemOrder Go.Proofs.YtaddonafdllciaaDoor.SemSplit Go.Proofs.YtaddonafdllciaaDoor.SemCmp
set_option linter.unusedVariables false
set_option linter.unusedSimpArgs false

theorem bt_ne {s : ByteArray} {i : Nat} (h : i < (L s).length) (c : UInt8) : (bt s (i : Int) = (c.toNat : Int)) ↔ (L s)[i] = c := by
  rw [bt_nat h]
  constructor
  · intro e; exact UInt8.toNat_inj.1 (by simpa using Int.ofNat_inj.1 e)
  · intro e; rw [e]

/-! ### find -/
theorem index_is {c : UInt8} {l : List UInt8} {i : Nat} (h : i < l.length) (hc : l[i] = c) (hn : ∀ j, j < i → l[j]? ≠ some c) : Lib.indexByte l c = i := by
  by_cases h0 : 0 ≤ Lib.indexByte l c
  · obtain ⟨o, ho⟩ : ∃ o : Nat, Lib.indexByte l c = o := ⟨(Lib.indexByte l c).toNat, by omega⟩
    obtain ⟨h1, h2⟩ := Lib.indexByte_some ho
    have a1 : ¬ o < i := fun e => hn o e h1
    have a2 : ¬ i < o := fun e => h2 i e (by rw [List.getElem?_eq_some_iff]; exact ⟨h, hc⟩)
    omega
  · exact absurd (hc ▸ List.getElem_mem h) (index_none c l h0)

theorem ref_find_loop (c : UInt8) (s : ByteArray) (hs : s.size ≤ 1099511627776) (d : Nat) : ∀ (i k : Nat), s.size - i = d → i ≤ s.size → (∀ j, j < i → (L s)[j]? ≠ some c) →
    graftbedref03_find.l0 (k + d + 1) s (c.toNat : Int) (i : Int) = some (if 0 ≤ cutI c s then cutI c s else (s.size : Int)) := by
  induction d with
  | zero =>
    intro i k h1 h2 h3
    obtain rfl : i = s.size := by omega
    have hno : ¬ 0 ≤ cutI c s := by
      intro h0
      have h4 := cutI_lt c s
      unfold cutI at h0 h4
      obtain ⟨o, ho⟩ : ∃ o : Nat, Lib.indexByte s.data.toList c = o := ⟨(Lib.indexByte s.data.toList c).toNat, by omega⟩
      exact h3 o (by omega) (Lib.indexByte_some ho).1
    rw [if_neg hno]
    simp only [graftbedref03_find.l0]
    rw [if_neg (by omega)]
  | succ d ih =>
    intro i k h1 h2 h3
    have hlt : i < (L s).length := by rw [L_length]; omega
    rw [show k + (d + 1) + 1 = (k + d + 1) + 1 from by omega]
    simp only [graftbedref03_find.l0]
    rw [if_pos (by omega), if_pos (by omega)]
    by_cases hc : (L s)[i] = c
    · rw [if_pos ((bt_ne hlt c).2 hc)]
      have hi : cutI c s = i := index_is hlt hc h3
      rw [hi, if_pos (by omega)]
    · rw [if_neg (fun e => hc ((bt_ne hlt c).1 e)), w64 (by omega) (by omega)]
      exact ih (i + 1) k (by omega) (by omega) (fun j hj => by
        by_cases e : j = i
        · subst e
          rw [List.getElem?_eq_getElem hlt]
          exact fun e => hc (Option.some.inj e)
        · exact h3 j (by omega))

theorem ref_find (c : UInt8) (s : ByteArray) (hs : s.size ≤ 1099511627776) (k : Nat) (hk : s.size < k) : graftbedref03_find.f k s (c.toNat : Int) = some (if 0 ≤ cutI c s then cutI c s else (s.size : Int)) := by
  have := ref_find_loop c s hs s.size 0 (k - s.size - 1) (by omega) (by omega) (fun j hj => by omega)
  rw [show k - s.size - 1 + s.size + 1 = k from by omega] at this
  exact this

/-! ### Split -/
theorem tail_ofL (s : ByteArray) (a : Nat) : s.extract a s.size = ofL ((L s).drop a) := L_inj (by rw [L_tail, L_ofL])
theorem cut_ofL (s : ByteArray) (a b : Nat) : s.extract a b = ofL (((L s).drop a).take (b - a)) := L_inj (by rw [L_extract, L_ofL])
theorem not_mem_take {l : List UInt8} {c : UInt8} {m n : Nat} (h : ∀ j, m ≤ j → j < n → l[j]? ≠ some c) : c ∉ (l.drop m).take (n - m) := by
  intro hm
  obtain ⟨k, hk, hk2⟩ := List.mem_iff_getElem.1 hm
  rw [List.length_take, List.length_drop] at hk
  rw [List.getElem_take, List.getElem_drop] at hk2
  exact h (m + k) (by omega) (by omega) (by rw [List.getElem?_eq_some_iff]; exact ⟨by omega, hk2⟩)

theorem ref_split_loop (c : UInt8) (s : ByteArray) (hs : s.size ≤ 1099511627776) (d : Nat) : ∀ (i m k : Nat) (acc : List ByteArray), m ≤ i → i ≤ s.size → s.size - i = d → acc.length ≤ i →
    (∀ j, m ≤ j → j < i → (L s)[j]? ≠ some c) →
    graftbedref03_Split.l0 (k + d + 2) s (c.toNat : Int) acc (m : Int) (i : Int) = some (acc ++ (splitL c ((L s).drop m)).map ofL) := by
  induction d with
  | zero =>
    intro i m k acc h1 h2 h3 h4 h5
    obtain rfl : i = s.size := by omega
    have hn : c ∉ (L s).drop m := by
      have := not_mem_take h5
      rwa [List.take_of_length_le (by rw [List.length_drop, L_length]; exact Nat.le_refl _)] at this
    rw [splitL_none hn]
    simp only [graftbedref03_Split.l0]
    rw [if_pos (by omega), if_pos trivial, if_pos (by omega), if_pos (by omega), if_pos (by omega), w64 (by omega) (by omega), if_neg (by omega), Int.toNat_natCast, Int.toNat_natCast, tail_ofL]
    rfl
  | succ d ih =>
    intro i m k acc h1 h2 h3 h4 h5
    have hlt : i < (L s).length := by rw [L_length]; omega
    rw [show k + (d + 1) + 2 = (k + d + 2) + 1 from by omega]
    simp only [graftbedref03_Split.l0]
    rw [if_pos (by omega), if_neg (by omega), if_pos (by omega), if_pos (by omega)]
    by_cases hc : (L s)[i] = c
    · have hn := not_mem_take h5
      have hsp : (L s).drop m = ((L s).drop m).take (i - m) ++ c :: (L s).drop (i + 1) := by
        conv => lhs; rw [← List.take_append_drop (i - m) ((L s).drop m), List.drop_drop, show m + (i - m) = i from by omega, List.drop_eq_getElem_cons hlt, hc]
      rw [if_pos ((bt_ne hlt c).2 hc), if_pos (by omega), if_pos (by omega), if_pos (by omega), w64 (by omega) (by omega), Int.toNat_natCast, Int.toNat_natCast]
      have := ih (i + 1) (i + 1) k (acc ++ [s.extract m i]) (Nat.le_refl _) (by omega) (by omega) (by simp; omega) (fun j hj hj2 => by omega)
      rw [hsp, splitL_at _ hn, List.map_cons]
      rw [List.append_assoc] at this
      rw [cut_ofL] at this ⊢
      exact this
    · rw [if_neg (fun e => hc ((bt_ne hlt c).1 e)), w64 (by omega) (by omega)]
      exact ih (i + 1) m k acc (by omega) (by omega) (by omega) (by omega) (fun j hj hj2 => by
        by_cases e : j = i
        · subst e
          rw [List.getElem?_eq_getElem hlt]
          exact fun e => hc (Option.some.inj e)
        · exact h5 j hj (by omega))

theorem ref_split (c : UInt8) (s : ByteArray) (hs : s.size ≤ 1099511627776) (k : Nat) (hk : s.size + 1 < k) : graftbedref03_Split.f k s (c.toNat : Int) = some (split c s) := by
  have := ref_split_loop c s hs s.size 0 0 (k - s.size - 2) [] (Nat.le_refl _) (by omega) (by omega) (by simp) (fun j _ hj => by omega)
  rw [show k - s.size - 2 + s.size + 2 = k from by omega, List.drop_zero, List.nil_append, ← split_list] at this
  exact this

/-! ### digits, signs, noughts -/
theorem ref_digit (c : UInt8) : graftbedref03_digit.f (c.toNat : Int) = some (digB c) := by
  unfold graftbedref03_digit.f digB
  by_cases h : 48 ≤ c.toNat
  · rw [if_pos (by omega), decide_eq_true h, Bool.true_and]
    by_cases h2 : c.toNat ≤ 57
    · rw [decide_eq_true h2, decide_eq_true (by omega)]
    · rw [decide_eq_false h2, decide_eq_false (by omega)]
  · rw [if_neg (by omega), decide_eq_false h, Bool.false_and]

theorem ref_digits_loop (s : ByteArray) (hs : s.size ≤ 1099511627776) (d : Nat) : ∀ (i k : Nat), s.size - i = d → i ≤ s.size →
    graftbedref03_digits.l0 (k + d + 1) s (i : Int) = some (((L s).drop i).all digB && !(L s).isEmpty) := by
  induction d with
  | zero =>
    intro i k h1 h2
    obtain rfl : i = s.size := by omega
    simp only [graftbedref03_digits.l0]
    rw [if_neg (by omega), List.drop_of_length_le (by rw [L_length]; exact Nat.le_refl _), toList_L]
    cases L s <;> rfl
  | succ d ih =>
    intro i k h1 h2
    have hlt : i < (L s).length := by rw [L_length]; omega
    rw [show k + (d + 1) + 1 = (k + d + 1) + 1 from by omega]
    simp only [graftbedref03_digits.l0]
    rw [if_pos (by omega), if_pos (by omega), bt_nat hlt, ref_digit, Option.bind_some, List.drop_eq_getElem_cons hlt, List.all_cons]
    cases hd : digB (L s)[i] with
    | true => rw [if_pos rfl, w64 (by omega) (by omega), Bool.true_and]; exact ih (i + 1) k (by omega) (by omega)
    | false => rw [if_neg (by decide)]; rfl
theorem ref_digits (s : ByteArray) (hs : s.size ≤ 1099511627776) (k : Nat) (hk : s.size < k) : graftbedref03_digits.f k s = some (everyB digB s) := by
  have := ref_digits_loop s hs s.size 0 (k - s.size - 1) (by omega) (by omega)
  rw [show k - s.size - 1 + s.size + 1 = k from by omega, List.drop_zero] at this
  exact this

theorem or_letter (c : UInt8) : (decide (97 ≤ (c ||| 32).toNat) && decide ((c ||| 32).toNat ≤ 122)) = ((decide (65 ≤ c.toNat) && decide (c.toNat ≤ 90)) || (decide (97 ≤ c.toNat) && decide (c.toNat ≤ 122))) := by
  have h : ∀ n : Fin 256, (decide (97 ≤ (UInt8.ofNat n.val ||| 32).toNat) && decide ((UInt8.ofNat n.val ||| 32).toNat ≤ 122)) = ((decide (65 ≤ (UInt8.ofNat n.val).toNat) && decide ((UInt8.ofNat n.val).toNat ≤ 90)) || (decide (97 ≤ (UInt8.ofNat n.val).toNat) && decide ((UInt8.ofNat n.val).toNat ≤ 122))) := by decide +kernel
  have := h ⟨c.toNat, c.toNat_lt⟩
  simpa using this
theorem sign_ways {α : Type} (c : UInt8) (hd : digB c = false) (A B : α) :
    (if (c.toNat : Int) < 97 then (if (c.toNat : Int) < 65 then (if (c.toNat : Int) = 45 then A else B) else (if (c.toNat : Int) > 90 then (if (c.toNat : Int) = 45 then A else B) else A)) else (if (c.toNat : Int) > 122 then (if (c.toNat : Int) < 65 then (if (c.toNat : Int) = 45 then A else B) else (if (c.toNat : Int) > 90 then (if (c.toNat : Int) = 45 then A else B) else A)) else A)) = if signB c = true then A else B := by
  unfold signB
  rw [hd, Bool.false_or, or_letter]
  have e45 : (c == 45) = decide (c.toNat = 45) := by
    by_cases h : c = 45
    · subst h; rfl
    · rw [beq_eq_false_iff_ne.2 h, decide_eq_false]
      exact fun e => h (UInt8.toNat_inj.1 e)
  rw [e45]
  generalize c.toNat = n
  simp only [Bool.or_eq_true, Bool.and_eq_true, decide_eq_true_eq]
  repeat' split
  all_goals first | rfl | (exfalso; omega)

/-! ### identifiers -/
def strictB (strict : Bool) (e : ByteArray) : Bool := everyB signB e && !(strict && noughtB e)

theorem ref_ids_in (strict : Bool) (xs : List ByteArray) (i : Nat) (hi : i < xs.length) (d : Nat) : ∀ (j k : Nat), xs[i].size ≤ 1099511627776 → xs[i].size - j = d → j ≤ xs[i].size →
    graftbedref03_identifiers.l1 (k + d + 1) strict xs (i : Int) (j : Int) = if ((L xs[i]).drop j).all signB = true then graftbedref03_identifiers.l0 k strict xs (wrap64 ((i : Int) + 1)) else some false := by
  have hr : rdOf ByteArray.empty xs (i : Int) = xs[i] := rdOf_get _ hi
  induction d with
  | zero =>
    intro j k hs h1 h2
    obtain rfl : j = xs[i].size := by omega
    simp only [graftbedref03_identifiers.l1]
    rw [if_pos (by omega), if_pos (by omega), hr, if_neg (by omega), List.drop_of_length_le (by rw [L_length]; exact Nat.le_refl _)]
    rfl
  | succ d ih =>
    intro j k hs h1 h2
    have hlt : j < (L xs[i]).length := by rw [L_length]; omega
    rw [show k + (d + 1) + 1 = (k + d + 1) + 1 from by omega]
    have ih' := ih (j + 1) k hs (by omega) (by omega)
    generalize k + d + 1 = q at ih' ⊢
    simp only [graftbedref03_identifiers.l1]
    rw [if_pos (by omega), if_pos (by omega), hr, if_pos (by omega), if_pos (by omega), bt_nat hlt, ref_digit, Option.bind_some, List.drop_eq_getElem_cons hlt, List.all_cons, w64 (x := (j : Int) + 1) (by omega) (by omega)]
    cases hd : digB (L xs[i])[j] with
    | true =>
      have hg : signB (L xs[i])[j] = true := by unfold signB; rw [hd]; rfl
      rw [if_pos rfl, hg, Bool.true_and]
      exact ih'
    | false =>
      rw [if_neg (by decide), sign_ways _ hd]
      cases hg : signB (L xs[i])[j] with
      | true => rw [if_pos rfl, Bool.true_and]; exact ih'
      | false => rw [if_neg (by decide), Bool.false_and, if_neg (by decide)]

theorem ref_ids_loop (strict : Bool) (xs : List ByteArray) (hl : xs.length ≤ 1000000) (hx : ∀ x ∈ xs, x.size ≤ 60) (d : Nat) : ∀ (i k : Nat), xs.length - i = d → i ≤ xs.length → d * 70 + 70 ≤ k →
    graftbedref03_identifiers.l0 k strict xs (i : Int) = some ((xs.drop i).all (strictB strict)) := by
  induction d with
  | zero =>
    intro i k h1 h2 hk
    obtain rfl : i = xs.length := by omega
    obtain ⟨k, rfl⟩ : ∃ k', k = k' + 1 := ⟨k - 1, by omega⟩
    simp only [graftbedref03_identifiers.l0]
    rw [if_neg (by omega), List.drop_of_length_le (Nat.le_refl _)]; rfl
  | succ d ih =>
    intro i k h1 h2 hk
    have hlt : i < xs.length := by omega
    have hr : rdOf ByteArray.empty xs (i : Int) = xs[i] := rdOf_get _ hlt
    have hsz := hx xs[i] (List.getElem_mem hlt)
    have hd := ref_digits xs[i] (by omega)
    have hin := fun k => ref_ids_in strict xs i hlt xs[i].size 0 k (by omega) (by omega) (by omega)
    obtain ⟨k, rfl⟩ : ∃ k', k = k' + 1 + xs[i].size + 3 := ⟨k - xs[i].size - 4, by omega⟩
    have ih' := ih (i + 1) (k + 1) (by omega) (by omega) (by omega)
    have hnext : graftbedref03_identifiers.j1 (k + 1 + xs[i].size + 2) strict xs (i : Int) false = if (L xs[i]).all signB = true then graftbedref03_identifiers.l0 (k + 1) strict xs (((i + 1 : Nat) : Int)) else some false := by
      simp only [graftbedref03_identifiers.j1]
      rw [if_neg (by decide)]
      have h := hin (k + 1)
      rw [w64 (by omega) (by omega), List.drop_zero] at h
      exact h
    have hstop : graftbedref03_identifiers.j1 (k + 1 + xs[i].size + 2) strict xs (i : Int) true = some false := by
      simp only [graftbedref03_identifiers.j1]
      rw [if_pos trivial]
    simp only [graftbedref03_identifiers.l0]
    rw [if_pos (by omega), if_pos (by omega), hr, hd _ (by omega), Option.bind_some, List.drop_eq_getElem_cons hlt, List.all_cons, hstop, hnext]
    rw [ih']
    have hall : everyB signB xs[i] = ((L xs[i]).all signB && !(L xs[i]).isEmpty) := rfl
    by_cases he : xs[i].toList = []
    · rw [if_pos he]
      rw [toList_L] at he
      have hf : strictB strict xs[i] = false := by unfold strictB; rw [hall, he]; rfl
      rw [hf]; rfl
    · rw [if_neg he]
      have hne : (L xs[i]).isEmpty = false := by rw [toList_L] at he; cases h : L xs[i] with | nil => exact absurd h he | cons _ _ => rfl
      have hpass : (if (L xs[i]).all signB = true then some ((xs.drop (i + 1)).all (strictB strict)) else some false) = some ((L xs[i]).all signB && (xs.drop (i + 1)).all (strictB strict)) := by
        cases (L xs[i]).all signB <;> rfl
      rw [hpass]
      have hst : strictB strict xs[i] = ((L xs[i]).all signB && !(strict && noughtB xs[i])) := by unfold strictB; rw [hall, hne]; simp
      rw [hst]
      cases strict with
      | false => rw [if_neg (by decide)]; simp
      | true =>
        rw [if_pos rfl]
        unfold noughtB
        cases hD : everyB digB xs[i] with
        | false => rw [if_neg (by decide)]; simp
        | true =>
          rw [if_pos rfl]
          by_cases h1 : 1 < xs[i].size
          · rw [if_pos (by omega), if_pos (by omega), decide_eq_true h1]
            have hlt0 : 0 < (L xs[i]).length := by rw [L_length]; omega
            have hh : (L xs[i]).head? = some (L xs[i])[0] := by rw [List.head?_eq_getElem?, List.getElem?_eq_getElem hlt0]
            rw [hh]
            have hb := bt_ne (s := xs[i]) hlt0 48
            by_cases h48 : (L xs[i])[0] = 48
            · have e1 : (bt xs[i] 0 == 48) = true := beq_iff_eq.2 (hb.2 h48)
              rw [e1, hstop, h48]; simp
            · have e1 : (bt xs[i] 0 == 48) = false := beq_eq_false_iff_ne.2 (fun e => h48 (hb.1 e))
              rw [e1, hnext, ih', hpass]
              have e2 : (some (L xs[i])[0] == some (48 : UInt8)) = false := by rw [beq_eq_false_iff_ne]; exact fun e => h48 (Option.some.inj e)
              rw [e2]; simp
          · rw [if_neg (by omega), decide_eq_false h1]; simp

theorem ref_identifiers (s : ByteArray) (hs : s.size ≤ 60) (strict : Bool) (k : Nat) (hk : 5000 ≤ k) : graftbedref03_identifiers.f k s strict = some ((split 46 s).all (strictB strict)) := by
  have h1 := split_count s
  have h2 := split_len s
  unfold graftbedref03_identifiers.f
  have h3 := ref_split 46 s (by omega) k (by omega)
  rw [show graftbedref03_Split.f k s 46 = some (split 46 s) from h3, Option.bind_some]
  exact ref_ids_loop strict (split 46 s) (by omega) (fun x hx => by have := h2 x hx; omega) _ 0 k rfl (Nat.zero_le _) (by omega)

/-! ### Number -/
theorem ref_number_loop (s : ByteArray) (hd : (L s).all digB = true) (h9 : s.size ≤ 9) (d : Nat) : ∀ (i n k : Nat), s.size - i = d → i ≤ s.size → n < 10 ^ i →
    graftbedref03_Number.l0 (k + d + 1) s (n : Int) (i : Int) = some ((((Lib.decFrom n ((L s).drop i)).getD 0 : Nat) : Int)) := by
  induction d with
  | zero =>
    intro i n k h1 h2 h3
    obtain rfl : i = s.size := by omega
    simp only [graftbedref03_Number.l0]
    rw [if_neg (by omega), List.drop_of_length_le (by rw [L_length]; exact Nat.le_refl _)]
    rfl
  | succ d ih =>
    intro i n k h1 h2 h3
    have hlt : i < (L s).length := by rw [L_length]; omega
    have hc : digB (L s)[i] = true := List.all_eq_true.1 hd _ (List.getElem_mem hlt)
    have hc2 := hc
    unfold digB at hc2
    rw [Bool.and_eq_true] at hc2
    have hlo := of_decide_eq_true hc2.1
    have hhi := of_decide_eq_true hc2.2
    have hp : 10 ^ i ≤ 10 ^ 8 := Nat.pow_le_pow_right (by omega) (by omega)
    have ih' := ih (i + 1) (n * 10 + ((L s)[i].toNat - 48)) k (by omega) (by omega) (by rw [Nat.pow_succ]; omega)
    rw [show k + (d + 1) + 1 = (k + d + 1) + 1 from by omega]
    generalize k + d + 1 = q at ih' ⊢
    simp only [graftbedref03_Number.l0]
    have hn : n < 100000000 := by simpa using Nat.lt_of_lt_of_le h3 hp
    rw [if_pos (by omega), if_pos (by omega), bt_nat hlt, w64 (x := (i : Int) + 1) (by omega) (by omega), w64 (x := 10 * (n : Int)) (by omega) (by omega), Int.emod_eq_of_lt (by omega) (by omega), w64 (by omega) (by omega)]
    rw [show 10 * (n : Int) + (((L s)[i].toNat : Int) - 48) = ((n * 10 + ((L s)[i].toNat - 48) : Nat) : Int) from by omega]
    rw [show (i : Int) + 1 = ((i + 1 : Nat) : Int) from rfl, ih', List.drop_eq_getElem_cons hlt]
    have hv : Lib.digitVal (L s)[i] = some ((L s)[i].toNat - 48) := by
      unfold Lib.digitVal
      rw [if_pos ⟨hlo, hhi⟩]
    conv => rhs; unfold Lib.decFrom
    rw [hv]

theorem ref_number (s : ByteArray) (hs : s.size ≤ 60) (k : Nat) (hk : 100 ≤ k) : graftbedref03_Number.f k s = some (if numB s = true then (numF s).1 else -1) := by
  obtain ⟨k, rfl⟩ : ∃ k', k = k' + 1 := ⟨k - 1, by omega⟩
  have hbad : graftbedref03_Number.j0 (k + 1) s true = some (-1) := by simp only [graftbedref03_Number.j0]; rw [if_pos trivial]
  unfold graftbedref03_Number.f
  rw [ref_digits s (by omega) _ (by omega), Option.bind_some, hbad]
  cases hD : everyB digB s with
  | false =>
    rw [if_neg (by decide)]
    have hn : numB s = false := by unfold numB; rw [hD]; rfl
    rw [hn]; rfl
  | true =>
    rw [if_pos rfl]
    by_cases h9 : s.size ≤ 9
    · rw [if_neg (by omega)]
      have hall : (L s).all digB = true := by unfold everyB at hD; rw [Bool.and_eq_true] at hD; exact hD.1
      have hgood : graftbedref03_Number.j0 (k + 1) s false = some ((((Lib.decFrom 0 (L s)).getD 0 : Nat) : Int)) := by
        simp only [graftbedref03_Number.j0]
        rw [if_neg (by decide)]
        have h := ref_number_loop s hall h9 s.size 0 0 (k - s.size - 1) (by omega) (by omega) (by simp)
        rw [show k - s.size - 1 + s.size + 1 = k from by omega, List.drop_zero] at h
        exact h
      by_cases h1 : 1 < s.size
      · rw [if_pos (by omega), if_pos (by omega)]
        have hlt0 : 0 < (L s).length := by rw [L_length]; omega
        have hh : (L s).head? = some (L s)[0] := by rw [List.head?_eq_getElem?, List.getElem?_eq_getElem hlt0]
        have hb := bt_ne (s := s) hlt0 48
        by_cases h48 : (L s)[0] = 48
        · have e1 : (bt s 0 == 48) = true := beq_iff_eq.2 (hb.2 h48)
          have hn : numB s = false := by unfold numB noughtB; rw [hD, hh, h48, decide_eq_true h1]; simp
          rw [e1, hbad, hn]; rfl
        · have e1 : (bt s 0 == 48) = false := beq_eq_false_iff_ne.2 (fun e => h48 (hb.1 e))
          have e2 : (some (L s)[0] == some (48 : UInt8)) = false := by rw [beq_eq_false_iff_ne]; exact fun e => h48 (Option.some.inj e)
          have hn : numB s = true := by unfold numB noughtB; rw [hD, hh, e2, decide_eq_true h9]; simp
          unfold numF
          rw [e1, hgood, hn]; rfl
      · rw [if_neg (by omega)]
        have hn : numB s = true := by unfold numB noughtB; rw [hD, decide_eq_false h1, decide_eq_true h9]; rfl
        unfold numF
        rw [hgood, hn]; rfl
    · rw [if_pos (by omega)]
      have hn : numB s = false := by unfold numB; rw [decide_eq_false h9]; simp
      rw [hn]; rfl
end Go.Proofs.YtaddonafdllciaaDoor.SemRefB

