/- Numbers as digits, and versions put together of them. -/
import Derived.Test.YtaddonafdllciaaDoorMpa
import Derived.Test.YtaddonafdllciaaDoorSemList
import Derived.Test.YtaddonafdllciaaDoorPureSemProg
namespace Go.Proofs.YtaddonafdllciaaDoor.Pure
open Go.RowKit Go.Proofs.YtaddonafdllciaaDoor.PAll Go.Proofs.YtaddonafdllciaaDoorW.PrintWords Go.Proofs.YtaddonafdllciaaDoorW.PrintLast
open Go.Proofs.YtaddonafdllciaaDoor.BytesLib Go.Proofs.YtaddonafdllciaaDoor.SemParts Go.Proofs.YtaddonafdllciaaDoor.SemNum Go.Proofs.YtaddonafdllciaaDoor.SemParse Go.Proofs.YtaddonafdllciaaDoor.SemOrder Go.Proofs.YtaddonafdllciaaDoor.SemSplit Go.Proofs.YtaddonafdllciaaDoor.SemCmp Go.Proofs.YtaddonafdllciaaDoor.SemList
set_option linter.unusedVariables false
set_option linter.unusedSimpArgs false

def dg (n : Nat) : UInt8 := UInt8.ofNat (48 + n % 10)
theorem dg_nat (n : Nat) : (dg n).toNat = 48 + n % 10 := by
  unfold dg
  rw [UInt8.toNat_ofNat']
  omega
/-- The digits of a number. -/
def dL (n : Nat) : List UInt8 := if h : n < 10 then [dg n] else dL (n / 10) ++ [dg n]
termination_by n
decreasing_by omega
theorem dL_eq (n : Nat) : dL n = if n < 10 then [dg n] else dL (n / 10) ++ [dg n] := by
  rw [dL]
  split <;> rfl
theorem dL_small {n : Nat} (h : n < 10) : dL n = [dg n] := by rw [dL_eq, if_pos h]
theorem dL_big {n : Nat} (h : ¬ n < 10) : dL n = dL (n / 10) ++ [dg n] := by rw [dL_eq, if_neg h]

theorem digB_dg (n : Nat) : digB (dg n) = true := by
  unfold digB
  rw [dg_nat, Bool.and_eq_true]
  exact ⟨decide_eq_true (by omega), decide_eq_true (by omega)⟩
theorem dL_digits (n : Nat) : (dL n).all digB = true := by
  induction n using Nat.strongRecOn with
  | _ n ih =>
    by_cases h : n < 10
    · rw [dL_small h]; simp [digB_dg]
    · rw [dL_big h, List.all_append, ih (n / 10) (by omega)]; simp [digB_dg]
theorem dL_ne (n : Nat) : dL n ≠ [] := by
  rw [dL_eq]
  split <;> simp
theorem dL_len (d : Nat) : ∀ n, n < 10 ^ (d + 1) → (dL n).length ≤ d + 1 := by
  induction d with
  | zero => intro n h; rw [dL_small (by simpa using h)]; simp
  | succ d ih =>
    intro n h
    by_cases h1 : n < 10
    · rw [dL_small h1]; simp
    · rw [dL_big h1, List.length_append]
      have := ih (n / 10) (by rw [Nat.pow_succ] at h; omega)
      simp only [List.length_cons, List.length_nil]
      omega
theorem dL_len_pos (n : Nat) : 1 ≤ (dL n).length := by
  have := dL_ne n
  cases h : dL n with
  | nil => exact absurd h this
  | cons a l => simp
theorem digitVal_dg (n : Nat) : Lib.digitVal (dg n) = some (n % 10) := by
  unfold Lib.digitVal
  rw [dg_nat, if_pos ⟨by omega, by omega⟩]
  congr 1
  omega
theorem decFrom_append : ∀ (p q : List UInt8) (acc : Nat), p.all digB = true → Lib.decFrom acc (p ++ q) = (Lib.decFrom acc p).bind fun n => Lib.decFrom n q
  | [], q, acc, _ => rfl
  | c :: p, q, acc, h => by
    rw [List.all_cons, Bool.and_eq_true] at h
    have e : ∀ l, Lib.decFrom acc (c :: l) = match Lib.digitVal c with | some d => Lib.decFrom (acc * 10 + d) l | none => none := fun l => by
      conv => lhs; unfold Lib.decFrom
      cases Lib.digitVal c <;> rfl
    rw [List.cons_append, e, e]
    cases Lib.digitVal c with
    | none => rfl
    | some d => exact decFrom_append p q _ h.2
theorem decFrom_one (n acc : Nat) : Lib.decFrom acc [dg n] = some (acc * 10 + n % 10) := by
  unfold Lib.decFrom
  rw [digitVal_dg]
  rfl
theorem dL_dec (n : Nat) : Lib.decFrom 0 (dL n) = some n := by
  induction n using Nat.strongRecOn with
  | _ n ih =>
    by_cases h : n < 10
    · rw [dL_small h, decFrom_one]; congr 1; omega
    · rw [dL_big h, decFrom_append _ _ _ (dL_digits _), ih (n / 10) (by omega), Option.bind_some, decFrom_one]
      congr 1; omega
/-- No nought ahead. -/
theorem dL_head (n : Nat) (h : 10 ≤ n) : (dL n).head? ≠ some 48 := by
  induction n using Nat.strongRecOn with
  | _ n ih =>
    rw [dL_big (by omega)]
    have hne := dL_ne (n / 10)
    by_cases h1 : n / 10 < 10
    · rw [dL_small h1]
      intro e
      have e1 := congrArg UInt8.toNat (Option.some.inj e)
      rw [dg_nat] at e1
      have : (48 : UInt8).toNat = 48 := rfl
      omega
    · have := ih (n / 10) (by omega) (by omega)
      cases hd : dL (n / 10) with
      | nil => exact absurd hd hne
      | cons c l => rw [hd] at this; exact this

def D (n : Nat) : ByteArray := ofL (dL n)
theorem D_every (n : Nat) : everyB digB (D n) = true := by
  unfold everyB D
  rw [L_ofL, dL_digits]
  cases h : dL n with
  | nil => exact absurd h (dL_ne n)
  | cons c l => rfl
theorem D_size (n : Nat) : (D n).size = (dL n).length := size_ofL _
theorem D_nought (n : Nat) : noughtB (D n) = false := by
  unfold noughtB
  rw [D_size, show L (D n) = dL n from L_ofL _]
  by_cases h : n < 10
  · rw [dL_small h]; rfl
  · rw [show ((dL n).head? == some 48) = false from beq_eq_false_iff_ne.2 (dL_head n (by omega))]; simp
theorem D_num {n : Nat} (h : n < 1000000000) : numB (D n) = true ∧ (numF (D n)).1 = n := by
  have h1 : numB (D n) = true := by
    unfold numB
    rw [D_every, D_nought, D_size, decide_eq_true (dL_len 8 n (by simpa using h))]; rfl
  refine ⟨h1, ?_⟩
  unfold numF
  rw [h1, if_pos rfl, show L (D n) = dL n from L_ofL _, dL_dec]; rfl

theorem lt_append : ∀ {x y : List UInt8} (p q : List UInt8), x.length = y.length → x < y → x ++ p < y ++ q
  | [], [], _, _, _, h => absurd h (lt_irr _)
  | [], _ :: _, _, _, hl, _ => by simp at hl
  | _ :: _, [], _, _, hl, _ => by simp at hl
  | a :: x, b :: y, p, q, hl, h => by
    rw [List.cons_append, List.cons_append, List.cons_lt_cons_iff]
    rw [List.cons_lt_cons_iff] at h
    rcases h with h | ⟨h1, h2⟩
    · exact .inl h
    · exact .inr ⟨h1, lt_append p q (by simpa using hl) h2⟩
theorem lt_same : ∀ (x : List UInt8) {p q : List UInt8}, p < q → x ++ p < x ++ q
  | [], _, _, h => h
  | a :: x, p, q, h => by
    rw [List.cons_append, List.cons_append, List.cons_lt_cons_iff]
    exact .inr ⟨rfl, lt_same x h⟩
theorem dg_lt {a b : Nat} (h : a % 10 < b % 10) : [dg a] < [dg b] := by
  rw [List.cons_lt_cons_iff]
  refine .inl ?_
  rw [UInt8.lt_iff_toNat_lt, dg_nat, dg_nat]
  omega
theorem dL_lt : ∀ (b a : Nat), a < b → (dL a).length < (dL b).length ∨ ((dL a).length = (dL b).length ∧ dL a < dL b) := by
  intro b
  induction b using Nat.strongRecOn with
  | _ b ih =>
    intro a h
    by_cases hb : b < 10
    · rw [dL_small hb, dL_small (by omega)]
      exact .inr ⟨rfl, dg_lt (by omega)⟩
    · rw [dL_big hb]
      by_cases ha : a < 10
      · rw [dL_small ha, List.length_append]
        have := dL_len_pos (b / 10)
        exact .inl (by simp; omega)
      · rw [dL_big ha, List.length_append, List.length_append]
        by_cases hq : a / 10 < b / 10
        · rcases ih (b / 10) (by omega) (a / 10) hq with h1 | ⟨h1, h2⟩
          · exact .inl (by simp; omega)
          · exact .inr ⟨by rw [h1]; simp, lt_append _ _ h1 h2⟩
        · have e : a / 10 = b / 10 := by omega
          rw [e]
          exact .inr ⟨by simp, lt_same _ (dg_lt (by omega))⟩
theorem D_less {a b : Nat} (h : a < b) : orderF (D a) (D b) = -1 := by
  rw [orderF_eq]
  unfold nd dl
  rw [if_pos (D_every a), if_pos (D_every b), if_pos (D_every a), if_pos (D_every b), D_size, D_size]
  have e0 : cmpI 0 0 = 0 := rfl
  rw [e0]
  show orI _ _ = -1
  unfold orI
  rcases dL_lt b a h with h1 | ⟨h1, h2⟩
  · have c1 : cmpI ((dL a).length : Int) ((dL b).length : Int) = -1 := by unfold cmpI; rw [if_pos (by omega)]
    rw [c1]; rfl
  · have c1 : cmpI ((dL a).length : Int) ((dL b).length : Int) = 0 := by rw [h1, cmpI_cmp.self]
    rw [c1, if_pos rfl, cmpS_eq, show L (D a) = dL a from L_ofL _, show L (D b) = dL b from L_ofL _, if_pos h2, if_pos rfl]
theorem D_order (a b : Nat) : orderF (D a) (D b) = cmpI a b := by
  rcases Nat.lt_trichotomy a b with h | h | h
  · rw [D_less h]; unfold cmpI; rw [if_pos (by omega)]
  · rw [h, orderF_cmp.self, cmpI_cmp.self]
  · rw [orderF_cmp.anti, D_less h]; unfold cmpI; rw [if_neg (by omega), if_pos (by omega)]; rfl

/-! ### the reference's Digits -/
theorem sign_extract {m : Nat} (h : m < 10) : (⟨#[48, 49, 50, 51, 52, 53, 54, 55, 56, 57]⟩ : ByteArray).extract m (m + 1) = ofL [dg m] := by
  refine L_inj ?_
  rw [L_extract, L_ofL, Nat.add_sub_cancel_left]
  have : ∀ k : Fin 10, ((L (⟨#[48, 49, 50, 51, 52, 53, 54, 55, 56, 57]⟩ : ByteArray)).drop k.val).take 1 = [UInt8.ofNat (48 + k.val % 10)] := by decide +kernel
  exact this ⟨m, h⟩
theorem dg_mod (n : Nat) : dg (n % 10) = dg n := by unfold dg; rw [Nat.mod_mod]
def dL0 (n : Nat) : List UInt8 := if n = 0 then [] else dL n
theorem dL_split (n : Nat) : dL n = dL0 (n / 10) ++ [dg n] := by
  unfold dL0
  by_cases h : n < 10
  · rw [dL_small h, if_pos (by omega)]; rfl
  · rw [dL_big h, if_neg (by omega)]
theorem ref_Digits_loop (d : Nat) : ∀ (n k : Nat) (acc : ByteArray), n < 10 ^ d → d ≤ 18 → acc.size + d ≤ 1000 → d < k → graftbedref03_Digits.l0 k (n : Int) acc = some (ofL (dL0 n ++ L acc)) := by
  induction d with
  | zero =>
    intro n k acc h1 _ h2 h3
    obtain ⟨k, rfl⟩ : ∃ k', k = k' + 1 := ⟨k - 1, by omega⟩
    obtain rfl : n = 0 := by simpa using h1
    simp only [graftbedref03_Digits.l0]
    rw [if_neg (by omega)]
    unfold dL0
    rw [if_pos rfl, List.nil_append, ofL_L]
  | succ d ih =>
    intro n k acc h1 hd h2 h3
    obtain ⟨k, rfl⟩ : ∃ k', k = k' + 1 := ⟨k - 1, by omega⟩
    by_cases h0 : n = 0
    · subst h0
      simp only [graftbedref03_Digits.l0]
      rw [if_neg (by omega)]
      unfold dL0
      rw [if_pos rfl, List.nil_append, ofL_L]
    · have hp : 10 ^ (d + 1) ≤ 10 ^ 18 := Nat.pow_le_pow_right (by omega) hd
      have hn : n < 1000000000000000000 := by simpa using Nat.lt_of_lt_of_le h1 hp
      have m1 : Int.tmod (n : Int) 10 = ((n % 10 : Nat) : Int) := by rw [Int.tmod_eq_emod_of_nonneg (by omega)]; rfl
      have m2 : Int.tdiv (n : Int) 10 = ((n / 10 : Nat) : Int) := by rw [Int.tdiv_eq_ediv_of_nonneg (by omega)]; rfl
      have hx := sign_extract (m := n % 10) (by omega)
      have ih' := ih (n / 10) k (ofL [dg n] ++ acc) (by rw [Nat.pow_succ] at h1; omega) (by omega) (by rw [size_append, size_ofL]; simp; omega) (by omega)
      simp only [graftbedref03_Digits.l0]
      rw [if_pos (by omega), m1, m2, w64 (x := ((n % 10 : Nat) : Int) + 1) (by omega) (by omega), w64 (x := ((n / 10 : Nat) : Int)) (by omega) (by omega), if_pos (by omega), if_pos (by omega), if_pos (by omega)]
      rw [show (((n % 10 : Nat) : Int) + 1).toNat = n % 10 + 1 from rfl, Int.toNat_natCast, hx, dg_mod, if_pos (by rw [size_ofL]; simp; omega), ih']
      congr 2
      rw [L_append, L_ofL, ← List.append_assoc, ← dL_split]
      unfold dL0
      rw [if_neg h0]

theorem ref_Digits (n : Nat) (h : n < 1000000000000000000) (k : Nat) (hk : 20 ≤ k) : graftbedref03_Digits.f k (n : Int) = some (D n) := by
  have m1 : Int.tmod (n : Int) 10 = ((n % 10 : Nat) : Int) := by rw [Int.tmod_eq_emod_of_nonneg (by omega)]; rfl
  have m2 : Int.tdiv (n : Int) 10 = ((n / 10 : Nat) : Int) := by rw [Int.tdiv_eq_ediv_of_nonneg (by omega)]; rfl
  have hx := sign_extract (m := n % 10) (by omega)
  unfold graftbedref03_Digits.f
  rw [if_neg (by omega), m1, m2, w64 (x := ((n % 10 : Nat) : Int) + 1) (by omega) (by omega), w64 (x := ((n / 10 : Nat) : Int)) (by omega) (by omega), if_pos (by omega), if_pos (by omega), if_pos (by omega)]
  rw [show (((n % 10 : Nat) : Int) + 1).toNat = n % 10 + 1 from rfl, Int.toNat_natCast, hx, dg_mod]
  rw [ref_Digits_loop 18 (n / 10) k (ofL [dg n]) (by omega) (Nat.le_refl _) (by rw [size_ofL]; simp) (by omega), L_ofL, ← dL_split]
  rfl

/-! ### versions put together -/
/-- Three numbers with dots between them. -/
def nt (a b c : Nat) : List UInt8 := dL a ++ 46 :: (dL b ++ 46 :: dL c)
theorem dL_no {n : Nat} {c : UInt8} (h : digB c = false) : c ∉ dL n := fun hm => by
  have := List.all_eq_true.1 (dL_digits n) c hm
  rw [h] at this; cases this
theorem nt_no (a b c : Nat) {x : UInt8} (h : digB x = false) (h46 : x ≠ 46) : x ∉ nt a b c := by
  unfold nt
  intro hm
  rcases List.mem_append.1 hm with h1 | h1
  · exact dL_no h h1
  · rcases List.mem_cons.1 h1 with h2 | h2
    · exact h46 h2
    · rcases List.mem_append.1 h2 with h3 | h3
      · exact dL_no h h3
      · rcases List.mem_cons.1 h3 with h4 | h4
        · exact h46 h4
        · exact dL_no h h4
theorem nt_split (a b c : Nat) : splitL 46 (nt a b c) = [dL a, dL b, dL c] := by
  unfold nt
  rw [splitL_at _ (dL_no (by decide)), splitL_at _ (dL_no (by decide)), splitL_none (dL_no (by decide))]
theorem nt_len {a b c : Nat} (ha : a < 1000000000) (hb : b < 1000000000) (hc : c < 1000000000) : (nt a b c).length ≤ 29 := by
  unfold nt
  have h1 := dL_len 8 a (by simpa using ha)
  have h2 := dL_len 8 b (by simpa using hb)
  have h3 := dL_len 8 c (by simpa using hc)
  simp only [List.length_append, List.length_cons]
  omega
theorem takeWhile_append {c : UInt8} : ∀ {p : List UInt8} (q : List UInt8), c ∉ p → (p ++ q).takeWhile (· != c) = p ++ q.takeWhile (· != c)
  | [], q, _ => rfl
  | x :: p, q, h => by
    have h1 : x ≠ c := fun e => h (by rw [e]; exact List.mem_cons_self)
    have h2 : c ∉ p := fun e => h (List.mem_cons_of_mem _ e)
    rw [List.cons_append, List.takeWhile_cons, if_pos (by rw [bne_iff_ne]; exact h1), takeWhile_append q h2, List.cons_append]
theorem L_cutB {c : UInt8} {s : ByteArray} {p q : List UInt8} (h : L s = p ++ c :: q) (hp : c ∉ p) : L (cutB c s) = q := by
  have hF : cutF c s = true := (cutF_mem c s).2 (by rw [h]; simp)
  have h0 : 0 ≤ cutI c s := of_decide_eq_true hF
  unfold cutB
  rw [if_pos h0, L_tail]
  obtain ⟨h1, h2⟩ := index_split c (L s) h0
  have hi : (cutI c s).toNat = p.length := by
    have e1 : (L s).takeWhile (· != c) = p := by rw [h]; exact takeWhile_split q hp
    have e2 : (L s).takeWhile (· != c) = (L s).take (Lib.indexByte (L s) c).toNat := by
      conv => lhs; rw [h1]
      exact takeWhile_split _ h2
    have hlt := cutI_lt c s
    have e3 : p = (L s).take (cutI c s).toNat := e1.symm.trans e2
    have e4 := congrArg List.length e3
    rw [List.length_take, L_length] at e4
    omega
  rw [show (cutI c s + 1).toNat = (cutI c s).toNat + 1 from by omega, hi, h]
  rw [List.drop_append, List.drop_of_length_le (by omega), List.nil_append, Nat.add_sub_cancel_left]
  rfl

/-- A version's parts, whatever stands behind its numbers. -/
theorem rest_nt {s : ByteArray} {a b c : Nat} {T : List UInt8} (hs : L s = 118 :: (nt a b c ++ T)) (hT : T = [] ∨ T.head? = some 43 ∨ T.head? = some 45) :
    L (restOf (s.extract 1 s.size)) = nt a b c := by
  have hr : L (s.extract 1 s.size) = nt a b c ++ T := by rw [L_tail, hs]; rfl
  unfold restOf
  rw [L_cutA, L_cutA, hr, takeWhile_append _ (nt_no a b c (by decide) (by decide)), takeWhile_append _ (nt_no a b c (by decide) (by decide))]
  rcases hT with rfl | h | h
  · simp
  · cases T with
    | nil => cases h
    | cons x T => obtain rfl := Option.some.inj h; simp
  · cases T with
    | nil => cases h
    | cons x T => obtain rfl := Option.some.inj h; simp
theorem nums_nt {s : ByteArray} {a b c : Nat} (ha : a < 1000000000) (hb : b < 1000000000) (hc : c < 1000000000) (h : L (restOf (s.extract 1 s.size)) = nt a b c) :
    ok2 (s.extract 1 s.size) = true ∧ numAt (s.extract 1 s.size) 0 = a ∧ numAt (s.extract 1 s.size) 1 = b ∧ numAt (s.extract 1 s.size) 2 = c := by
  have hsp : split 46 (restOf (s.extract 1 s.size)) = [D a, D b, D c] := by rw [split_list, h, nt_split]; rfl
  have hl := split_length (restOf (s.extract 1 s.size))
  rw [hsp] at hl
  have h2 : Lib.countByte (restOf (s.extract 1 s.size)).data.toList 46 = 2 := by simpa using hl.symm
  refine ⟨?_, ?_, ?_, ?_⟩
  · unfold ok2 ok1
    rw [h2, hsp]
    simp [(D_num ha).1, (D_num hb).1, (D_num hc).1]
  · unfold numAt; rw [hsp]; exact (D_num ha).2
  · unfold numAt; rw [hsp]; exact (D_num hb).2
  · unfold numAt; rw [hsp]; exact (D_num hc).2

theorem parse_bare {s : ByteArray} {a b c : Nat} (ha : a < 1000000000) (hb : b < 1000000000) (hc : c < 1000000000) (hs : L s = 118 :: nt a b c) : parseF s = ((a : Int), (b : Int), (c : Int), (⟨#[]⟩ : ByteArray), (⟨#[]⟩ : ByteArray), (0 : Int)) := by
  have hs' : L s = 118 :: (nt a b c ++ []) := by rw [hs, List.append_nil]
  have hr : L (s.extract 1 s.size) = nt a b c := by rw [L_tail, hs]; rfl
  obtain ⟨h1, h2, h3, h4⟩ := nums_nt ha hb hc (rest_nt hs' (.inl rfl))
  have hsz : s.size ≤ 60 := by rw [← L_length, hs]; have := nt_len ha hb hc; simp only [List.length_cons]; omega
  have hm : hasMeta (s.extract 1 s.size) = false := by
    cases h : hasMeta (s.extract 1 s.size) with
    | false => rfl
    | true =>
      have := (cutF_mem 43 _).1 h
      rw [hr] at this
      exact absurd this (nt_no a b c (by decide) (by decide))
  have hp : hasPre (s.extract 1 s.size) = false := by
    cases h : hasPre (s.extract 1 s.size) with
    | false => rfl
    | true =>
      have := (cutF_mem 45 _).1 h
      rw [L_cutA, hr, takeWhile_none (nt_no a b c (by decide) (by decide))] at this
      exact absurd this (nt_no a b c (by decide) (by decide))
  have h5 : ok4 (s.extract 1 s.size) = true := by
    unfold ok4 ok3
    rw [h1, hm, hp, show metaB false = (fun _ => true) from rfl, show preB false = (fun _ => true) from rfl]
    simp
  unfold parseF
  rw [if_pos ⟨by rw [hs]; rfl, hsz, h5⟩, h2, h3, h4, show metaOf (s.extract 1 s.size) = ⟨#[]⟩ from cutB_none hm, show preOf (s.extract 1 s.size) = ⟨#[]⟩ from cutB_none hp]

/-- With something behind a '-'. -/
theorem parse_pre {s : ByteArray} {a b c : Nat} {P : List UInt8} (ha : a < 1000000000) (hb : b < 1000000000) (hc : c < 1000000000) (hs : L s = 118 :: (nt a b c ++ 45 :: P)) (h : (parseF s).2.2.2.2.2 = 0) :
    (parseF s).1 = a ∧ (parseF s).2.1 = b ∧ (parseF s).2.2.1 = c ∧ L (parseF s).2.2.2.1 = P.takeWhile (· != 43) ∧ (P.takeWhile (· != 43)) ≠ [] := by
  have hr : L (s.extract 1 s.size) = nt a b c ++ 45 :: P := by rw [L_tail, hs]; rfl
  obtain ⟨h1, h2, h3, h4⟩ := nums_nt ha hb hc (rest_nt hs (.inr (.inr rfl)))
  obtain ⟨k1, k2, k3⟩ := parse_ok h
  have hcut : L (cutA 43 (s.extract 1 s.size)) = nt a b c ++ 45 :: P.takeWhile (· != 43) := by
    rw [L_cutA, hr, takeWhile_append _ (nt_no a b c (by decide) (by decide)), List.takeWhile_cons, if_pos (by decide)]
  have hpre : L (preOf (s.extract 1 s.size)) = P.takeWhile (· != 43) := L_cutB hcut (nt_no a b c (by decide) (by decide))
  have hhas : hasPre (s.extract 1 s.size) = true := (cutF_mem 45 _).2 (by rw [hcut]; simp)
  have hne : P.takeWhile (· != 43) ≠ [] := by
    intro e
    unfold ok4 ok3 at k3
    rw [Bool.and_eq_true, Bool.and_eq_true, hhas] at k3
    have h9 := k3.1.2
    rw [split_list, hpre, e] at h9
    exact absurd h9 (by decide)
  unfold parseF
  rw [if_pos ⟨k1, k2, k3⟩]
  exact ⟨h2, h3, h4, hpre, hne⟩

end Go.Proofs.YtaddonafdllciaaDoor.Pure
