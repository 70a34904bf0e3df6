/- How a version's parts are printed: the program's text and the reference's; what is parsed of them; a version's own parts are printed as it stands. No condition but the machine's own. -/
import Derived.Test.YtaddonafdllciaaDoorMpa
import Derived.Test.YtaddonafdllciaaDoorPureSemDigits
import Derived.Lib.ItoaNum
namespace Go.Proofs.YtaddonafdllciaaDoor.Pure
open Go.RowKit Go.Proofs.YtaddonafdllciaaDoor.PPr Go.Proofs.YtaddonafdllciaaDoorW.PrintWords Go.Proofs.YtaddonafdllciaaDoorW.PrintLast
open Go.Proofs.YtaddonafdllciaaDoor.BytesLib Go.Proofs.YtaddonafdllciaaDoor.SemParts Go.Proofs.YtaddonafdllciaaDoor.SemNum Go.Proofs.YtaddonafdllciaaDoor.SemParse Go.Proofs.YtaddonafdllciaaDoor.SemOrder Go.Proofs.YtaddonafdllciaaDoor.SemSplit Go.Proofs.YtaddonafdllciaaDoor.SemCmp Go.Proofs.YtaddonafdllciaaDoor.SemList
set_option linter.unusedVariables false
set_option linter.unusedSimpArgs false

/-! ### numerals -/
theorem dec_dL (n : Nat) : Lib.decDigits n = dL n := by
  induction n using Nat.strongRecOn with
  | _ n ih =>
    rw [Lib.decDigits]
    by_cases h : n < 10
    · rw [dif_pos h, dL_small h]; unfold dg; rw [Nat.mod_eq_of_lt h]
    · rw [dif_neg h, dL_big h, ih (n / 10) (by omega)]; rfl
/-- A number as the program prints it; as the reference does. -/
def nP (n : Int) : List UInt8 := Lib.itoa n
def nR (n : Int) : List UInt8 := if n < 0 then [45] else dL n.toNat
theorem nP_pos (n : Nat) : nP (n : Int) = dL n := by
  unfold nP Lib.itoa
  rw [if_neg (by omega), dec_dL]; rfl
theorem nR_pos (n : Nat) : nR (n : Int) = dL n := by
  unfold nR
  rw [if_neg (by omega)]; rfl
theorem nP_neg {n : Int} (h : n < 0) : ∃ t, nP n = 45 :: t := ⟨_, by unfold nP Lib.itoa; rw [if_pos h]⟩
theorem nR_neg {n : Int} (h : n < 0) : ∃ t, nR n = 45 :: t := ⟨[], by unfold nR; rw [if_pos h]⟩
theorem dL_len19 (n : Nat) (h : n < 18446744073709551616) : (dL n).length ≤ 20 := dL_len 19 n (by omega)
theorem nP_len {n : Int} (h0 : -9223372036854775808 ≤ n) (h1 : n ≤ 9223372036854775807) : (nP n).length ≤ 21 := by
  unfold nP Lib.itoa
  split
  · rw [dec_dL]; have := dL_len19 n.natAbs (by omega); simp; omega
  · rw [dec_dL]; have := dL_len19 n.toNat (by omega); omega
theorem nR_len {n : Int} (h1 : n ≤ 9223372036854775807) : (nR n).length ≤ 21 := by
  unfold nR
  split
  · simp
  · have := dL_len19 n.toNat (by omega); omega

/-- The text of the numbers and of what stands behind them. -/
def headT (f : Int → List UInt8) (a b c : Int) : List UInt8 := 118 :: (f a ++ 46 :: (f b ++ 46 :: f c))
def tailT (p m : List UInt8) : List UInt8 := (if p = [] then [] else 45 :: p) ++ (if m = [] then [] else 43 :: m)
def textT (f : Int → List UInt8) (a b c : Int) (p m : ByteArray) : ByteArray := ofL (headT f a b c ++ tailT (L p) (L m))
/-- What is printed. -/
def printF (t : ByteArray) (a b c : Int) (p m : ByteArray) : ByteArray × Int := if parseF t = (a, b, c, p, m, 0) then (t, 0) else (⟨#[]⟩, 30)

/-! ### a number below nought is none -/
theorem ok_parts {r : ByteArray} (h : ok2 r = true) : (split 46 (restOf r)).length = 3 ∧ ∀ x ∈ split 46 (restOf r), numB x = true := by
  unfold ok2 ok1 at h
  rw [Bool.and_eq_true, beq_iff_eq] at h
  refine ⟨?_, fun x hx => List.all_eq_true.1 h.2 x hx⟩
  have := split_length (restOf r)
  have h2 : Lib.countByte (restOf r).data.toList 46 = 2 := by have := h.1; omega
  omega
theorem bad_rest {s : ByteArray} {X T : List UInt8} (hs : L s = 118 :: (X ++ 45 :: T)) (h1 : (45 : UInt8) ∉ X) (h2 : (43 : UInt8) ∉ X) (h3 : (splitL 46 X).length ≠ 3 ∨ [] ∈ splitL 46 X) : (parseF s).2.2.2.2.2 ≠ 0 := by
  intro h
  obtain ⟨_, _, k⟩ := parse_ok h
  have hr : L (s.extract 1 s.size) = X ++ 45 :: T := by rw [L_tail, hs]; rfl
  have hrest : L (restOf (s.extract 1 s.size)) = X := by
    unfold restOf
    rw [L_cutA, L_cutA, hr, takeWhile_append _ h2, List.takeWhile_cons, if_pos (by decide), takeWhile_split _ h1]
  have k2 : ok2 (s.extract 1 s.size) = true := by unfold ok4 ok3 at k; rw [Bool.and_eq_true, Bool.and_eq_true] at k; exact k.1.1
  obtain ⟨g1, g2⟩ := ok_parts k2
  rw [split_list, hrest] at g1 g2
  rcases h3 with h3 | h3
  · rw [List.length_map] at g1; exact h3 g1
  · have := g2 (ofL []) (List.mem_map.2 ⟨[], h3, rfl⟩)
    exact absurd this (by decide)
theorem neg_bad (f : Int → List UInt8) (hp : ∀ n : Nat, f (n : Int) = dL n) (hn : ∀ n : Int, n < 0 → ∃ t, f n = 45 :: t) (a b c : Int) (p m : ByteArray) (h : a < 0 ∨ b < 0 ∨ c < 0) : (parseF (textT f a b c p m)).2.2.2.2.2 ≠ 0 := by
  have n45 := fun n => dL_no (n := n) (c := 45) (by decide)
  have n43 := fun n => dL_no (n := n) (c := 43) (by decide)
  have n46 := fun n => dL_no (n := n) (c := 46) (by decide)
  have hT : L (textT f a b c p m) = headT f a b c ++ tailT (L p) (L m) := L_ofL _
  by_cases ha : a < 0
  · obtain ⟨t, e⟩ := hn a ha
    refine bad_rest (X := []) (T := t ++ 46 :: (f b ++ 46 :: f c) ++ tailT (L p) (L m)) ?_ (by simp) (by simp) (.inl (by decide))
    rw [hT]; unfold headT; rw [e]; simp
  · obtain ⟨a', rfl⟩ : ∃ n : Nat, a = n := ⟨a.toNat, by omega⟩
    by_cases hb : b < 0
    · obtain ⟨t, e⟩ := hn b hb
      refine bad_rest (X := dL a' ++ [46]) (T := t ++ 46 :: f c ++ tailT (L p) (L m)) ?_ ?_ ?_ (.inl ?_)
      · rw [hT]; unfold headT; rw [e, hp a']; simp
      · intro h; rcases List.mem_append.1 h with h | h
        · exact n45 a' h
        · simp at h
      · intro h; rcases List.mem_append.1 h with h | h
        · exact n43 a' h
        · simp at h
      · rw [splitL_at [] (n46 a')]; simp [splitL]
    · obtain ⟨b', rfl⟩ : ∃ n : Nat, b = n := ⟨b.toNat, by omega⟩
      have hc : c < 0 := by omega
      obtain ⟨t, e⟩ := hn c hc
      refine bad_rest (X := dL a' ++ 46 :: (dL b' ++ [46])) (T := t ++ tailT (L p) (L m)) ?_ ?_ ?_ (.inr ?_)
      · rw [hT]; unfold headT; rw [e, hp a', hp b']; simp
      · intro h; rcases List.mem_append.1 h with h | h
        · exact n45 a' h
        · rcases List.mem_cons.1 h with h | h
          · exact absurd h (by decide)
          · rcases List.mem_append.1 h with h | h
            · exact n45 b' h
            · simp at h
      · intro h; rcases List.mem_append.1 h with h | h
        · exact n43 a' h
        · rcases List.mem_cons.1 h with h | h
          · exact absurd h (by decide)
          · rcases List.mem_append.1 h with h | h
            · exact n43 b' h
            · simp at h
      · rw [splitL_at _ (n46 a'), splitL_at [] (n46 b')]; simp [splitL]

theorem print_bad {t : ByteArray} (h : (parseF t).2.2.2.2.2 ≠ 0) (a b c : Int) (p m : ByteArray) : printF t a b c p m = (⟨#[]⟩, 30) := by
  unfold printF
  rw [if_neg (fun e => h (by rw [e]))]
/-- The two print alike. -/
theorem print_alike (a b c : Int) (p m : ByteArray) : printF (textT nP a b c p m) a b c p m = printF (textT nR a b c p m) a b c p m := by
  by_cases h : a < 0 ∨ b < 0 ∨ c < 0
  · rw [print_bad (neg_bad nP nP_pos (fun n => nP_neg) a b c p m h), print_bad (neg_bad nR nR_pos (fun n => nR_neg) a b c p m h)]
  · obtain ⟨a', rfl⟩ : ∃ n : Nat, a = n := ⟨a.toNat, by omega⟩
    obtain ⟨b', rfl⟩ : ∃ n : Nat, b = n := ⟨b.toNat, by omega⟩
    obtain ⟨c', rfl⟩ : ∃ n : Nat, c = n := ⟨c.toNat, by omega⟩
    unfold textT headT
    rw [nP_pos, nP_pos, nP_pos, nR_pos, nR_pos, nR_pos]

/-! ### the two functions -/
theorem text_steps (f : Int → List UInt8) (a b c : Int) (p m : ByteArray) : ∀ (A B C : ByteArray), A = ofL (f a) → B = ofL (f b) → C = ofL (f c) →
    textT f a b c p m = ((((((⟨#[118]⟩ : ByteArray) ++ A) ++ (⟨#[46]⟩ : ByteArray)) ++ B) ++ (⟨#[46]⟩ : ByteArray)) ++ C) ++ ofL (tailT (L p) (L m)) := by
  rintro A B C rfl rfl rfl
  refine L_inj ?_
  unfold textT
  simp only [L_append, L_ofL, show L (⟨#[118]⟩ : ByteArray) = [118] from rfl, show L (⟨#[46]⟩ : ByteArray) = [46] from rfl]
  unfold headT
  simp
theorem tail_steps (p m : ByteArray) : ofL (tailT (L p) (L m)) = (if p.toList = [] then (⟨#[]⟩ : ByteArray) else (⟨#[45]⟩ : ByteArray) ++ p) ++ (if m.toList = [] then (⟨#[]⟩ : ByteArray) else (⟨#[43]⟩ : ByteArray) ++ m) := by
  refine L_inj ?_
  unfold tailT
  rw [L_ofL, toList_L, toList_L, L_append]
  congr 1
  · split
    · rfl
    · rw [L_append]; rfl
  · split
    · rfl
    · rw [L_append]; rfl
theorem append_nil' (s : ByteArray) : s ++ (⟨#[]⟩ : ByteArray) = s := L_inj (by rw [L_append]; simp [L])
theorem append_assoc' (a b c : ByteArray) : a ++ b ++ c = a ++ (b ++ c) := L_inj (by simp only [L_append, List.append_assoc])

theorem same_parts (q : Int × Int × Int × ByteArray × ByteArray × Int) (a b c : Int) (p m : ByteArray) (he : q.2.2.2.2.2 = 0) :
    (!(q.1 == a) || (!(q.2.1 == b) || (!(q.2.2.1 == c) || (!(q.2.2.2.1.toList == p.toList) || (!(q.2.2.2.2.1.toList == m.toList)))))) = true ↔ ¬ q = (a, b, c, p, m, 0) := by
  obtain ⟨q1, q2, q3, q4, q5, q6⟩ := q
  dsimp only at he ⊢
  subst he
  rw [Bool.or_eq_true, Bool.or_eq_true, Bool.or_eq_true, Bool.or_eq_true]
  simp only [Bool.not_eq_true', beq_eq_false_iff_ne, ne_eq, toList_inj, Prod.mk.injEq, and_true]
  constructor
  · rintro h ⟨h1, h2, h3, h4, h5⟩
    rcases h with h | h | h | h | h
    · exact h h1
    · exact h h2
    · exact h h3
    · exact h h4
    · exact h h5
  · intro h
    by_cases h1 : q1 = a
    · by_cases h2 : q2 = b
      · by_cases h3 : q3 = c
        · by_cases h4 : q4 = p
          · exact .inr (.inr (.inr (.inr fun h5 => h ⟨h1, h2, h3, h4, h5⟩)))
          · exact .inr (.inr (.inr (.inl h4)))
        · exact .inr (.inr (.inl h3))
      · exact .inr (.inl h2)
    · exact .inl h1
theorem fin_print (t : ByteArray) (a b c : Int) (p m : ByteArray) :
    (if (parseF t).2.2.2.2.2 = 0 then (if (!((parseF t).1 == a) || (!((parseF t).2.1 == b) || (!((parseF t).2.2.1 == c) || (!((parseF t).2.2.2.1.toList == p.toList) || (!((parseF t).2.2.2.2.1.toList == m.toList)))))) = true then (some ((⟨#[]⟩ : ByteArray), (30 : Int))) else (some (t, 0))) else (some ((⟨#[]⟩ : ByteArray), 30))) = some (printF t a b c p m) := by
  unfold printF
  by_cases he : (parseF t).2.2.2.2.2 = 0
  · have h := same_parts (parseF t) a b c p m he
    rw [if_pos he]
    by_cases hq : parseF t = (a, b, c, p, m, 0)
    · rw [if_neg (fun e => h.1 e hq), if_pos hq]
    · rw [if_pos (h.2 hq), if_neg hq]
  · rw [if_neg he, if_neg (fun e => he (by rw [e]))]

theorem itoa_f {n : Int} (h0 : -9223372036854775808 ≤ n) (h1 : n ≤ 9223372036854775807) : strconv_Itoa.f n = some (ofL (nP n)) := by
  unfold strconv_Itoa.f
  rw [if_pos ⟨h0, h1⟩]; rfl

theorem prog_print (a b c : Int) (p m : ByteArray) (k : Nat) (ha0 : -9223372036854775808 ≤ a) (ha1 : a ≤ 9223372036854775807) (hb0 : -9223372036854775808 ≤ b) (hb1 : b ≤ 9223372036854775807) (hc0 : -9223372036854775808 ≤ c) (hc1 : c ≤ 9223372036854775807)
    (hp : p.size ≤ 100000) (hm : m.size ≤ 100000) : semver_Print.f (k + 1) a b c p m = some (printF (textT nP a b c p m) a b c p m) := by
  have l1 : ∀ x : UInt8, (⟨#[x]⟩ : ByteArray).size = 1 := fun _ => rfl
  have zA : (ofL (nP a)).size ≤ 21 := by rw [size_ofL]; exact nP_len ha0 ha1
  have zB : (ofL (nP b)).size ≤ 21 := by rw [size_ofL]; exact nP_len hb0 hb1
  have zC : (ofL (nP c)).size ≤ 21 := by rw [size_ofL]; exact nP_len hc0 hc1
  have hT := text_steps nP a b c p m _ _ _ rfl rfl rfl
  have hS := tail_steps p m
  obtain ⟨X, hX⟩ : ∃ X, ((((((⟨#[118]⟩ : ByteArray) ++ ofL (nP a)) ++ (⟨#[46]⟩ : ByteArray)) ++ ofL (nP b)) ++ (⟨#[46]⟩ : ByteArray)) ++ ofL (nP c)) = X := ⟨_, rfl⟩
  have zX : X.size ≤ 66 := by rw [← hX]; simp only [size_append, l1]; omega
  rw [hX, hS] at hT
  have hJ : ∀ Y : ByteArray, Y.size ≤ 200000 → textT nP a b c p m = Y ++ (if m.toList = [] then (⟨#[]⟩ : ByteArray) else (⟨#[43]⟩ : ByteArray) ++ m) →
      semver_Print.j0 (k + 1) Y a b c p m = some (printF (textT nP a b c p m) a b c p m) := by
    intro Y hY hYT
    rw [semver_Print.j0]
    unfold semver_Parse.f
    by_cases hm0 : m.toList = []
    · rw [if_pos hm0, append_nil'] at hYT
      rw [if_pos hm0, if_pos (by omega), Option.bind_some, ← hYT]
      exact fin_print _ a b c p m
    · rw [if_neg hm0] at hYT
      rw [if_neg hm0, if_pos (by omega), if_pos (by simp only [size_append, l1]; omega), if_pos (by simp only [size_append, l1]; omega), Option.bind_some, ← hYT]
      exact fin_print _ a b c p m
  unfold semver_Print.f
  rw [itoa_f ha0 ha1, itoa_f hb0 hb1, itoa_f hc0 hc1]
  simp only [Option.bind_some]
  rw [hX, if_pos (by omega), if_pos (by simp only [size_append, l1]; omega), if_pos (by simp only [size_append, l1]; omega), if_pos (by simp only [size_append, l1]; omega), if_pos (by simp only [size_append, l1]; omega)]
  by_cases hp0 : p.toList = []
  · rw [if_pos hp0]
    rw [if_pos hp0, ← append_assoc', append_nil'] at hT
    exact hJ X (by omega) hT
  · rw [if_neg hp0, if_pos (by omega), if_pos (by simp only [size_append, l1]; omega)]
    rw [if_neg hp0, ← append_assoc'] at hT
    exact hJ _ (by simp only [size_append, l1]; omega) hT

/-! ### the reference's Digits, here -/
theorem prt_Digits_loop (d : Nat) : ∀ (n k : Nat) (acc : ByteArray), n < 10 ^ d → d ≤ 18 → acc.size + d ≤ 1000 → d < k → graftbedref03_Digits.l0 k (n : Int) acc = some (ofL (dL0 n ++ L acc)) := by
  induction d with
  | zero =>
    intro n k acc h1 _ h2 h3
    obtain ⟨k, rfl⟩ : ∃ k', k = k' + 1 := ⟨k - 1, by omega⟩
    obtain rfl : n = 0 := by simpa using h1
    simp only [graftbedref03_Digits.l0]
    rw [if_neg (by omega)]
    unfold dL0
    rw [if_pos rfl, List.nil_append, ofL_L]
  | succ d ih =>
    intro n k acc h1 hd h2 h3
    obtain ⟨k, rfl⟩ : ∃ k', k = k' + 1 := ⟨k - 1, by omega⟩
    by_cases h0 : n = 0
    · subst h0
      simp only [graftbedref03_Digits.l0]
      rw [if_neg (by omega)]
      unfold dL0
      rw [if_pos rfl, List.nil_append, ofL_L]
    · have hp : 10 ^ (d + 1) ≤ 10 ^ 18 := Nat.pow_le_pow_right (by omega) hd
      have hn : n < 1000000000000000000 := by simpa using Nat.lt_of_lt_of_le h1 hp
      have m1 : Int.tmod (n : Int) 10 = ((n % 10 : Nat) : Int) := by rw [Int.tmod_eq_emod_of_nonneg (by omega)]; rfl
      have m2 : Int.tdiv (n : Int) 10 = ((n / 10 : Nat) : Int) := by rw [Int.tdiv_eq_ediv_of_nonneg (by omega)]; rfl
      have hx := sign_extract (m := n % 10) (by omega)
      have ih' := ih (n / 10) k (ofL [dg n] ++ acc) (by rw [Nat.pow_succ] at h1; omega) (by omega) (by rw [size_append, size_ofL]; simp; omega) (by omega)
      simp only [graftbedref03_Digits.l0]
      rw [if_pos (by omega), m1, m2, w64 (x := ((n % 10 : Nat) : Int) + 1) (by omega) (by omega), w64 (x := ((n / 10 : Nat) : Int)) (by omega) (by omega), if_pos (by omega), if_pos (by omega), if_pos (by omega)]
      rw [show (((n % 10 : Nat) : Int) + 1).toNat = n % 10 + 1 from rfl, Int.toNat_natCast, hx, dg_mod, if_pos (by rw [size_ofL]; simp; omega), ih']
      congr 2
      rw [L_append, L_ofL, ← List.append_assoc, ← dL_split]
      unfold dL0
      rw [if_neg h0]
theorem prt_Digits (n : Int) (h : n ≤ 9223372036854775807) (k : Nat) (hk : 20 ≤ k) : graftbedref03_Digits.f k n = some (ofL (nR n)) := by
  by_cases h0 : n < 0
  · unfold graftbedref03_Digits.f nR
    rw [if_pos h0, if_pos h0]; rfl
  · obtain ⟨n, rfl⟩ : ∃ m : Nat, n = m := ⟨n.toNat, by omega⟩
    have m1 : Int.tmod (n : Int) 10 = ((n % 10 : Nat) : Int) := by rw [Int.tmod_eq_emod_of_nonneg (by omega)]; rfl
    have m2 : Int.tdiv (n : Int) 10 = ((n / 10 : Nat) : Int) := by rw [Int.tdiv_eq_ediv_of_nonneg (by omega)]; rfl
    have hx := sign_extract (m := n % 10) (by omega)
    rw [nR_pos]
    unfold graftbedref03_Digits.f
    rw [if_neg (by omega), m1, m2, w64 (x := ((n % 10 : Nat) : Int) + 1) (by omega) (by omega), w64 (x := ((n / 10 : Nat) : Int)) (by omega) (by omega), if_pos (by omega), if_pos (by omega), if_pos (by omega)]
    rw [show (((n % 10 : Nat) : Int) + 1).toNat = n % 10 + 1 from rfl, Int.toNat_natCast, hx, dg_mod]
    rw [prt_Digits_loop 18 (n / 10) k (ofL [dg n]) (by omega) (Nat.le_refl _) (by rw [size_ofL]; simp) (by omega), L_ofL, ← dL_split]

theorem ref_print (a b c : Int) (p m : ByteArray) (k : Nat) (hk : 20 ≤ k) (ha1 : a ≤ 9223372036854775807) (hb1 : b ≤ 9223372036854775807) (hc1 : c ≤ 9223372036854775807)
    (hp : p.size ≤ 100000) (hm : m.size ≤ 100000) : graftbedref03_Print.f (k + 1) a b c p m = some (printF (textT nR a b c p m) a b c p m) := by
  have l1 : ∀ x : UInt8, (⟨#[x]⟩ : ByteArray).size = 1 := fun _ => rfl
  have zA : (ofL (nR a)).size ≤ 21 := by rw [size_ofL]; exact nR_len ha1
  have zB : (ofL (nR b)).size ≤ 21 := by rw [size_ofL]; exact nR_len hb1
  have zC : (ofL (nR c)).size ≤ 21 := by rw [size_ofL]; exact nR_len hc1
  have hT := text_steps nR a b c p m _ _ _ rfl rfl rfl
  have hS := tail_steps p m
  obtain ⟨X, hX⟩ : ∃ X, ((((((⟨#[118]⟩ : ByteArray) ++ ofL (nR a)) ++ (⟨#[46]⟩ : ByteArray)) ++ ofL (nR b)) ++ (⟨#[46]⟩ : ByteArray)) ++ ofL (nR c)) = X := ⟨_, rfl⟩
  have zX : X.size ≤ 66 := by rw [← hX]; simp only [size_append, l1]; omega
  rw [hX, hS] at hT
  have hJ : ∀ Y : ByteArray, Y.size ≤ 200000 → textT nR a b c p m = Y ++ (if m.toList = [] then (⟨#[]⟩ : ByteArray) else (⟨#[43]⟩ : ByteArray) ++ m) →
      graftbedref03_Print.j0 (k + 1) Y a b c p m = some (printF (textT nR a b c p m) a b c p m) := by
    intro Y hY hYT
    rw [graftbedref03_Print.j0]
    unfold graftbedref03_Parse.f
    by_cases hm0 : m.toList = []
    · rw [if_pos hm0, append_nil'] at hYT
      rw [if_pos hm0, if_pos (by omega), Option.bind_some, ← hYT]
      exact fin_print _ a b c p m
    · rw [if_neg hm0, ← append_assoc'] at hYT
      rw [if_neg hm0, if_pos (by omega), if_pos (by simp only [size_append, l1]; omega), if_pos (by simp only [size_append, l1]; omega), Option.bind_some, ← hYT]
      exact fin_print _ a b c p m
  unfold graftbedref03_Print.f
  rw [prt_Digits a ha1 (k + 1) (by omega), prt_Digits b hb1 (k + 1) (by omega), prt_Digits c hc1 (k + 1) (by omega)]
  simp only [Option.bind_some]
  rw [hX, if_pos (by omega), if_pos (by simp only [size_append, l1]; omega), if_pos (by simp only [size_append, l1]; omega), if_pos (by simp only [size_append, l1]; omega), if_pos (by simp only [size_append, l1]; omega)]
  by_cases hp0 : p.toList = []
  · rw [if_pos hp0]
    rw [if_pos hp0, ← append_assoc', append_nil'] at hT
    exact hJ X (by omega) hT
  · rw [if_neg hp0, if_pos (by omega), if_pos (by simp only [size_append, l1]; omega)]
    rw [if_neg hp0, ← append_assoc', ← append_assoc'] at hT
    exact hJ _ (by simp only [size_append, l1]; omega) hT

/-! ### a version's own parts are printed as it stands -/
theorem parse_none : (parseF ⟨#[]⟩).2.2.2.2.2 = 30 := by
  unfold parseF
  rw [if_neg (fun h => by cases h.1)]

end Go.Proofs.YtaddonafdllciaaDoor.Pure

