/- How a version's parts are printed: the program's text and the reference's; what is parsed of them; a version's own parts are printed as it stands. No condition but the machine's own. -/
import Derived.Test.YtaddonafdllciaaDoorMpa
import Derived.Test.YtaddonafdllciaaDoorMpb
import Derived.Test.YtaddonafdllciaaDoorPureSemDigits
import Derived.Lib.ItoaNum
namespace Go.Proofs.YtaddonafdllciaaDoor.Pure
open Go.RowKit Go.Proofs.YtaddonafdllciaaDoor.PPr Go.Proofs.YtaddonafdllciaaDoorW.PrintWords Go.Proofs.YtaddonafdllciaaDoorW.PrintLast
open Go.Proofs.YtaddonafdllciaaDoor.BytesLib Go.Proofs.YtaddonafdllciaaDoor.SemParts Go.Proofs.YtaddonafdllciaaDoor.SemNum Go.Proofs.YtaddonafdllciaaDoor.SemParse Go.Proofs.YtaddonafdllciaaDoor.SemOrder Go.Proofs.YtaddonafdllciaaDoor.SemSplit Go.Proofs.YtaddonafdllciaaDoor.SemCmp Go.Proofs.YtaddonafdllciaaDoor.SemList
set_option linter.unusedVariables false
set_option linter.unusedSimpArgs false

/-! ### numerals -/
theorem dec_dL (n : Nat) : Lib.decDigits n = dL n := by
  induction n using Nat.strongRecOn with
  | _ n ih =>
    rw [Lib.decDigits]
    by_cases h : n < 10
    · rw [dif_pos h, dL_small h]; unfold dg; rw [Nat.mod_eq_of_lt h]
    · rw [dif_neg h, dL_big h, ih (n / 10) (by omega)]; rfl
/-- A number as the program prints it; as the reference does. -/
def nP (n : Int) : List UInt8 := Lib.itoa n
theorem nP_pos (n : Nat) : nP (n : Int) = dL n := by
  unfold nP Lib.itoa
  rw [if_neg (by omega), dec_dL]; rfl
theorem dL_len19 (n : Nat) (h : n < 18446744073709551616) : (dL n).length ≤ 20 := dL_len 19 n (by omega)
theorem nP_len {n : Int} (h0 : -9223372036854775808 ≤ n) (h1 : n ≤ 9223372036854775807) : (nP n).length ≤ 21 := by
  unfold nP Lib.itoa
  split
  · rw [dec_dL]; have := dL_len19 n.natAbs (by omega); simp; omega
  · rw [dec_dL]; have := dL_len19 n.toNat (by omega); omega
/-- The text of the numbers and of what stands behind them. -/
def headT (f : Int → List UInt8) (a b c : Int) : List UInt8 := 118 :: (f a ++ 46 :: (f b ++ 46 :: f c))
def tailT (p m : List UInt8) : List UInt8 := (if p = [] then [] else 45 :: p) ++ (if m = [] then [] else 43 :: m)
def textT (f : Int → List UInt8) (a b c : Int) (p m : ByteArray) : ByteArray := ofL (headT f a b c ++ tailT (L p) (L m))
/-- What is printed. -/
def printF (t : ByteArray) (a b c : Int) (p m : ByteArray) : ByteArray × Int := if parseF t = (a, b, c, p, m, 0) then (t, 0) else (⟨#[]⟩, 30)

/-! ### a number below nought is none -/
theorem ok_parts {r : ByteArray} (h : ok2 r = true) : (split 46 (restOf r)).length = 3 ∧ ∀ x ∈ split 46 (restOf r), numB x = true := by
  unfold ok2 ok1 at h
  rw [Bool.and_eq_true, beq_iff_eq] at h
  refine ⟨?_, fun x hx => List.all_eq_true.1 h.2 x hx⟩
  have := split_length (restOf r)
  have h2 : Lib.countByte (restOf r).data.toList 46 = 2 := by have := h.1; omega
  omega
/-! ### the two functions -/
theorem text_steps (f : Int → List UInt8) (a b c : Int) (p m : ByteArray) : ∀ (A B C : ByteArray), A = ofL (f a) → B = ofL (f b) → C = ofL (f c) →
    textT f a b c p m = ((((((⟨#[118]⟩ : ByteArray) ++ A) ++ (⟨#[46]⟩ : ByteArray)) ++ B) ++ (⟨#[46]⟩ : ByteArray)) ++ C) ++ ofL (tailT (L p) (L m)) := by
  rintro A B C rfl rfl rfl
  refine L_inj ?_
  unfold textT
  simp only [L_append, L_ofL, show L (⟨#[118]⟩ : ByteArray) = [118] from rfl, show L (⟨#[46]⟩ : ByteArray) = [46] from rfl]
  unfold headT
  simp
theorem tail_steps (p m : ByteArray) : ofL (tailT (L p) (L m)) = (if p.toList = [] then (⟨#[]⟩ : ByteArray) else (⟨#[45]⟩ : ByteArray) ++ p) ++ (if m.toList = [] then (⟨#[]⟩ : ByteArray) else (⟨#[43]⟩ : ByteArray) ++ m) := by
  refine L_inj ?_
  unfold tailT
  rw [L_ofL, toList_L, toList_L, L_append]
  congr 1
  · split
    · rfl
    · rw [L_append]; rfl
  · split
    · rfl
    · rw [L_append]; rfl
theorem append_nil' (s : ByteArray) : s ++ (⟨#[]⟩ : ByteArray) = s := L_inj (by rw [L_append]; simp [L])
theorem append_assoc' (a b c : ByteArray) : a ++ b ++ c = a ++ (b ++ c) := L_inj (by simp only [L_append, List.append_assoc])

theorem same_parts (q : Int × Int × Int × ByteArray × ByteArray × Int) (a b c : Int) (p m : ByteArray) (he : q.2.2.2.2.2 = 0) :
    (!(q.1 == a) || (!(q.2.1 == b) || (!(q.2.2.1 == c) || (!(q.2.2.2.1.toList == p.toList) || (!(q.2.2.2.2.1.toList == m.toList)))))) = true ↔ ¬ q = (a, b, c, p, m, 0) := by
  obtain ⟨q1, q2, q3, q4, q5, q6⟩ := q
  dsimp only at he ⊢
  subst he
  rw [Bool.or_eq_true, Bool.or_eq_true, Bool.or_eq_true, Bool.or_eq_true]
  simp only [Bool.not_eq_true', beq_eq_false_iff_ne, ne_eq, toList_inj, Prod.mk.injEq, and_true]
  constructor
  · rintro h ⟨h1, h2, h3, h4, h5⟩
    rcases h with h | h | h | h | h
    · exact h h1
    · exact h h2
    · exact h h3
    · exact h h4
    · exact h h5
  · intro h
    by_cases h1 : q1 = a
    · by_cases h2 : q2 = b
      · by_cases h3 : q3 = c
        · by_cases h4 : q4 = p
          · exact .inr (.inr (.inr (.inr fun h5 => h ⟨h1, h2, h3, h4, h5⟩)))
          · exact .inr (.inr (.inr (.inl h4)))
        · exact .inr (.inr (.inl h3))
      · exact .inr (.inl h2)
    · exact .inl h1
theorem fin_print (t : ByteArray) (a b c : Int) (p m : ByteArray) :
    (if (parseF t).2.2.2.2.2 = 0 then (if (!((parseF t).1 == a) || (!((parseF t).2.1 == b) || (!((parseF t).2.2.1 == c) || (!((parseF t).2.2.2.1.toList == p.toList) || (!((parseF t).2.2.2.2.1.toList == m.toList)))))) = true then (some ((⟨#[]⟩ : ByteArray), (30 : Int))) else (some (t, 0))) else (some ((⟨#[]⟩ : ByteArray), 30))) = some (printF t a b c p m) := by
  unfold printF
  by_cases he : (parseF t).2.2.2.2.2 = 0
  · have h := same_parts (parseF t) a b c p m he
    rw [if_pos he]
    by_cases hq : parseF t = (a, b, c, p, m, 0)
    · rw [if_neg (fun e => h.1 e hq), if_pos hq]
    · rw [if_pos (h.2 hq), if_neg hq]
  · rw [if_neg he, if_neg (fun e => he (by rw [e]))]

theorem itoa_f {n : Int} (h0 : -9223372036854775808 ≤ n) (h1 : n ≤ 9223372036854775807) : strconv_Itoa.f n = some (ofL (nP n)) := by
  unfold strconv_Itoa.f
  rw [if_pos ⟨h0, h1⟩]; rfl

theorem prog_print (a b c : Int) (p m : ByteArray) (k : Nat) (ha0 : -9223372036854775808 ≤ a) (ha1 : a ≤ 9223372036854775807) (hb0 : -9223372036854775808 ≤ b) (hb1 : b ≤ 9223372036854775807) (hc0 : -9223372036854775808 ≤ c) (hc1 : c ≤ 9223372036854775807)
    (hp : p.size ≤ 100000) (hm : m.size ≤ 100000) : semver_Print.f (k + 1) a b c p m = some (printF (textT nP a b c p m) a b c p m) := by
  have l1 : ∀ x : UInt8, (⟨#[x]⟩ : ByteArray).size = 1 := fun _ => rfl
  have zA : (ofL (nP a)).size ≤ 21 := by rw [size_ofL]; exact nP_len ha0 ha1
  have zB : (ofL (nP b)).size ≤ 21 := by rw [size_ofL]; exact nP_len hb0 hb1
  have zC : (ofL (nP c)).size ≤ 21 := by rw [size_ofL]; exact nP_len hc0 hc1
  have hT := text_steps nP a b c p m _ _ _ rfl rfl rfl
  have hS := tail_steps p m
  obtain ⟨X, hX⟩ : ∃ X, ((((((⟨#[118]⟩ : ByteArray) ++ ofL (nP a)) ++ (⟨#[46]⟩ : ByteArray)) ++ ofL (nP b)) ++ (⟨#[46]⟩ : ByteArray)) ++ ofL (nP c)) = X := ⟨_, rfl⟩
  have zX : X.size ≤ 66 := by rw [← hX]; simp only [size_append, l1]; omega
  rw [hX, hS] at hT
  have hJ : ∀ Y : ByteArray, Y.size ≤ 200000 → textT nP a b c p m = Y ++ (if m.toList = [] then (⟨#[]⟩ : ByteArray) else (⟨#[43]⟩ : ByteArray) ++ m) →
      semver_Print.j0 (k + 1) Y a b c p m = some (printF (textT nP a b c p m) a b c p m) := by
    intro Y hY hYT
    rw [semver_Print.j0]
    unfold semver_Parse.f
    by_cases hm0 : m.toList = []
    · rw [if_pos hm0, append_nil'] at hYT
      rw [if_pos hm0, if_pos (by omega), Option.bind_some, ← hYT]
      exact fin_print _ a b c p m
    · rw [if_neg hm0] at hYT
      rw [if_neg hm0, if_pos (by omega), if_pos (by simp only [size_append, l1]; omega), if_pos (by simp only [size_append, l1]; omega), Option.bind_some, ← hYT]
      exact fin_print _ a b c p m
  unfold semver_Print.f
  rw [itoa_f ha0 ha1, itoa_f hb0 hb1, itoa_f hc0 hc1]
  simp only [Option.bind_some]
  rw [hX, if_pos (by omega), if_pos (by simp only [size_append, l1]; omega), if_pos (by simp only [size_append, l1]; omega), if_pos (by simp only [size_append, l1]; omega), if_pos (by simp only [size_append, l1]; omega)]
  by_cases hp0 : p.toList = []
  · rw [if_pos hp0]
    rw [if_pos hp0, ← append_assoc', append_nil'] at hT
    exact hJ X (by omega) hT
  · rw [if_neg hp0, if_pos (by omega), if_pos (by simp only [size_append, l1]; omega)]
    rw [if_neg hp0, ← append_assoc'] at hT
    exact hJ _ (by simp only [size_append, l1]; omega) hT

/-! ### the reference's Digits, here -/
/-! ### a version's own parts are printed as it stands -/
def jn (c : UInt8) : List (List UInt8) → List UInt8
  | [] => []
  | [x] => x
  | x :: y :: l => x ++ c :: jn c (y :: l)
theorem jn_split (c : UInt8) : ∀ l : List UInt8, jn c (splitL c l) = l
  | [] => rfl
  | x :: l => by
    have ih := jn_split c l
    have hne := splitL_ne c l
    rw [splitL]
    by_cases h : x = c
    · rw [if_pos h]
      cases hs : splitL c l with
      | nil => exact absurd hs hne
      | cons a t => rw [hs] at ih; show [] ++ c :: jn c (a :: t) = x :: l; rw [ih, h]; rfl
    · rw [if_neg h]
      cases hs : splitL c l with
      | nil => exact absurd hs hne
      | cons a t =>
        rw [hs] at ih
        cases t with
        | nil => show x :: a = x :: l; rw [← ih]; rfl
        | cons b t => show (x :: a) ++ c :: jn c (b :: t) = x :: l; rw [← ih]; rfl

theorem dg_of {d : UInt8} (h : digB d = true) : dg (d.toNat - 48) = d := by
  unfold digB at h
  rw [Bool.and_eq_true] at h
  have h1 := of_decide_eq_true h.1
  have h2 := of_decide_eq_true h.2
  have h3 : 48 ≤ d.toNat ∧ d.toNat ≤ 57 := ⟨by simpa using h1, by simpa using h2⟩
  refine UInt8.toNat_inj.1 ?_
  rw [dg_nat]
  omega
theorem head_app {q : List UInt8} (h : q ≠ []) (r : List UInt8) : (q ++ r).head? = q.head? := by
  cases q with
  | nil => exact absurd rfl h
  | cons x q => rfl
theorem dec_inv (k : Nat) : ∀ (l : List UInt8) (n : Nat), l.length = k → l ≠ [] → l.all digB = true → (1 < l.length → l.head? ≠ some 48) → Lib.decFrom 0 l = some n → dL n = l := by
  induction k using Nat.strongRecOn with
  | _ k ih =>
    intro l n hk hne hd hh hn
    obtain ⟨q, d, rfl⟩ : ∃ q d, l = q ++ [d] := ⟨l.dropLast, l.getLast hne, (List.dropLast_concat_getLast hne).symm⟩
    rw [List.all_append, Bool.and_eq_true] at hd
    have hdd : digB d = true := by have := hd.2; rw [List.all_cons, Bool.and_eq_true] at this; exact this.1
    have hdg := dg_of hdd
    have hd48 : d.toNat - 48 < 10 ∧ (d.toNat - 48) % 10 = d.toNat - 48 := by
      unfold digB at hdd
      rw [Bool.and_eq_true] at hdd
      have h2 := of_decide_eq_true hdd.2
      have h3 : d.toNat ≤ 57 := by simpa using h2
      constructor <;> omega
    rw [decFrom_append q [d] 0 hd.1] at hn
    obtain ⟨m, hm, hn⟩ := Option.bind_eq_some_iff.1 hn
    rw [← hdg, decFrom_one, hd48.2] at hn
    have hn2 := Option.some.inj hn
    by_cases hq : q = []
    · subst hq
      obtain rfl : m = 0 := (Option.some.inj hm).symm
      rw [show n = d.toNat - 48 from by omega, dL_small hd48.1, hdg]; rfl
    · have e := ih q.length (by rw [← hk]; simp) q m rfl hq hd.1 (fun h1 => by
        have := hh (by simp; omega)
        rwa [head_app hq] at this) hm
      have hm0 : m ≠ 0 := by
        rintro rfl
        rw [dL_small (by omega)] at e
        have := hh (by rw [← e]; simp)
        rw [head_app hq, ← e] at this
        exact this rfl
      rw [dL_big (by omega), show n / 10 = m from by omega, e]
      congr 1
      have : dg n = dg (d.toNat - 48) := by unfold dg; rw [show n % 10 = (d.toNat - 48) % 10 from by omega]
      rw [this, hdg]
theorem num_inv {x : ByteArray} (h : numB x = true) : ∃ n : Nat, (numF x).1 = n ∧ dL n = L x ∧ n < 1000000000 := by
  have h0 := h
  unfold numB everyB noughtB at h
  rw [Bool.and_eq_true, Bool.and_eq_true, Bool.and_eq_true] at h
  obtain ⟨⟨⟨h1, h2⟩, h3⟩, h4⟩ := h
  have hne : L x ≠ [] := fun e => by rw [e] at h2; cases h2
  obtain ⟨n, hn, _⟩ := atoi_num (s := x) (by unfold everyB; rw [h1, h2]; rfl)
  have e : (numF x).1 = (n : Int) := by unfold numF; rw [if_pos h0, hn]; rfl
  have hd : dL n = L x := dec_inv _ (L x) n rfl hne h1 (fun hl e2 => by
    rw [show decide (1 < x.size) = true from decide_eq_true (by rw [← L_length]; exact hl), e2] at h4
    unfold everyB at h4
    rw [h1, h2] at h4
    exact absurd h4 (by decide)) hn
  refine ⟨n, e, hd, ?_⟩
  have hz : (dL n).length ≤ 9 := by rw [hd, L_length]; exact of_decide_eq_true h3
  by_cases hlt : n < 1000000000
  · exact hlt
  · exfalso
    have hl : ∀ (j m : Nat), 10 ^ j ≤ m → j + 1 ≤ (dL m).length := by
      intro j
      induction j with
      | zero => intro m _; exact dL_len_pos m
      | succ j ih =>
        intro m hm
        rw [Nat.pow_succ] at hm
        have h10 : 10 ≤ m := by have := Nat.one_le_pow j 10 (by omega); omega
        rw [dL_big (by omega), List.length_append]
        have := ih (m / 10) (by omega)
        simp; omega
    have := hl 9 n (by omega)
    omega

theorem cut_whole (c : UInt8) (s : ByteArray) : L s = L (cutA c s) ++ (if cutF c s = true then c :: L (cutB c s) else []) := by
  by_cases h0 : 0 ≤ cutI c s
  · have hF : cutF c s = true := decide_eq_true h0
    have h1 := (index_split c (L s) h0).1
    rw [if_pos hF]
    unfold cutA cutB
    rw [if_pos h0, if_pos h0, L_head, L_tail, show (cutI c s + 1).toNat = (cutI c s).toNat + 1 from by omega]
    exact h1
  · have hF : cutF c s = false := decide_eq_false h0
    rw [hF, if_neg (by decide), List.append_nil]
    unfold cutA
    rw [if_neg h0]

theorem idents_ne {x : ByteArray} {p : ByteArray → Bool} (hp : p ⟨#[]⟩ = false) (h : (split 46 x).all p = true) : L x ≠ [] := by
  intro e
  rw [split_list, e] at h
  have : p (ofL []) = true := List.all_eq_true.1 h _ (by simp [splitL])
  rw [show ofL [] = (⟨#[]⟩ : ByteArray) from rfl, hp] at this
  cases this

theorem own_text {s : ByteArray} (h : (parseF s).2.2.2.2.2 = 0) : textT nP (parseF s).1 (parseF s).2.1 (parseF s).2.2.1 (parseF s).2.2.2.1 (parseF s).2.2.2.2.1 = s := by
  obtain ⟨k1, k2, k3⟩ := parse_ok h
  have hparts : parseF s = (numAt (s.extract 1 s.size) 0, numAt (s.extract 1 s.size) 1, numAt (s.extract 1 s.size) 2, preOf (s.extract 1 s.size), metaOf (s.extract 1 s.size), 0) := by
    unfold parseF; rw [if_pos ⟨k1, k2, k3⟩]
  rw [hparts]
  dsimp only
  have hs : L s = 118 :: L (s.extract 1 s.size) := by
    rw [L_tail]
    cases hl : L s with
    | nil => rw [hl] at k1; cases k1
    | cons x l => rw [hl] at k1; obtain rfl := Option.some.inj k1; rfl
  generalize s.extract 1 s.size = r at *
  unfold ok4 ok3 at k3
  rw [Bool.and_eq_true, Bool.and_eq_true] at k3
  obtain ⟨⟨o2, o3⟩, o4⟩ := k3
  obtain ⟨g1, g2⟩ := ok_parts o2
  obtain ⟨x, y, z, hxyz⟩ : ∃ x y z, split 46 (restOf r) = [x, y, z] := by
    match split 46 (restOf r), g1 with
    | [x, y, z], _ => exact ⟨x, y, z, rfl⟩
  obtain ⟨nx, ex, dx, _⟩ := num_inv (g2 x (by rw [hxyz]; simp))
  obtain ⟨ny, ey, dy, _⟩ := num_inv (g2 y (by rw [hxyz]; simp))
  obtain ⟨nz, ez, dz, _⟩ := num_inv (g2 z (by rw [hxyz]; simp))
  have hrest : L (restOf r) = L x ++ 46 :: (L y ++ 46 :: L z) := by
    have e1 := jn_split 46 (L (restOf r))
    have e2 : splitL 46 (L (restOf r)) = [L x, L y, L z] := by
      have := congrArg (List.map L) hxyz
      rw [split_list, L_map] at this
      exact this
    rw [← e1, e2]; rfl
  have n0 : numAt r 0 = (nx : Int) := by unfold numAt; rw [hxyz]; exact ex
  have n1 : numAt r 1 = (ny : Int) := by unfold numAt; rw [hxyz]; exact ey
  have n2 : numAt r 2 = (nz : Int) := by unfold numAt; rw [hxyz]; exact ez
  refine L_inj ?_
  unfold textT headT
  rw [L_ofL, n0, n1, n2, nP_pos, nP_pos, nP_pos, dx, dy, dz, ← hrest, hs, cut_whole 43 r, cut_whole 45 (cutA 43 r)]
  unfold tailT
  have hpre : (if L (preOf r) = [] then ([] : List UInt8) else 45 :: L (preOf r)) = (if cutF 45 (cutA 43 r) = true then 45 :: L (cutB 45 (cutA 43 r)) else []) := by
    cases hp : cutF 45 (cutA 43 r) with
    | false =>
      have : preOf r = ⟨#[]⟩ := cutB_none hp
      rw [this]; rfl
    | true =>
      have hh : hasPre r = true := hp
      rw [hh] at o3
      rw [if_neg (idents_ne (p := preB true) (by decide) o3), if_pos rfl]; rfl
  have hmeta : (if L (metaOf r) = [] then ([] : List UInt8) else 43 :: L (metaOf r)) = (if cutF 43 r = true then 43 :: L (cutB 43 r) else []) := by
    cases hp : cutF 43 r with
    | false =>
      have : metaOf r = ⟨#[]⟩ := cutB_none hp
      rw [this]; rfl
    | true =>
      have hh : hasMeta r = true := hp
      rw [hh] at o4
      rw [if_neg (idents_ne (p := metaB true) (by decide) o4), if_pos rfl]; rfl
  rw [hpre, hmeta]
  show 118 :: L (restOf r) ++ _ = _
  rw [List.cons_append, List.append_assoc]
  rfl

theorem parse_ints (s : ByteArray) : (0 ≤ (parseF s).1 ∧ (parseF s).1 ≤ 1000000000) ∧ (0 ≤ (parseF s).2.1 ∧ (parseF s).2.1 ≤ 1000000000) ∧ (0 ≤ (parseF s).2.2.1 ∧ (parseF s).2.2.1 ≤ 1000000000) ∧ (parseF s).2.2.2.1.size ≤ 60 ∧ (parseF s).2.2.2.2.1.size ≤ 60 := by
  by_cases h : (L s).head? = some 118 ∧ s.size ≤ 60 ∧ ok4 (s.extract 1 s.size) = true
  · have hparts : parseF s = (numAt (s.extract 1 s.size) 0, numAt (s.extract 1 s.size) 1, numAt (s.extract 1 s.size) 2, preOf (s.extract 1 s.size), metaOf (s.extract 1 s.size), 0) := by
      unfold parseF; rw [if_pos h]
    obtain ⟨_, k2, k3⟩ := h
    have h3 : (s.extract 1 s.size).size ≤ s.size := by rw [ByteArray.size_extract]; omega
    rw [hparts]
    dsimp only
    generalize s.extract 1 s.size = r at *
    have hn : ∀ i, 0 ≤ numAt r i ∧ numAt r i ≤ 1000000000 := by
      intro i
      unfold numAt
      generalize (split 46 (restOf r)).getD i ⟨#[]⟩ = x
      by_cases hx : numB x = true
      · obtain ⟨n, e, _, hl⟩ := num_inv hx
        rw [e]; omega
      · unfold numF; rw [if_neg hx]; exact ⟨Int.le_refl _, by show (0 : Int) ≤ 1000000000; omega⟩
    have h1 := cutB_le 45 (cutA 43 r)
    have h2 := cutA_le 43 r
    have h4 := cutB_le 43 r
    exact ⟨hn 0, hn 1, hn 2, by unfold preOf; omega, by unfold metaOf; omega⟩
  · have : parseF s = (0, 0, 0, ⟨#[]⟩, ⟨#[]⟩, 30) := by unfold parseF; rw [if_neg h]
    rw [this]
    exact ⟨by decide, by decide, by decide, Nat.zero_le _, Nat.zero_le _⟩
theorem parse_none : (parseF ⟨#[]⟩).2.2.2.2.2 = 30 := by
  unfold parseF
  rw [if_neg (fun h => by cases h.1)]

end Go.Proofs.YtaddonafdllciaaDoor.Pure

