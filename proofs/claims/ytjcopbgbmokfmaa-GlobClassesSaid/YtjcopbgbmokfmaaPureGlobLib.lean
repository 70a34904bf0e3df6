/- What the reference says of patterns, in lists of bytes. -/
import Derived.Test.YtjcopbgbmokfmaaPAllx3
import Derived.Test.YtjcopbgbmokfmaaPAllx4
namespace Go.Proofs.Ytjcopbgbmokfmaa.Pure
open Go.RowKit Go.Proofs.Ytjcopbgbmokfmaa.PAll Go.Proofs.YtjcopbgbmokfmaaW.PrintWords Go.Proofs.YtjcopbgbmokfmaaW.PrintLast
open Go.Proofs.Ytjcopbgbmokfmaa.BytesLib Go.Proofs.Ytjcopbgbmokfmaa.GlobLib Go.Proofs.Ytjcopbgbmokfmaa.GlobNext Go.Proofs.Ytjcopbgbmokfmaa.GlobClass Go.Proofs.Ytjcopbgbmokfmaa.GlobPieces Go.Proofs.Ytjcopbgbmokfmaa.GlobMain
set_option linter.unusedVariables false

theorem u8_int {a b : UInt8} : ((a.toNat : Int) = (b.toNat : Int)) ↔ a = b := by
  constructor
  · intro h; exact UInt8.toNat_inj.1 (by omega)
  · rintro rfl; rfl

def oneR (l : List UInt8) : Int × Int := match nextB [45, 93] l with
  | none => (0, 0)
  | some (c, r) => ((c.toNat : Int), (l.length : Int) - r.length)

theorem nextB_split {b l : List UInt8} {c : UInt8} {r : List UInt8} (h : nextB b l = some (c, r)) : (l = c :: r ∧ c ∉ b ∧ c ≠ 92) ∨ (l = 92 :: c :: r ∧ (92 : UInt8) ∉ b) := by
  cases l with
  | nil => cases h
  | cons x l =>
    have h : (if x ∈ b then none else if x = 92 then (match l with | [] => none | d :: l' => some (d, l')) else some (x, l)) = some (c, r) := h
    by_cases h1 : x ∈ b
    · rw [if_pos h1] at h; cases h
    · rw [if_neg h1] at h
      by_cases h2 : x = 92
      · rw [if_pos h2] at h
        cases l with
        | nil => cases h
        | cons d l => cases h; subst h2; exact .inr ⟨rfl, h1⟩
      · rw [if_neg h2] at h; cases h; exact .inl ⟨rfl, h1, h2⟩
theorem nextB_plain {b : List UInt8} {c : UInt8} (r : List UInt8) (h1 : c ∉ b) (h2 : c ≠ 92) : nextB b (c :: r) = some (c, r) := by
  show (if c ∈ b then none else if c = 92 then _ else some (c, r)) = _
  rw [if_neg h1, if_neg h2]
theorem nextB_back {b : List UInt8} (c : UInt8) (r : List UInt8) (h1 : (92 : UInt8) ∉ b) : nextB b (92 :: c :: r) = some (c, r) := by
  show (if (92 : UInt8) ∈ b then none else if (92 : UInt8) = 92 then some (c, r) else _) = _
  rw [if_neg h1, if_pos rfl]
theorem nextB_mem {b l : List UInt8} {c : UInt8} {r : List UInt8} (h : nextB b l = some (c, r)) : c ∈ l := by
  rcases nextB_split h with ⟨rfl, _⟩ | ⟨rfl, _⟩ <;> simp
theorem nextB_app {b l : List UInt8} {c : UInt8} {r : List UInt8} (h : nextB b l = some (c, r)) (t : List UInt8) : nextB b (l ++ t) = some (c, r ++ t) := by
  rcases nextB_split h with ⟨rfl, h1, h2⟩ | ⟨rfl, h1⟩
  · exact nextB_plain _ h1 h2
  · exact nextB_back _ _ h1
theorem nextB_drop {b l : List UInt8} {c : UInt8} {r : List UInt8} (h : nextB b l = some (c, r)) : r = l.drop (l.length - r.length) := by
  rcases nextB_split h with ⟨rfl, h1, h2⟩ | ⟨rfl, h1⟩
  · simp
  · rw [show (92 :: c :: r).length - r.length = 2 by simp; omega]; rfl

theorem nextB_stop {b : List UInt8} {c : UInt8} (l : List UInt8) (h : c ∈ b) : nextB b (c :: l) = none := by
  show (if c ∈ b then none else _) = none
  rw [if_pos h]

theorem ref_one (s : ByteArray) : Ev (fun k => graftbedref15_one.f k s) (oneR (L s)) := by
  have hl := L_length s
  have ht := toList_L s
  cases h : L s with
  | nil =>
    rw [h] at ht
    refine Ev.congr (f := fun k => graftbedref15_one.j0 k s true) (fun k => ?_) (Ev.step (f := fun _ => some (0, 0)) (fun k => ?_) (Ev.now _))
    · unfold graftbedref15_one.f; rw [if_pos ht]
    · simp only [graftbedref15_one.j0]; rw [if_pos trivial]
  | cons c r =>
    rw [h] at ht hl
    simp only [List.length_cons] at hl
    have hb : bt s 0 = (c.toNat : Int) := bt_get (i := 0) (by rw [h]; rfl)
    have hne : ¬ s.toList = [] := by rw [ht]; simp
    by_cases h45 : c = 45
    · subst h45
      have e : oneR (45 :: r) = (0, 0) := by unfold oneR; rw [nextB_stop r (by decide)]
      rw [e]
      refine Ev.congr (f := fun k => graftbedref15_one.j0 k s true) (fun k => ?_) (Ev.step (f := fun _ => some (0, 0)) (fun k => ?_) (Ev.now _))
      · unfold graftbedref15_one.f; rw [if_neg hne, if_pos (by omega), if_pos (by rw [hb]; rfl)]
      · simp only [graftbedref15_one.j0]; rw [if_pos trivial]
    · have n45 : ¬ bt s 0 = 45 := by rw [hb]; exact fun e => h45 (u8_int.1 (e.trans rfl))
      by_cases h93 : c = 93
      · subst h93
        have e : oneR (93 :: r) = (0, 0) := by unfold oneR; rw [nextB_stop r (by decide)]
        rw [e]
        refine Ev.congr (f := fun k => graftbedref15_one.j0 k s true) (fun k => ?_) (Ev.step (f := fun _ => some (0, 0)) (fun k => ?_) (Ev.now _))
        · unfold graftbedref15_one.f; rw [if_neg hne, if_pos (by omega), if_neg n45, hb]; rfl
        · simp only [graftbedref15_one.j0]; rw [if_pos trivial]
      · have n93 : (bt s 0 == 93) = false := by rw [hb, beq_eq_false_iff_ne]; exact fun e => h93 (u8_int.1 (e.trans rfl))
        have hnm : c ∉ [(45 : UInt8), 93] := by simp [h45, h93]
        refine Ev.congr (f := fun k => graftbedref15_one.j0 k s false) (fun k => ?_) (Ev.step (f := fun _ => some (oneR (c :: r))) (fun k => ?_) (Ev.now _))
        · unfold graftbedref15_one.f; rw [if_neg hne, if_pos (by omega), if_neg n45, n93]
        · simp only [graftbedref15_one.j0]
          rw [if_neg (by decide), if_pos (by omega)]
          by_cases h92 : c = 92
          · subst h92
            rw [if_pos (by rw [hb]; rfl)]
            cases r with
            | nil => rw [if_pos (by simp at hl; omega)]; rfl
            | cons d r =>
              simp only [List.length_cons] at hl
              rw [if_neg (by omega), if_pos (by omega)]
              have hb1 : bt s 1 = (d.toNat : Int) := bt_get (i := 1) (by rw [h]; rfl)
              unfold oneR
              rw [nextB_back d r (by decide), hb1]
              simp
              omega
          · rw [if_neg (by rw [hb]; exact fun e => h92 (u8_int.1 (e.trans rfl)))]
            unfold oneR
            rw [nextB_plain r hnm h92, hb]
            simp
            omega

theorem ref_one_at (s : ByteArray) (i : Nat) : Ev (fun k => graftbedref15_one.f k (s.extract i s.size)) (oneR ((L s).drop i)) := by
  have := ref_one (s.extract i s.size)
  rwa [L_tail] at this

/-- What a piece's parse tells as a number: how many bytes it takes, none: 0. -/
def pieceN (l : List UInt8) : Option (Pc × List UInt8) → Int
  | none => 0
  | some (_, r) => (l.length : Int) - r.length
def rngN (l : List UInt8) : Option ((Nat → Bool) × List UInt8) → Int
  | none => 0
  | some (_, r) => (l.length : Int) - r.length

theorem head_drop (s : ByteArray) (i : Nat) (h : i < s.size) : ∃ c, (L s).drop i = c :: (L s).drop (i + 1) ∧ bt s (i : Int) = (c.toNat : Int) := by
  have hl := L_length s
  refine ⟨(L s)[i]'(by omega), List.drop_eq_getElem_cons (by omega), bt_nat (by omega)⟩

/-- The rest of a range's round, from its first byte on. -/
theorem ref_round (s : ByteArray) (hs : s.size ≤ 1099511627776) (i m : Nat) (lo : UInt8) (l1 : List UInt8) (tab : Nat → Bool) (n : Nat)
    (hm : m ≤ i) (hi : i < s.size) (hn : nextB [45, 93] ((L s).drop i) = some (lo, l1))
    (ih : ∀ (i' : Nat) (tab' : Nat → Bool), i < i' → i' ≤ s.size → Ev (fun k => graftbedref15_piece.l0 k s (i' : Int) ((m + 1 : Nat) : Int)) (rngN (L s) (rng n true tab' ((L s).drop i')))) :
    Ev (fun k => graftbedref15_piece.j3 k s (i : Int) (m : Int) true) (rngN (L s) (match range2 lo l1 with
            | none => none
            | some (hi, l2) => if hi < lo then none else rng n true (setR tab lo.toNat hi.toNat) l2)) := by
  have hl := L_length s
  have hlen := nextB_len hn
  rw [List.length_drop] at hlen
  have hd := nextB_drop hn
  rw [List.drop_drop, List.length_drop] at hd
  obtain ⟨j, hj⟩ : ∃ j, j = s.size - l1.length := ⟨_, rfl⟩
  have hdj : l1 = (L s).drop j := by
    have e : i + ((L s).length - i - l1.length) = j := by omega
    rw [e] at hd
    exact hd
  have hl1 : l1.length = s.size - j := by rw [hdj, List.length_drop]; omega
  have hone : oneR ((L s).drop i) = ((lo.toNat : Int), ((j - i : Nat) : Int)) := by
    unfold oneR; rw [hn]; simp only [List.length_drop]; rw [Prod.mk.injEq]; exact ⟨rfl, by omega⟩
  have h1 := ref_one_at s i
  rw [hone] at h1
  have hw := Aside0.mk (show wrap64 ((i : Int) + ((j - i : Nat) : Int)) = (j : Int) by rw [w64 (by omega) (by omega)]; omega)
  have hw2 := Aside0.mk (show wrap64 ((m : Int) + 1) = ((m + 1 : Nat) : Int) by rw [w64 (by omega) (by omega)]; omega)
  have hw3 := Aside0.mk (show wrap64 ((j : Int) + 1) = ((j + 1 : Nat) : Int) by rw [w64 (by omega) (by omega)]; omega)
  have hij : i < j := by omega
  have hjle : j ≤ s.size := by omega
  have HD := Aside0.mk hd
  have HN := Aside0.mk hn
  have HO := Aside0.mk hone
  clear hd hn hone hj
  have key : Ev (fun k => if (wrap64 ((i : Int) + ((j - i : Nat) : Int))) < (s.size : Int) then (if 0 ≤ (wrap64 ((i : Int) + ((j - i : Nat) : Int))) then (graftbedref15_piece.j4 k s (wrap64 ((i : Int) + ((j - i : Nat) : Int))) (wrap64 ((m : Int) + 1)) (lo.toNat : Int) ((bt s (wrap64 ((i : Int) + ((j - i : Nat) : Int)))) == 45)) else (none)) else (graftbedref15_piece.j4 k s (wrap64 ((i : Int) + ((j - i : Nat) : Int))) (wrap64 ((m : Int) + 1)) (lo.toNat : Int) false)) (rngN (L s) (match range2 lo l1 with
            | none => none
            | some (hi, l2) => if hi < lo then none else rng n true (setR tab lo.toNat hi.toNat) l2)) := by
    rw [hw.out, hw2.out]
    have plain : l1.head? ≠ some 45 → Ev (fun k => graftbedref15_piece.j4 k s (j : Int) ((m + 1 : Nat) : Int) (lo.toNat : Int) false) (rngN (L s) (match range2 lo l1 with
            | none => none
            | some (hi, l2) => if hi < lo then none else rng n true (setR tab lo.toNat hi.toNat) l2)) := by
      intro h45
      unfold range2
      rw [if_neg h45]
      refine Ev.step (f := fun k => graftbedref15_piece.l0 k s (j : Int) ((m + 1 : Nat) : Int)) (fun k => ?_) ?_
      · simp only [graftbedref15_piece.j4]; rw [if_neg (by decide)]
      · dsimp only
        rw [if_neg (by rw [UInt8.lt_iff_toNat_lt]; omega), hdj]
        exact ih j _ (by omega) (by omega)
    by_cases hjs : j < s.size
    · obtain ⟨c, hc1, hc2⟩ := head_drop s j hjs
      have hh : l1.head? = some c := by rw [hdj, hc1]; rfl
      have ht : l1.tail = (L s).drop (j + 1) := by rw [hdj, hc1]; rfl
      by_cases h45 : c = 45
      · subst h45
        have hb : (bt s (j : Int) == 45) = true := by rw [hc2]; rfl
        have h2 := ref_one_at s (j + 1)
        refine Ev.congr (f := fun k => graftbedref15_piece.j4 k s (j : Int) ((m + 1 : Nat) : Int) (lo.toNat : Int) true) (fun k => ?_) ?_
        · rw [if_pos (by omega), if_pos (by omega), hb]
        · unfold range2
          rw [if_pos hh, ht]
          cases hn2 : nextB [45, 93] ((L s).drop (j + 1)) with
          | none =>
            have ho2 : oneR ((L s).drop (j + 1)) = (0, 0) := by unfold oneR; rw [hn2]
            rw [ho2] at h2
            refine Ev.step (f := fun k => (graftbedref15_one.f k (s.extract (((j + 1 : Nat) : Int)).toNat s.size)).bind fun bt111 => (if bt111.2 = 0 then (some 0) else (if bt111.1 < (lo.toNat : Int) then (some 0) else (graftbedref15_piece.l0 k s (wrap64 (((j + 1 : Nat) : Int) + bt111.2)) ((m + 1 : Nat) : Int))))) (fun k => ?_) ?_
            · simp only [graftbedref15_piece.j4]
              rw [if_pos trivial, hw3.out, if_pos (by omega), if_pos (by omega)]
            · rw [Int.toNat_natCast]
              exact Ev.bind h2 (Ev.congr (fun k => if_pos rfl) (Ev.now _))
          | some q =>
            obtain ⟨hi2, l2⟩ := q
            have hlen2 := nextB_len hn2
            rw [List.length_drop] at hlen2
            have hd2 := nextB_drop hn2
            rw [List.drop_drop, List.length_drop] at hd2
            obtain ⟨j2, hj2⟩ : ∃ j2, j2 = s.size - l2.length := ⟨_, rfl⟩
            have hdj2 : l2 = (L s).drop j2 := by
              have e : j + 1 + ((L s).length - (j + 1) - l2.length) = j2 := by omega
              rw [e] at hd2
              exact hd2
            have hl2 : l2.length = s.size - j2 := by rw [hdj2, List.length_drop]; omega
            have ho2 : oneR ((L s).drop (j + 1)) = ((hi2.toNat : Int), ((j2 - (j + 1) : Nat) : Int)) := by
              unfold oneR; rw [hn2]; simp only [List.length_drop]; rw [Prod.mk.injEq]; exact ⟨rfl, by omega⟩
            rw [ho2] at h2
            have hw4 := Aside0.mk (show wrap64 (((j + 1 : Nat) : Int) + ((j2 - (j + 1) : Nat) : Int)) = (j2 : Int) by rw [w64 (by omega) (by omega)]; omega)
            have hjj : j + 1 < j2 := by omega
            have hj2le : j2 ≤ s.size := by omega
            clear hd2 hj2
            refine Ev.step (f := fun k => (graftbedref15_one.f k (s.extract (((j + 1 : Nat) : Int)).toNat s.size)).bind fun bt111 => (if bt111.2 = 0 then (some 0) else (if bt111.1 < (lo.toNat : Int) then (some 0) else (graftbedref15_piece.l0 k s (wrap64 (((j + 1 : Nat) : Int) + bt111.2)) ((m + 1 : Nat) : Int))))) (fun k => ?_) ?_
            · simp only [graftbedref15_piece.j4]
              rw [if_pos trivial, hw3.out, if_pos (by omega), if_pos (by omega)]
            · rw [Int.toNat_natCast]
              refine Ev.bind h2 ?_
              dsimp only
              by_cases hlt : hi2 < lo
              · rw [if_pos hlt]
                refine Ev.congr (f := fun _ => some 0) (fun k => ?_) (Ev.now _)
                rw [if_neg (by omega), if_pos (by rw [UInt8.lt_iff_toNat_lt] at hlt; omega)]
              · rw [if_neg hlt, hdj2]
                refine Ev.congr (f := fun k => graftbedref15_piece.l0 k s (j2 : Int) ((m + 1 : Nat) : Int)) (fun k => ?_) (ih j2 _ (by omega) (by omega))
                rw [if_neg (by omega), if_neg (by rw [UInt8.lt_iff_toNat_lt] at hlt; omega), hw4.out]
      · have hb : (bt s (j : Int) == 45) = false := by rw [hc2, beq_eq_false_iff_ne]; exact fun e => h45 (u8_int.1 (e.trans rfl))
        refine Ev.congr (f := fun k => graftbedref15_piece.j4 k s (j : Int) ((m + 1 : Nat) : Int) (lo.toNat : Int) false) (fun k => ?_) (plain (by rw [hh]; simp [h45]))
        rw [if_pos (by omega), if_pos (by omega), hb]
    · refine Ev.congr (f := fun k => graftbedref15_piece.j4 k s (j : Int) ((m + 1 : Nat) : Int) (lo.toNat : Int) false) (fun k => ?_) (plain ?_)
      · rw [if_neg (by omega)]
      · have : l1 = [] := List.length_eq_zero_iff.1 (by omega)
        rw [this]; simp
  refine Ev.step (f := fun k => (graftbedref15_one.f k (s.extract ((i : Int)).toNat s.size)).bind fun bt107 => (if bt107.2 = 0 then (some 0) else ((graftbedref15_one.f k (s.extract ((i : Int)).toNat s.size)).bind fun bt109 => (if (wrap64 ((i : Int) + bt107.2)) < (s.size : Int) then (if 0 ≤ (wrap64 ((i : Int) + bt107.2)) then (graftbedref15_piece.j4 k s (wrap64 ((i : Int) + bt107.2)) (wrap64 ((m : Int) + 1)) bt109.1 ((bt s (wrap64 ((i : Int) + bt107.2))) == 45)) else (none)) else (graftbedref15_piece.j4 k s (wrap64 ((i : Int) + bt107.2)) (wrap64 ((m : Int) + 1)) bt109.1 false))))) (fun k => ?_) ?_
  · simp only [graftbedref15_piece.j3]
    rw [if_pos trivial, if_pos (by omega), if_pos (by omega)]
  · rw [Int.toNat_natCast]
    refine Ev.bind h1 (Ev.congr (f := fun k => (graftbedref15_one.f k (s.extract i s.size)).bind fun bt109 => (if (wrap64 ((i : Int) + ((j - i : Nat) : Int))) < (s.size : Int) then (if 0 ≤ (wrap64 ((i : Int) + ((j - i : Nat) : Int))) then (graftbedref15_piece.j4 k s (wrap64 ((i : Int) + ((j - i : Nat) : Int))) (wrap64 ((m : Int) + 1)) bt109.1 ((bt s (wrap64 ((i : Int) + ((j - i : Nat) : Int)))) == 45)) else (none)) else (graftbedref15_piece.j4 k s (wrap64 ((i : Int) + ((j - i : Nat) : Int))) (wrap64 ((m : Int) + 1)) bt109.1 false))) (fun k => ?_) (Ev.bind h1 key))
    dsimp only
    rw [if_neg (by omega)]

theorem ref_class (s : ByteArray) (hs : s.size ≤ 1099511627776) : ∀ (n i m : Nat) (tab : Nat → Bool), i ≤ s.size → s.size - i < n → m ≤ i →
    Ev (fun k => graftbedref15_piece.l0 k s (i : Int) (m : Int)) (rngN (L s) (rng n (decide (0 < m)) tab ((L s).drop i)))
  | 0, i, m, tab, _, h, _ => absurd h (Nat.not_lt_zero _)
  | n + 1, i, m, tab, h1, h2, h3 => by
    have hl := L_length s
    by_cases hi : i < s.size
    · obtain ⟨c, hc1, hc2⟩ := head_drop s i hi
      by_cases h93 : c = 93
      · subst h93
        have hb : (bt s (i : Int) != 93) = false := by rw [hc2]; rfl
        refine Ev.step (f := fun k => graftbedref15_piece.j3 k s (i : Int) (m : Int) false) (fun k => ?_) ?_
        · simp only [graftbedref15_piece.l0]; rw [if_pos (by omega), if_pos (by omega), hb]
        · by_cases hm : m = 0
          · subst hm
            have e : rng (n + 1) (decide (0 < 0)) tab ((L s).drop i) = none := by
              unfold rng
              rw [if_neg (by simp), hc1, nextB_stop _ (by decide)]
            rw [e]
            refine Ev.step (f := fun _ => some 0) (fun k => ?_) (Ev.now _)
            simp only [graftbedref15_piece.j3]; rw [if_neg (by decide), if_pos (by simp)]
          · have e : rng (n + 1) (decide (0 < m)) tab ((L s).drop i) = some (tab, (L s).drop (i + 1)) := by
              unfold rng
              rw [if_pos ⟨decide_eq_true (by omega), by rw [hc1]; rfl⟩, hc1]; rfl
            rw [e]
            refine Ev.step (f := fun _ => some (rngN (L s) (some (tab, (L s).drop (i + 1))))) (fun k => ?_) (Ev.now _)
            simp only [graftbedref15_piece.j3]; rw [if_neg (by decide), if_neg (by omega), if_neg (by omega), w64 (by omega) (by omega)]
            simp only [rngN, List.length_drop]
            congr 1
            omega
      · have hb : (bt s (i : Int) != 93) = true := by rw [hc2, bne_iff_ne]; exact fun e => h93 (u8_int.1 (e.trans rfl))
        refine Ev.step (f := fun k => graftbedref15_piece.j3 k s (i : Int) (m : Int) true) (fun k => ?_) ?_
        · simp only [graftbedref15_piece.l0]; rw [if_pos (by omega), if_pos (by omega), hb]
        · have hno : ¬ (decide (0 < m) = true ∧ ((L s).drop i).head? = some 93) := by
            rintro ⟨_, e⟩
            rw [hc1] at e
            exact h93 (Option.some.inj e)
          cases hn : nextB [45, 93] ((L s).drop i) with
          | none =>
            have e : rng (n + 1) (decide (0 < m)) tab ((L s).drop i) = none := by
              unfold rng
              rw [if_neg hno, hn]
            rw [e]
            have ho : oneR ((L s).drop i) = (0, 0) := by unfold oneR; rw [hn]
            have h1 := ref_one_at s i
            rw [ho] at h1
            refine Ev.step (f := fun k => (graftbedref15_one.f k (s.extract ((i : Int)).toNat s.size)).bind fun bt107 => (if bt107.2 = 0 then (some 0) else ((graftbedref15_one.f k (s.extract ((i : Int)).toNat s.size)).bind fun bt109 => (if (wrap64 ((i : Int) + bt107.2)) < (s.size : Int) then (if 0 ≤ (wrap64 ((i : Int) + bt107.2)) then (graftbedref15_piece.j4 k s (wrap64 ((i : Int) + bt107.2)) (wrap64 ((m : Int) + 1)) bt109.1 ((bt s (wrap64 ((i : Int) + bt107.2))) == 45)) else (none)) else (graftbedref15_piece.j4 k s (wrap64 ((i : Int) + bt107.2)) (wrap64 ((m : Int) + 1)) bt109.1 false))))) (fun k => ?_) ?_
            · simp only [graftbedref15_piece.j3]
              rw [if_pos trivial, if_pos (by omega), if_pos (by omega)]
            · rw [Int.toNat_natCast]
              exact Ev.bind h1 (Ev.congr (fun k => if_pos rfl) (Ev.now _))
          | some q =>
            obtain ⟨lo, l1⟩ := q
            have e : rng (n + 1) (decide (0 < m)) tab ((L s).drop i) = (match range2 lo l1 with
                | none => none
                | some (hi, l2) => if hi < lo then none else rng n true (setR tab lo.toNat hi.toNat) l2) := by
              conv => lhs; unfold rng
              rw [if_neg hno, hn]
              unfold range2
              dsimp only
              by_cases h45 : l1.head? = some 45
              · rw [if_pos h45, if_pos h45]; rfl
              · rw [if_neg h45, if_neg h45]
                dsimp only
                rw [if_neg (by rw [UInt8.lt_iff_toNat_lt]; omega)]
            rw [e]
            refine ref_round s hs i m lo l1 tab n h3 hi hn (fun i' tab' hi1 hi2 => ?_)
            have := ref_class s hs n i' (m + 1) tab' hi2 (by omega) (by omega)
            rwa [decide_eq_true (by omega)] at this
    · obtain rfl : i = s.size := by omega
      have hnil : (L s).drop s.size = [] := List.drop_of_length_le (by omega)
      have e : rng (n + 1) (decide (0 < m)) tab ((L s).drop s.size) = none := by
        rw [hnil]
        unfold rng
        rw [if_neg (by simp)]; rfl
      rw [e]
      refine Ev.step (f := fun k => graftbedref15_piece.j3 k s (s.size : Int) (m : Int) false) (fun k => ?_) (Ev.step (f := fun _ => some 0) (fun k => ?_) (Ev.now _))
      · simp only [graftbedref15_piece.l0]; rw [if_neg (by omega)]
      · simp only [graftbedref15_piece.j3]; rw [if_neg (by decide)]
        by_cases hm : (m : Int) = 0
        · rw [if_pos hm]
        · rw [if_neg hm, if_pos (by omega)]

theorem pieceN_cls (l l2 : List UInt8) (no : Bool) : ∀ o : Option ((Nat → Bool) × List UInt8), pieceN l (match o with | none => none | some (tab, l') => some (Pc.cls tab no, l')) = rngN l o
  | none => rfl
  | some (tab, r) => rfl

theorem ref_piece (s : ByteArray) (hs : s.size ≤ 1099511627776) (h0 : 0 < s.size) : Ev (fun k => graftbedref15_piece.f k s) (pieceN (L s) (first (L s))) := by
  have hl := L_length s
  obtain ⟨c, hc1, hc2⟩ := head_drop s 0 h0
  rw [List.drop_zero] at hc1
  have hb : bt s 0 = (c.toNat : Int) := hc2
  have hlen : ((L s).drop 1).length = s.size - 1 := by rw [List.length_drop, hl]
  have hF : first (L s) = if c = 42 then some (.star, (L s).drop 1) else if c = 63 then some (.any, (L s).drop 1) else if c = 91 then classL ((L s).drop 1) else
      match nextB [] (c :: (L s).drop 1) with
      | none => none
      | some (b, r') => some (.byte b, r') := by
    conv => lhs; rw [hc1]
    rfl
  have one : Int := 1
  by_cases h92 : c = 92
  · subst h92
    rw [hF, if_neg (by decide), if_neg (by decide), if_neg (by decide)]
    by_cases h1 : 1 < s.size
    · obtain ⟨d, hd1, _⟩ := head_drop s 1 h1
      rw [hd1, nextB_back _ _ (by decide)]
      refine Ev.congr (f := fun _ => some (pieceN (L s) (some (.byte d, (L s).drop (1 + 1))))) (fun k => ?_) (Ev.now _)
      unfold graftbedref15_piece.f
      rw [if_pos (by omega), if_pos (by rw [hb]; rfl), if_pos (by omega)]
      simp only [pieceN, List.length_drop]
      congr 1
      omega
    · have : (L s).drop 1 = [] := List.length_eq_zero_iff.1 (by omega)
      rw [this]
      refine Ev.congr (f := fun _ => some 0) (fun k => ?_) (Ev.now _)
      unfold graftbedref15_piece.f
      rw [if_pos (by omega), if_pos (by rw [hb]; rfl), if_neg (by omega)]
  · have n92 : ¬ bt s 0 = 92 := by rw [hb]; exact fun e => h92 (u8_int.1 (e.trans rfl))
    by_cases h91 : c = 91
    · subst h91
      rw [hF, if_neg (by decide), if_neg (by decide), if_pos rfl]
      have e91 : bt s 0 = 91 := by rw [hb]; rfl
      have j1 : ∀ i : Nat, i ≤ s.size → Ev (fun k => graftbedref15_piece.j1 k s (i : Int)) (rngN (L s) (rng (((L s).drop i).length + 1) false (fun _ => false) ((L s).drop i))) := fun i hi =>
        Ev.step (fun k => by simp only [graftbedref15_piece.j1]; rfl) (ref_class s hs _ i 0 _ hi (by rw [List.length_drop, hl]; omega) (by omega))
      by_cases h1 : 1 < s.size
      · obtain ⟨d, hd1, hd2⟩ := head_drop s 1 h1
        by_cases h94 : d = 94
        · subst h94
          have hcl : classL ((L s).drop 1) = match rng (((L s).drop 2).length + 1) false (fun _ => false) ((L s).drop 2) with
              | none => none
              | some (tab, l') => some (Pc.cls tab true, l') := by
            rw [hd1]; rfl
          rw [hcl, pieceN_cls _ []]
          refine Ev.congr (f := fun k => graftbedref15_piece.j0 k s 1 true) (fun k => ?_) (Ev.step (f := fun k => graftbedref15_piece.j1 k s 2) (fun k => ?_) (j1 2 (by omega)))
          · unfold graftbedref15_piece.f
            rw [if_pos (by omega), if_neg n92, if_pos e91, if_pos (by omega), if_pos (by omega), show bt s 1 = ((94 : UInt8).toNat : Int) from hd2]; rfl
          · simp only [graftbedref15_piece.j0]; rw [if_pos trivial]
        · have hcl : classL ((L s).drop 1) = match rng (((L s).drop 1).length + 1) false (fun _ => false) ((L s).drop 1) with
              | none => none
              | some (tab, l') => some (Pc.cls tab false, l') := by
            have hh : ¬ ((L s).drop 1).head? = some 94 := by rw [hd1]; simpa using h94
            unfold classL
            rw [if_neg hh, decide_eq_false hh]; rfl
          rw [hcl, pieceN_cls _ []]
          refine Ev.congr (f := fun k => graftbedref15_piece.j0 k s 1 false) (fun k => ?_) (Ev.step (f := fun k => graftbedref15_piece.j1 k s 1) (fun k => ?_) (j1 1 (by omega)))
          · unfold graftbedref15_piece.f
            rw [if_pos (by omega), if_neg n92, if_pos e91, if_pos (by omega), if_pos (by omega), show bt s 1 = (d.toNat : Int) from hd2, show (((d.toNat : Int)) == 94) = false from by rw [beq_eq_false_iff_ne]; exact fun e => h94 (u8_int.1 (e.trans rfl))]
          · simp only [graftbedref15_piece.j0]; rw [if_neg (by decide)]
      · have hnil : (L s).drop 1 = [] := List.length_eq_zero_iff.1 (by omega)
        have hcl : classL ((L s).drop 1) = match rng (((L s).drop 1).length + 1) false (fun _ => false) ((L s).drop 1) with
              | none => none
              | some (tab, l') => some (Pc.cls tab false, l') := by
          rw [hnil]; rfl
        rw [hcl, pieceN_cls _ []]
        refine Ev.congr (f := fun k => graftbedref15_piece.j0 k s 1 false) (fun k => ?_) (Ev.step (f := fun k => graftbedref15_piece.j1 k s 1) (fun k => ?_) (j1 1 (by omega)))
        · unfold graftbedref15_piece.f
          rw [if_pos (by omega), if_neg n92, if_pos e91, if_neg (by omega)]
        · simp only [graftbedref15_piece.j0]; rw [if_neg (by decide)]
    · have n91 : ¬ bt s 0 = 91 := by rw [hb]; exact fun e => h91 (u8_int.1 (e.trans rfl))
      have hv : pieceN (L s) (first (L s)) = 1 := by
        rw [hF, if_neg h91]
        have : ∀ p : Pc, pieceN (L s) (some (p, (L s).drop 1)) = 1 := fun p => by simp only [pieceN, hlen, hl]; omega
        by_cases h42 : c = 42
        · rw [if_pos h42]; exact this _
        · rw [if_neg h42]
          by_cases h63 : c = 63
          · rw [if_pos h63]; exact this _
          · rw [if_neg h63, nextB_plain _ (by simp) h92]; exact this _
      rw [hv]
      refine Ev.congr (f := fun _ => some 1) (fun k => ?_) (Ev.now _)
      unfold graftbedref15_piece.f
      rw [if_pos (by omega), if_neg n92, if_neg n91]

theorem pcs_fuel : ∀ (n m : Nat) (l : List UInt8), l.length < n → l.length < m → pcs n l = pcs m l
  | 0, _, _, h, _ => absurd h (Nat.not_lt_zero _)
  | _ + 1, 0, _, _, h => absurd h (Nat.not_lt_zero _)
  | n + 1, m + 1, l, h1, h2 => by
    unfold pcs
    by_cases h : l = []
    · rw [if_pos h, if_pos h]
    · rw [if_neg h, if_neg h]
      cases hf : first l with
      | none => rfl
      | some q =>
        obtain ⟨p, r⟩ := q
        have := first_len hf
        dsimp only
        rw [pcs_fuel n m r (by omega) (by omega)]
theorem patt_nil : patt [] = some [] := rfl
theorem patt_cons {l : List UInt8} (h : l ≠ []) : patt l = match first l with
    | none => none
    | some (p, r) => (patt r).map (p :: ·) := by
  conv => lhs; unfold patt pcs
  rw [if_neg h]
  cases hf : first l with
  | none => rfl
  | some q =>
    obtain ⟨p, r⟩ := q
    have := first_len hf
    dsimp only
    unfold patt
    rw [pcs_fuel l.length (r.length + 1) r (by omega) (by omega)]
theorem first_drop {l : List UInt8} {p : Pc} {r : List UInt8} : first l = some (p, r) → ∃ u, l = u ++ r := by
  have hr : ∀ (n : Nat) (many : Bool) (tab : Nat → Bool) (l : List UInt8) (tab' : Nat → Bool) (l' : List UInt8), rng n many tab l = some (tab', l') → ∃ u, l = u ++ l' := by
    intro n
    induction n with
    | zero => intro many tab l tab' l' h; cases h
    | succ n ih =>
      intro many tab l tab' l' h
      unfold rng at h
      by_cases h1 : many = true ∧ l.head? = some 93
      · rw [if_pos h1] at h
        cases h
        cases l with
        | nil => cases h1.2
        | cons x l => exact ⟨[x], rfl⟩
      · rw [if_neg h1] at h
        cases hN : nextB [45, 93] l with
        | none => rw [hN] at h; cases h
        | some q =>
          obtain ⟨lo, l1⟩ := q
          rw [hN] at h
          have hu : ∃ u, l = u ++ l1 := by
            rcases nextB_split hN with ⟨rfl, _⟩ | ⟨rfl, _⟩
            · exact ⟨[lo], rfl⟩
            · exact ⟨[92, lo], rfl⟩
          obtain ⟨u, rfl⟩ := hu
          dsimp only at h
          by_cases h2 : l1.head? = some 45
          · rw [if_pos h2] at h
            cases hN2 : nextB [45, 93] l1.tail with
            | none => rw [hN2] at h; cases h
            | some q2 =>
              obtain ⟨hi, l2⟩ := q2
              rw [hN2] at h
              have hu2 : ∃ u, l1.tail = u ++ l2 := by
                rcases nextB_split hN2 with ⟨e, _⟩ | ⟨e, _⟩
                · exact ⟨[hi], e⟩
                · exact ⟨[92, hi], e⟩
              obtain ⟨u2, e2⟩ := hu2
              cases l1 with
              | nil => cases h2
              | cons x l1 =>
                rw [List.tail_cons] at e2
                subst e2
                dsimp only at h
                by_cases h3 : hi < lo
                · rw [if_pos h3] at h; cases h
                · rw [if_neg h3] at h
                  obtain ⟨u3, rfl⟩ := ih _ _ _ _ _ h
                  exact ⟨u ++ x :: u2 ++ u3, by simp⟩
          · rw [if_neg h2] at h
            obtain ⟨u3, rfl⟩ := ih _ _ _ _ _ h
            exact ⟨u ++ u3, by simp⟩
  intro h
  cases l with
  | nil => cases h
  | cons c l =>
    have h : (if c = 42 then some (.star, l) else if c = 63 then some (.any, l) else if c = 91 then classL l else
      match nextB [] (c :: l) with
      | none => none
      | some (b, r') => some (.byte b, r')) = some (p, r) := h
    by_cases h1 : c = 42
    · rw [if_pos h1] at h; cases h; exact ⟨[c], rfl⟩
    · rw [if_neg h1] at h
      by_cases h2 : c = 63
      · rw [if_pos h2] at h; cases h; exact ⟨[c], rfl⟩
      · rw [if_neg h2] at h
        by_cases h3 : c = 91
        · rw [if_pos h3] at h
          unfold classL at h
          cases hr2 : rng ((if l.head? = some 94 then l.tail else l).length + 1) false (fun _ => false) (if l.head? = some 94 then l.tail else l) with
          | none => rw [hr2] at h; cases h
          | some q =>
            obtain ⟨tab, r2⟩ := q
            rw [hr2] at h
            cases h
            obtain ⟨u, hu⟩ := hr _ _ _ _ _ _ hr2
            by_cases h4 : l.head? = some 94
            · rw [if_pos h4] at hu
              cases l with
              | nil => cases h4
              | cons x l =>
                rw [List.tail_cons] at hu
                exact ⟨c :: x :: u, by rw [hu]; rfl⟩
            · rw [if_neg h4] at hu
              exact ⟨c :: u, by rw [hu]; rfl⟩
        · rw [if_neg h3] at h
          cases hN : nextB [] (c :: l) with
          | none => rw [hN] at h; cases h
          | some q =>
            obtain ⟨b, r'⟩ := q
            rw [hN] at h
            cases h
            rcases nextB_split hN with ⟨e, _⟩ | ⟨e, _⟩
            · exact ⟨[b], e⟩
            · exact ⟨[92, b], e⟩

end Go.Proofs.Ytjcopbgbmokfmaa.Pure
