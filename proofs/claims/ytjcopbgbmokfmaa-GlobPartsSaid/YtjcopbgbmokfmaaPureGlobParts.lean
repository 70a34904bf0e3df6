/- What two patterns match, one behind the other, is, somewhere, two texts that each matches: the plain law. -/
import Derived.Test.YtjcopbgbmokfmaaPAllx1
import Derived.Test.YtjcopbgbmokfmaaPAllx10
import Derived.Test.YtjcopbgbmokfmaaPAllx13
import Derived.Test.YtjcopbgbmokfmaaPAllx14
import Derived.Test.YtjcopbgbmokfmaaPAllx5
import Derived.Test.YtjcopbgbmokfmaaPureGlobRef
namespace Go.Proofs.Ytjcopbgbmokfmaa.Pure
open Go.RowKit Go.Proofs.Ytjcopbgbmokfmaa.PAll Go.Proofs.YtjcopbgbmokfmaaW.PrintWords Go.Proofs.YtjcopbgbmokfmaaW.PrintLast
open Go.Proofs.Ytjcopbgbmokfmaa.BytesLib Go.Proofs.Ytjcopbgbmokfmaa.GlobLib Go.Proofs.Ytjcopbgbmokfmaa.GlobNext Go.Proofs.Ytjcopbgbmokfmaa.GlobClass Go.Proofs.Ytjcopbgbmokfmaa.GlobPieces Go.Proofs.Ytjcopbgbmokfmaa.GlobMain
set_option linter.unusedVariables false

theorem rng_app (t : List UInt8) : ∀ (n n' : Nat) (many : Bool) (tab : Nat → Bool) (l : List UInt8) (tab' : Nat → Bool) (r : List UInt8), n ≤ n' → rng n many tab l = some (tab', r) → rng n' many tab (l ++ t) = some (tab', r ++ t)
  | 0, _, _, _, _, _, _, _, h => by cases h
  | n + 1, 0, _, _, _, _, _, h, _ => absurd h (by omega)
  | n + 1, n' + 1, many, tab, l, tab', r, hn, h => by
    unfold rng at h ⊢
    by_cases h1 : many = true ∧ l.head? = some 93
    · rw [if_pos h1] at h
      cases h
      cases l with
      | nil => cases h1.2
      | cons x l => rw [if_pos (show many = true ∧ (x :: l ++ t).head? = some 93 from h1)]; rfl
    · rw [if_neg h1] at h
      cases hN : nextB [45, 93] l with
      | none => rw [hN] at h; cases h
      | some q =>
        obtain ⟨lo, l1⟩ := q
        rw [hN] at h
        have h1' : ¬ (many = true ∧ (l ++ t).head? = some 93) := by
          cases l with
          | nil => cases hN
          | cons x l => exact h1
        rw [if_neg h1', nextB_app hN]
        dsimp only at h ⊢
        cases l1 with
        | nil =>
          rw [if_neg (by simp)] at h
          cases n with
          | zero => cases h
          | succ n => unfold rng at h; rw [if_neg (by simp)] at h; cases h
        | cons x l1 =>
          by_cases h2 : (x :: l1).head? = some 45
          · rw [if_pos h2] at h
            rw [if_pos (by exact h2)]
            cases hN2 : nextB [45, 93] (x :: l1).tail with
            | none => rw [hN2] at h; cases h
            | some q2 =>
              obtain ⟨hi, l2⟩ := q2
              rw [hN2] at h
              rw [List.tail_cons] at hN2
              rw [show ((x :: l1) ++ t).tail = l1 ++ t from rfl, nextB_app hN2]
              dsimp only at h ⊢
              by_cases h3 : hi < lo
              · rw [if_pos h3] at h; cases h
              · rw [if_neg h3] at h ⊢
                exact rng_app t n n' _ _ _ _ _ (by omega) h
          · rw [if_neg h2] at h
            rw [if_neg (by exact h2)]
            exact rng_app t n n' _ _ _ _ _ (by omega) h

theorem first_app (t : List UInt8) {l : List UInt8} {p : Pc} {r : List UInt8} (h : first l = some (p, r)) : first (l ++ t) = some (p, r ++ t) := by
  cases l with
  | nil => cases h
  | cons c l =>
    have h : (if c = 42 then some (.star, l) else if c = 63 then some (.any, l) else if c = 91 then classL l else
      match nextB [] (c :: l) with
      | none => none
      | some (b, r') => some (.byte b, r')) = some (p, r) := h
    show (if c = 42 then some (.star, l ++ t) else if c = 63 then some (.any, l ++ t) else if c = 91 then classL (l ++ t) else
      match nextB [] (c :: l ++ t) with
      | none => none
      | some (b, r') => some (.byte b, r')) = some (p, r ++ t)
    by_cases h1 : c = 42
    · rw [if_pos h1] at h ⊢; cases h; rfl
    · rw [if_neg h1] at h ⊢
      by_cases h2 : c = 63
      · rw [if_pos h2] at h ⊢; cases h; rfl
      · rw [if_neg h2] at h ⊢
        by_cases h3 : c = 91
        · rw [if_pos h3] at h ⊢
          unfold classL at h ⊢
          cases hr : rng ((if l.head? = some 94 then l.tail else l).length + 1) false (fun _ => false) (if l.head? = some 94 then l.tail else l) with
          | none => rw [hr] at h; cases h
          | some q =>
            obtain ⟨tab, r2⟩ := q
            rw [hr] at h
            cases h
            cases l with
            | nil => cases hr
            | cons x l =>
              have e1 : ((x :: l) ++ t).head? = (x :: l).head? := rfl
              rw [e1]
              by_cases h4 : (x :: l).head? = some 94
              · rw [if_pos h4] at hr ⊢
                rw [show ((x :: l) ++ t).tail = l ++ t from rfl]
                rw [List.tail_cons] at hr
                rw [rng_app t _ ((l ++ t).length + 1) _ _ _ _ _ (by simp) hr]
              · rw [if_neg h4] at hr ⊢
                rw [rng_app t _ (((x :: l) ++ t).length + 1) _ _ _ _ _ (by simp) hr]
        · rw [if_neg h3] at h ⊢
          cases hN : nextB [] (c :: l) with
          | none => rw [hN] at h; cases h
          | some q =>
            obtain ⟨b, r'⟩ := q
            rw [hN] at h
            cases h
            rw [nextB_app hN]

theorem patt_app (b : List UInt8) : ∀ (n : Nat) (a : List UInt8) (l1 : List Pc), a.length < n → patt a = some l1 → patt (a ++ b) = (patt b).map (l1 ++ ·)
  | 0, _, _, h, _ => absurd h (Nat.not_lt_zero _)
  | n + 1, a, l1, hn, h => by
    by_cases h0 : a = []
    · subst h0
      rw [patt_nil] at h
      cases h
      simp
    · rw [patt_cons h0] at h
      cases hf : first a with
      | none => rw [hf] at h; cases h
      | some q =>
        obtain ⟨p, r⟩ := q
        rw [hf] at h
        dsimp only at h
        cases hp : patt r with
        | none => rw [hp] at h; cases h
        | some l =>
          rw [hp] at h
          cases h
          have hr := first_len hf
          rw [patt_cons (by simp [h0]), first_app b hf]
          dsimp only
          rw [patt_app b n r l (by omega) hp]
          simp [Option.map_map, Function.comp_def]

theorem mt_app (l2 : List Pc) : ∀ (l1 : List Pc) (s : List UInt8), mt (l1 ++ l2) s = true ↔ ∃ i, i ≤ s.length ∧ mt l1 (s.take i) = true ∧ mt l2 (s.drop i) = true
  | [], s => by
    rw [List.nil_append]
    constructor
    · intro h; exact ⟨0, Nat.zero_le _, by simp [mt_nil], by simpa using h⟩
    · rintro ⟨i, h1, h2, h3⟩
      rw [mt_nil, List.isEmpty_iff] at h2
      have : s.length = 0 ∨ i = 0 := by
        have := congrArg List.length h2
        rw [List.length_take, List.length_nil] at this
        omega
      rcases this with h | h
      · have := List.length_eq_zero_iff.1 h
        subst this
        simpa using h3
      · subst h; simpa using h3
  | .star :: l1, s => by
    rw [List.cons_append, mt_star_iff]
    constructor
    · rintro ⟨j, h1, h2, h3⟩
      rw [mt_app l2 l1] at h3
      obtain ⟨i, h4, h5, h6⟩ := h3
      rw [List.length_drop] at h4
      rw [List.drop_drop] at h6
      refine ⟨j + i, by omega, ?_, h6⟩
      rw [mt_star_iff]
      refine ⟨j, by rw [List.length_take]; omega, ?_, ?_⟩
      · rw [List.take_take, Nat.min_eq_left (by omega)]; exact h2
      · rw [List.drop_take, show j + i - j = i by omega]; exact h5
    · rintro ⟨i, h1, h2, h3⟩
      rw [mt_star_iff] at h2
      obtain ⟨j, h4, h5, h6⟩ := h2
      rw [List.length_take] at h4
      rw [List.take_take, Nat.min_eq_left (by omega)] at h5
      rw [List.drop_take] at h6
      refine ⟨j, by omega, h5, ?_⟩
      rw [mt_app l2 l1]
      exact ⟨i - j, by rw [List.length_drop]; omega, h6, by rw [List.drop_drop, show j + (i - j) = i by omega]; exact h3⟩
  | .any :: l1, s => mt_app_one l2 .any l1 s rfl (mt_app l2 l1)
  | .byte b :: l1, s => mt_app_one l2 (.byte b) l1 s rfl (mt_app l2 l1)
  | .cls t no :: l1, s => mt_app_one l2 (.cls t no) l1 s rfl (mt_app l2 l1)
where
  mt_app_one (l2 : List Pc) (p : Pc) (l1 : List Pc) (s : List UInt8) (hp : p.isStar = false) (ih : ∀ s, mt (l1 ++ l2) s = true ↔ ∃ i, i ≤ s.length ∧ mt l1 (s.take i) = true ∧ mt l2 (s.drop i) = true) :
      mt (p :: l1 ++ l2) s = true ↔ ∃ i, i ≤ s.length ∧ mt (p :: l1) (s.take i) = true ∧ mt l2 (s.drop i) = true := by
    rw [List.cons_append]
    cases s with
    | nil =>
      rw [mt_end, hp]
      simp [mt_end, hp]
    | cons c s =>
      rw [mt_one hp, Bool.and_eq_true, ih]
      constructor
      · rintro ⟨h0, i, h1, h2, h3⟩
        refine ⟨i + 1, by simp; omega, ?_, by simpa using h3⟩
        rw [List.take_succ_cons, mt_one hp, h0, h2]; rfl
      · rintro ⟨i, h1, h2, h3⟩
        cases i with
        | zero => rw [List.take_zero, mt_end, hp] at h2; cases h2
        | succ i =>
          rw [List.take_succ_cons, mt_one hp, Bool.and_eq_true] at h2
          exact ⟨h2.1, i, by simpa using h1, h2.2, by simpa using h3⟩

/-- Is there a place below i where both match? -/
def upTo (l1 l2 : List Pc) (s : List UInt8) : Nat → Bool
  | 0 => false
  | i + 1 => upTo l1 l2 s i || (mt l1 (s.take i) && mt l2 (s.drop i))
theorem upTo_iff (l1 l2 : List Pc) (s : List UInt8) : ∀ n, upTo l1 l2 s n = true ↔ ∃ i, i < n ∧ mt l1 (s.take i) = true ∧ mt l2 (s.drop i) = true
  | 0 => by simp [upTo]
  | n + 1 => by
    unfold upTo
    rw [Bool.or_eq_true, upTo_iff l1 l2 s n, Bool.and_eq_true]
    constructor
    · rintro (⟨i, h1, h2⟩ | h)
      · exact ⟨i, by omega, h2⟩
      · exact ⟨n, by omega, h⟩
    · rintro ⟨i, h1, h2⟩
      by_cases h : i = n
      · subst h; exact .inr h2
      · exact .inl ⟨i, by omega, h2⟩

theorem match_some {p s : ByteArray} {l : List Pc} (hp : p.size ≤ 256) (hs : s.size ≤ 64) (h : patt (L p) = some l) : glob_Match.f p s = some (mt l (L s), 0) := by
  unfold glob_Match.f
  rw [if_pos ⟨by omega, by omega⟩]
  unfold matchF
  rw [h]

theorem parts_loop (p q s : ByteArray) (hp : p.size ≤ 128) (hq : q.size ≤ 128) (hs : s.size ≤ 64) (l1 l2 : List Pc) (h1 : patt (L p) = some l1) (h2 : patt (L q) = some l2) (d : Nat) :
    ∀ i : Nat, i ≤ s.size + 1 → s.size + 1 - i = d → Ev (fun k => graftbedlaw15_GlobParts.l0 k p q s (mt (l1 ++ l2) (L s)) 0 (upTo l1 l2 (L s) i) (i : Int)) true := by
  induction d with
  | zero =>
    intro i hi hd
    obtain rfl : i = s.size + 1 := by omega
    refine Ev.step (f := fun _ => some true) (fun k => ?_) (Ev.now _)
    simp only [graftbedlaw15_GlobParts.l0]
    rw [if_neg (by omega), if_pos trivial]
    congr 1
    rw [beq_iff_eq, Bool.eq_iff_iff, mt_app, upTo_iff]
    have hl := L_length s
    constructor
    · rintro ⟨i, a, b⟩; exact ⟨i, by omega, b⟩
    · rintro ⟨i, a, b⟩; exact ⟨i, by omega, b⟩
  | succ d ih =>
    intro i hi hd
    have hn := ih (i + 1) (by omega) (by omega)
    have e1 : glob_Match.f p (s.extract 0 ((i : Int)).toNat) = some (mt l1 ((L s).take i), 0) := by
      rw [match_some (by omega) (by rw [ByteArray.size_extract]; omega) h1, L_head, Int.toNat_natCast]
    have e2 : glob_Match.f q (s.extract ((i : Int)).toNat s.size) = some (mt l2 ((L s).drop i), 0) := by
      rw [match_some (by omega) (by rw [ByteArray.size_extract]; omega) h2, L_tail, Int.toNat_natCast]
    have hw : wrap64 ((i : Int) + 1) = ((i + 1 : Nat) : Int) := by rw [w64 (by omega) (by omega)]; omega
    refine Ev.step (fun k => ?_) hn
    simp only [graftbedlaw15_GlobParts.l0]
    rw [if_pos (by omega), if_pos (by omega), e1, e2, hw]
    simp only [Option.bind_some]
    rw [show upTo l1 l2 (L s) (i + 1) = (upTo l1 l2 (L s) i || (mt l1 ((L s).take i) && mt l2 ((L s).drop i))) from rfl]
    cases hu : upTo l1 l2 (L s) i with
    | true => rw [if_pos rfl]; rfl
    | false =>
      rw [if_neg (by decide)]
      cases hm : mt l1 ((L s).take i) with
      | true => rw [if_pos rfl]; simp
      | false => rw [if_neg (by decide)]; simp

theorem parts_first (p q s : ByteArray) (b : Bool) (hb : b = true ∨ (p.size ≤ 128 ∧ q.size ≤ 128 ∧ s.size ≤ 64)) : Ev (fun k => graftbedlaw15_GlobParts.j0 k p q s b) true := by
  have hpl : glob_Plain.f (⟨#[97]⟩ : ByteArray) = some true := by unfold glob_Plain.f; rw [if_pos rfl]
  cases b with
  | true =>
    refine Ev.step (f := fun _ => some true) (fun k => ?_) (Ev.now _)
    simp only [graftbedlaw15_GlobParts.j0]
    rw [if_pos trivial, hpl]; rfl
  | false =>
    obtain ⟨hp, hq, hs⟩ : p.size ≤ 128 ∧ q.size ≤ 128 ∧ s.size ≤ 64 := hb.elim (fun h => by cases h) id
    have c1 : glob_Check.f p = some (checkF (L p)) := by unfold glob_Check.f; rw [if_pos (by omega)]
    have c2 : glob_Check.f q = some (checkF (L q)) := by unfold glob_Check.f; rw [if_pos (by omega)]
    have r1 := ref_check p (by omega)
    have r2 := ref_check q (by omega)
    have bad : checkF (L p) = 150 ∨ checkF (L q) = 150 → Ev (fun k => graftbedlaw15_GlobParts.j1 k p q s true) true := by
      intro h
      refine Ev.step (f := fun k => (graftbedref15_Check.f k p).bind fun t170 => (if t170 = 0 then ((graftbedref15_Check.f k q).bind fun t171 => (some (t171 != 0))) else (some true))) (fun k => ?_) (Ev.bind r1 ?_)
      · simp only [graftbedlaw15_GlobParts.j1]; rw [if_pos trivial]
      · by_cases h1 : checkF (L p) = 0
        · have h2 : checkF (L q) = 150 := h.elim (fun e => by rw [h1] at e; cases e) id
          refine Ev.congr (f := fun k => (graftbedref15_Check.f k q).bind fun t171 => (some (t171 != 0))) (fun k => if_pos h1) (Ev.bind r2 ?_)
          rw [h2]; exact Ev.now _
        · exact Ev.congr (fun k => if_neg h1) (Ev.now _)
    cases h1 : patt (L p) with
    | none =>
      have e1 : checkF (L p) = 150 := by unfold checkF; rw [h1]
      refine Ev.step (fun k => ?_) (bad (.inl e1))
      simp only [graftbedlaw15_GlobParts.j0]
      rw [if_neg (by decide), c1, e1]; rfl
    | some l1 =>
      have e1 : checkF (L p) = 0 := by unfold checkF; rw [h1]
      cases h2 : patt (L q) with
      | none =>
        have e2 : checkF (L q) = 150 := by unfold checkF; rw [h2]
        refine Ev.step (fun k => ?_) (bad (.inr e2))
        simp only [graftbedlaw15_GlobParts.j0]
        rw [if_neg (by decide), c1, e1, c2, e2]; rfl
      | some l2 =>
        have e2 : checkF (L q) = 0 := by unfold checkF; rw [h2]
        have h3 : patt (L (p ++ q)) = some (l1 ++ l2) := by rw [L_append, patt_app _ _ _ _ (Nat.lt_succ_self _) h1, h2]; rfl
        refine Ev.step (f := fun k => graftbedlaw15_GlobParts.j1 k p q s false) (fun k => ?_) (Ev.step (fun k => ?_) (parts_loop p q s hp hq hs l1 l2 h1 h2 (s.size + 1) 0 (Nat.zero_le _) (by omega)))
        · simp only [graftbedlaw15_GlobParts.j0]
          rw [if_neg (by decide), c1, e1, c2, e2]; rfl
        · simp only [graftbedlaw15_GlobParts.j1]
          rw [if_neg (by decide), if_pos (by omega), match_some (by rw [ByteArray.size_append]; omega) hs h3]
          rfl

theorem GlobParts : graftbedlaw15_GlobParts.Pure := by
  intro p q s _ _ _
  have hpl : glob_Plain.f (⟨#[97]⟩ : ByteArray) = some true := by unfold glob_Plain.f; rw [if_pos rfl]
  have h : Ev (fun k => graftbedlaw15_GlobParts.f k p q s) true := by
    by_cases h1 : (p.size : Int) > 128
    · refine Ev.congr (fun k => ?_) (parts_first p q s true (.inl rfl))
      unfold graftbedlaw15_GlobParts.f; rw [if_pos h1]
    · by_cases h2 : (q.size : Int) > 128
      · refine Ev.congr (fun k => ?_) (parts_first p q s true (.inl rfl))
        unfold graftbedlaw15_GlobParts.f; rw [if_neg h1, if_pos h2]
      · by_cases h3 : (s.size : Int) > 64
        · refine Ev.congr (fun k => ?_) (parts_first p q s true (.inl rfl))
          unfold graftbedlaw15_GlobParts.f; rw [if_neg h1, if_neg h2, if_pos h3]
        · refine Ev.congr (fun k => ?_) (parts_first p q s false (.inr ⟨by omega, by omega, by omega⟩))
          unfold graftbedlaw15_GlobParts.f; rw [if_neg h1, if_neg h2, if_neg h3, hpl]; rfl
  exact h.rounds

end Go.Proofs.Ytjcopbgbmokfmaa.Pure
