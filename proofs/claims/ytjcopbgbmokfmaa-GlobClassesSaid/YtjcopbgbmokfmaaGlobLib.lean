/- Patterns as lists of pieces: what a list of pieces matches, and that the way with one star taken back finds it. No program in sight. -/
import Derived.RowKit
namespace Go.Proofs.Ytjcopbgbmokfmaa.GlobLib
set_option linter.unusedVariables false

inductive Pc where
  | star | any | byte (b : UInt8) | cls (tab : Nat → Bool) (no : Bool)

def Pc.isStar : Pc → Bool
  | .star => true
  | _ => false
/-- Does a piece that is no star take this byte? -/
def Pc.ok : Pc → UInt8 → Bool
  | .star, _ => false
  | .any, c => c != 47
  | .byte b, c => c == b
  | .cls tab no, c => c != 47 && (tab c.toNat != no)

/-- What a list of pieces matches. -/
def mt : List Pc → List UInt8 → Bool
  | [], s => s.isEmpty
  | p :: l, s => go p l s
where
  go (p : Pc) (l : List Pc) : List UInt8 → Bool
    | [] => p.isStar && mt l []
    | c :: s => if p.isStar = true then mt l (c :: s) || (c != 47 && go p l s) else p.ok c && mt l s

theorem mt_nil (s : List UInt8) : mt [] s = s.isEmpty := by unfold mt; rfl
theorem mt_end (p : Pc) (l : List Pc) : mt (p :: l) [] = (p.isStar && mt l []) := by
  conv => lhs; unfold mt; unfold mt.go
theorem mt_star (l : List Pc) (c : UInt8) (s : List UInt8) : mt (.star :: l) (c :: s) = (mt l (c :: s) || (c != 47 && mt (.star :: l) s)) := by
  conv => lhs; unfold mt; unfold mt.go
  rw [if_pos (show Pc.star.isStar = true from rfl)]
  conv => rhs; rhs; rhs; unfold mt
theorem mt_one {p : Pc} (h : p.isStar = false) (l : List Pc) (c : UInt8) (s : List UInt8) : mt (p :: l) (c :: s) = (p.ok c && mt l s) := by
  conv => lhs; unfold mt; unfold mt.go
  rw [if_neg (by rw [h]; decide)]

/-- Taken j bytes, none a slash, the rest by l. -/
def Takes (l : List Pc) (s : List UInt8) (j : Nat) : Prop := j ≤ s.length ∧ (47 : UInt8) ∉ s.take j ∧ mt l (s.drop j) = true

theorem mt_star_iff (l : List Pc) : ∀ s : List UInt8, mt (.star :: l) s = true ↔ ∃ j, Takes l s j
  | [] => by
    rw [mt_end]
    constructor
    · intro h; exact ⟨0, Nat.le_refl _, by simp, by simpa [Pc.isStar] using h⟩
    · rintro ⟨j, h1, _, h3⟩
      simp at h1
      subst h1
      simpa [Pc.isStar] using h3
  | c :: s => by
    rw [mt_star, Bool.or_eq_true, Bool.and_eq_true, mt_star_iff l s]
    constructor
    · rintro (h | ⟨hc, j, h1, h2, h3⟩)
      · exact ⟨0, Nat.zero_le _, by simp, h⟩
      · refine ⟨j + 1, by simpa using h1, ?_, h3⟩
        rw [List.take_succ_cons, List.mem_cons]
        rintro (e | e)
        · rw [← e] at hc; simp at hc
        · exact h2 e
    · rintro ⟨j, h1, h2, h3⟩
      cases j with
      | zero => exact .inl h3
      | succ j =>
        refine .inr ⟨?_, j, by simpa using h1, ?_, h3⟩
        · rw [List.take_succ_cons, List.mem_cons] at h2
          rw [bne_iff_ne]
          intro e
          exact h2 (.inl e.symm)
        · intro e
          rw [List.take_succ_cons] at h2
          exact h2 (List.mem_cons_of_mem _ e)

/-- Plain pieces, one byte each. -/
def all2 : List Pc → List UInt8 → Bool
  | [], s => s.isEmpty
  | p :: l, c :: s => p.ok c && all2 l s
  | _ :: _, [] => false

theorem mt_plain : ∀ (l r : List Pc) (s : List UInt8), (∀ p ∈ l, p.isStar = false) → (mt (l ++ r) s = true ↔ l.length ≤ s.length ∧ all2 l (s.take l.length) = true ∧ mt r (s.drop l.length) = true)
  | [], r, s, _ => by simp [all2]
  | p :: l, r, [], h => by
    rw [List.cons_append, mt_end, h p List.mem_cons_self]
    simp
  | p :: l, r, c :: s, h => by
    rw [List.cons_append, mt_one (h p List.mem_cons_self), Bool.and_eq_true, mt_plain l r s (fun q hq => h q (List.mem_cons_of_mem _ hq))]
    simp only [List.length_cons, List.take_succ_cons, List.drop_succ_cons, all2, Bool.and_eq_true, Nat.add_le_add_iff_right]
    constructor
    · rintro ⟨a, b, c, d⟩; exact ⟨b, ⟨a, c⟩, d⟩
    · rintro ⟨b, ⟨a, c⟩, d⟩; exact ⟨a, b, c, d⟩

/-- Where two texts are taken by the same plain pieces, a slash in one stands in the other. -/
theorem all2_slash : ∀ (l : List Pc) (s t : List UInt8), all2 l s = true → all2 l t = true → ∀ i : Nat, s[i]? = some 47 → t[i]? = some 47
  | [], s, t, h1, h2 => by
    intro i hi
    simp [all2] at h1
    subst h1
    simp at hi
  | p :: l, [], t, h1, _ => by cases h1
  | p :: l, c :: s, [], _, h2 => by cases h2
  | p :: l, c :: s, d :: t, h1, h2 => by
    simp only [all2, Bool.and_eq_true] at h1 h2
    intro i hi
    cases i with
    | zero =>
      simp only [List.getElem?_cons_zero, Option.some.injEq] at hi ⊢
      subst hi
      cases p with
      | star => exact absurd h1.1 (by simp [Pc.ok])
      | any => exact absurd h1.1 (by simp [Pc.ok])
      | byte b =>
        have e1 : (47 : UInt8) = b := by simpa [Pc.ok] using h1.1
        have e2 : d = b := by simpa [Pc.ok] using h2.1
        rw [e2, e1]
      | cls tab no => exact absurd h1.1 (by simp [Pc.ok])
    | succ i => exact all2_slash l s t h1.2 h2.2 i hi

/-- The state of the search: what is left of the pieces and of the text; the last star's pieces behind it, the text from where it gave up, and the plain pieces since then. -/
structure St where
  star : Int
  back : Nat
  i : Nat
  k : Nat

def Inv (l : List Pc) (s : List UInt8) (x : St) : Prop :=
  x.i ≤ s.length ∧ x.k ≤ l.length ∧
  ((x.star = -1 ∧ (mt l s = true ↔ mt (l.drop x.k) (s.drop x.i) = true)) ∨
   ∃ n m : Nat, x.star = (n : Int) ∧ n < l.length ∧ x.k = n + 1 + m ∧ x.i = x.back + m ∧
     (∀ p ∈ (l.drop (n + 1)).take m, p.isStar = false) ∧ all2 ((l.drop (n + 1)).take m) ((s.drop x.back).take m) = true ∧
     (mt l s = true ↔ ∃ j, Takes (l.drop (n + 1)) (s.drop x.back) j))

theorem inv_start (l : List Pc) (s : List UInt8) : Inv l s ⟨-1, 0, 0, 0⟩ := ⟨Nat.zero_le _, Nat.zero_le _, .inl ⟨rfl, by simp⟩⟩

theorem inv_done {l : List Pc} {s : List UInt8} {x : St} (h : Inv l s x) (hi : x.i = s.length) (hk : x.k = l.length) : mt l s = true := by
  obtain ⟨h1, h2, h3⟩ := h
  rcases h3 with ⟨_, h⟩ | ⟨n, m, _, hn, hk2, hi2, hp, ha, h⟩
  · rw [h, hi, hk]; simp [mt_nil]
  · rw [h]
    have e : (l.drop (n + 1)).take m = l.drop (n + 1) := List.take_of_length_le (by rw [List.length_drop]; omega)
    rw [e] at hp ha
    refine ⟨0, Nat.zero_le _, by simp, ?_⟩
    have := (mt_plain (l.drop (n + 1)) [] (s.drop x.back) hp).2 ⟨by rw [List.length_drop, List.length_drop]; omega, by rw [show (l.drop (n + 1)).length = m from by rw [List.length_drop]; omega]; exact ha, by
      rw [List.drop_drop, show x.back + (l.drop (n + 1)).length = s.length from by rw [List.length_drop]; omega, List.drop_length]; simp [mt_nil]⟩
    simpa using this

theorem no_slash_shift {P : List Pc} {s : List UInt8} {j m : Nat} (hj : 0 < j) (h1 : (47 : UInt8) ∉ s.take j) (ha : all2 P (s.take m) = true) (hb : all2 P ((s.drop j).take m) = true) :
    ∀ o : Nat, o < m + j → s[o]? ≠ some 47 := by
  intro o
  induction o using Nat.strongRecOn with
  | _ o ih =>
    intro ho e
    by_cases h : o < j
    · exact h1 (List.mem_of_getElem? (i := o) (by rw [List.getElem?_take, if_pos h]; exact e))
    · have e2 : ((s.drop j).take m)[o - j]? = some 47 := by
        rw [List.getElem?_take, if_pos (by omega), List.getElem?_drop, show j + (o - j) = o from by omega]; exact e
      have e3 := all2_slash P _ _ hb ha (o - j) e2
      rw [List.getElem?_take, if_pos (by omega)] at e3
      exact ih (o - j) (by omega) (by omega) e3

theorem inv_star {l : List Pc} {s : List UInt8} {x : St} (h : Inv l s x) (hl : l[x.k]? = some .star) : Inv l s ⟨(x.k : Int), x.i, x.i, x.k + 1⟩ := by
  obtain ⟨h1, h2, h3⟩ := h
  obtain ⟨hkl, hk3⟩ := List.getElem?_eq_some_iff.1 hl
  have hd : l.drop x.k = .star :: l.drop (x.k + 1) := by rw [List.drop_eq_getElem_cons hkl, hk3]
  refine ⟨h1, hkl, .inr ⟨x.k, 0, rfl, hkl, rfl, rfl, by simp, by simp [all2], ?_⟩⟩
  show mt l s = true ↔ ∃ j, Takes (l.drop (x.k + 1)) (s.drop x.i) j
  rw [← mt_star_iff, ← hd]
  rcases h3 with ⟨_, h⟩ | ⟨n, m, _, hn, hk2, hi2, hp, ha, h⟩
  · exact h
  · rw [h]
    have hP : l.drop (n + 1) = (l.drop (n + 1)).take m ++ l.drop x.k := by
      conv => lhs; rw [← List.take_append_drop m (l.drop (n + 1)), List.drop_drop, show n + 1 + m = x.k from by omega]
    generalize (l.drop (n + 1)).take m = P at hp ha hP
    rw [hP]
    have hlen : P.length = m := by
      have := congrArg List.length hP
      rw [List.length_append, List.length_drop, List.length_drop] at this
      omega
    subst hlen
    constructor
    · rintro ⟨j, g1, g2, g3⟩
      rw [mt_plain P _ _ hp] at g3
      obtain ⟨g3, g4, g5⟩ := g3
      rw [List.length_drop] at g1
      rw [List.drop_drop, List.length_drop] at g3
      rw [hd, mt_star_iff] at g5 ⊢
      obtain ⟨j2, q1, q2, q3⟩ := g5
      simp only [List.drop_drop, List.length_drop] at g4 q1 q2 q3
      refine ⟨j + j2, by rw [List.length_drop]; omega, ?_, by rw [List.drop_drop, show x.i + (j + j2) = x.back + j + P.length + j2 from by omega]; exact q3⟩
      intro hm
      rw [List.take_add, List.mem_append, List.drop_drop, show x.i + j = x.back + j + P.length from by omega] at hm
      rcases hm with hm | hm
      · obtain ⟨t, ht⟩ := List.mem_iff_getElem?.1 hm
        have htj : t < j := by
          have := (List.getElem?_eq_some_iff.1 ht).1
          rw [List.length_take] at this
          omega
        rw [List.getElem?_take, if_pos htj, List.getElem?_drop] at ht
        refine no_slash_shift (by omega) g2 ha (by rw [List.drop_drop]; exact g4) (P.length + t) (by omega) ?_
        rw [List.getElem?_drop, ← Nat.add_assoc, ← hi2]; exact ht
      · exact q2 hm
    · intro g
      refine ⟨0, Nat.zero_le _, by simp, ?_⟩
      rw [List.drop_zero, mt_plain P _ _ hp]
      exact ⟨by rw [List.length_drop]; omega, ha, by rw [List.drop_drop, ← hi2]; exact g⟩

theorem all2_snoc : ∀ (P : List Pc) (s : List UInt8) (p : Pc) (c : UInt8), all2 P s = true → p.ok c = true → all2 (P ++ [p]) (s ++ [c]) = true
  | [], s, p, c, h, hc => by
    simp [all2] at h
    subst h
    simp [all2, hc]
  | q :: P, [], p, c, h, hc => by cases h
  | q :: P, d :: s, p, c, h, hc => by
    simp only [all2, Bool.and_eq_true, List.cons_append] at h ⊢
    exact ⟨h.1, all2_snoc P s p c h.2 hc⟩

theorem inv_fit {l : List Pc} {s : List UInt8} {x : St} {p : Pc} {c : UInt8} (h : Inv l s x) (hl : l[x.k]? = some p) (hp0 : p.isStar = false) (hs : s[x.i]? = some c) (hc : p.ok c = true) : Inv l s ⟨x.star, x.back, x.i + 1, x.k + 1⟩ := by
  obtain ⟨h1, h2, h3⟩ := h
  obtain ⟨hkl, hk3⟩ := List.getElem?_eq_some_iff.1 hl
  obtain ⟨hil, hi3⟩ := List.getElem?_eq_some_iff.1 hs
  have hd : l.drop x.k = p :: l.drop (x.k + 1) := by rw [List.drop_eq_getElem_cons hkl, hk3]
  have hds : s.drop x.i = c :: s.drop (x.i + 1) := by rw [List.drop_eq_getElem_cons hil, hi3]
  refine ⟨hil, hkl, ?_⟩
  rcases h3 with ⟨e, h⟩ | ⟨n, m, e, hn, hk2, hi2, hp, ha, h⟩
  · refine .inl ⟨e, ?_⟩
    rw [h, hd, hds, mt_one hp0, hc, Bool.true_and]
  · refine .inr ⟨n, m + 1, e, hn, by show x.k + 1 = n + 1 + (m + 1); omega, by show x.i + 1 = x.back + (m + 1); omega, ?_, ?_, h⟩
    · intro q hq
      rw [List.take_add, List.mem_append, List.drop_drop, show n + 1 + m = x.k from by omega, hd] at hq
      rcases hq with hq | hq
      · exact hp q hq
      · simp at hq; rw [hq]; exact hp0
    · show all2 ((l.drop (n + 1)).take (m + 1)) ((s.drop x.back).take (m + 1)) = true
      rw [List.take_add, List.take_add, List.drop_drop, List.drop_drop, show n + 1 + m = x.k from by omega, show x.back + m = x.i from by omega, hd, hds]
      exact all2_snoc _ _ _ _ ha hc

/-- Where the search can't go on at its place, nothing matches from there. -/
theorem stuck {l : List Pc} {s : List UInt8} {i k : Nat} (hi : i ≤ s.length) (hk : k ≤ l.length) (h0 : i < s.length ∨ k < l.length) (h1 : ∀ p, l[k]? = some p → p.isStar = false) (h2 : ∀ p c, l[k]? = some p → s[i]? = some c → p.ok c = false) : mt (l.drop k) (s.drop i) = false := by
  by_cases hkl : k < l.length
  · have hp := List.getElem?_eq_getElem hkl
    rw [List.drop_eq_getElem_cons hkl]
    by_cases hil : i < s.length
    · rw [List.drop_eq_getElem_cons hil, mt_one (h1 _ hp), h2 _ _ hp (List.getElem?_eq_getElem hil), Bool.false_and]
    · rw [show s.drop i = [] from List.drop_of_length_le (by omega), mt_end, h1 _ hp, Bool.false_and]
  · have hil : i < s.length := by omega
    rw [show l.drop k = [] from List.drop_of_length_le (by omega), mt_nil, List.drop_eq_getElem_cons hil]; rfl

theorem takes_zero {l : List Pc} {s : List UInt8} {x : St} {n m : Nat} (hi : x.i ≤ s.length) (hk2 : x.k = n + 1 + m) (hi2 : x.i = x.back + m) (hkl : x.k ≤ l.length) (hp : ∀ p ∈ (l.drop (n + 1)).take m, p.isStar = false) (hno : mt (l.drop x.k) (s.drop x.i) = false) : ¬ Takes (l.drop (n + 1)) (s.drop x.back) 0 := by
  rintro ⟨_, _, h⟩
  have hP : l.drop (n + 1) = (l.drop (n + 1)).take m ++ l.drop x.k := by
    conv => lhs; rw [← List.take_append_drop m (l.drop (n + 1)), List.drop_drop, show n + 1 + m = x.k from by omega]
  have hlen : ((l.drop (n + 1)).take m).length = m := by rw [List.length_take, List.length_drop]; omega
  rw [List.drop_zero, hP, mt_plain _ _ _ hp, hlen, List.drop_drop, ← hi2, hno] at h
  exact absurd h.2.2 (by decide)

theorem inv_back {l : List Pc} {s : List UInt8} {x : St} {n : Nat} {c : UInt8} (h : Inv l s x) (hs : x.star = (n : Int)) (hno : mt (l.drop x.k) (s.drop x.i) = false) (hb : s[x.back]? = some c) (hc : c ≠ 47) : Inv l s ⟨x.star, x.back + 1, x.back + 1, n + 1⟩ := by
  obtain ⟨h1, h2, h3⟩ := h
  obtain ⟨hbl, hb3⟩ := List.getElem?_eq_some_iff.1 hb
  rcases h3 with ⟨e, h⟩ | ⟨n', m, e, hn, hk2, hi2, hp, ha, h⟩
  · rw [hs] at e
    exact absurd e (by omega)
  · obtain rfl : n' = n := by rw [hs] at e; omega
    refine ⟨hbl, hn, .inr ⟨n', 0, hs, hn, rfl, rfl, by simp, by simp [all2], ?_⟩⟩
    show mt l s = true ↔ ∃ j, Takes (l.drop (n' + 1)) (s.drop (x.back + 1)) j
    rw [h]
    have hz := takes_zero h1 hk2 hi2 h2 hp hno
    have hds : s.drop x.back = c :: s.drop (x.back + 1) := by rw [List.drop_eq_getElem_cons hbl, hb3]
    constructor
    · rintro ⟨j, g1, g2, g3⟩
      cases j with
      | zero => exact absurd ⟨g1, g2, g3⟩ hz
      | succ j =>
        rw [hds] at g1 g2 g3
        exact ⟨j, by simpa using g1, fun q => g2 (by rw [List.take_succ_cons]; exact List.mem_cons_of_mem _ q), g3⟩
    · rintro ⟨j, g1, g2, g3⟩
      refine ⟨j + 1, by rw [hds]; simpa using g1, ?_, by rw [hds]; exact g3⟩
      rw [hds, List.take_succ_cons, List.mem_cons]
      rintro (q | q)
      · exact hc q.symm
      · exact g2 q

theorem inv_fail {l : List Pc} {s : List UInt8} {x : St} (h : Inv l s x) (hno : mt (l.drop x.k) (s.drop x.i) = false) (hs : x.star < 0 ∨ s.length ≤ x.back ∨ s[x.back]? = some 47) : mt l s = false := by
  obtain ⟨h1, h2, h3⟩ := h
  cases hm : mt l s with
  | false => rfl
  | true =>
    rcases h3 with ⟨e, h⟩ | ⟨n, m, e, hn, hk2, hi2, hp, ha, h⟩
    · rw [h.1 hm] at hno; exact absurd hno (by decide)
    · obtain ⟨j, g1, g2, g3⟩ := h.1 hm
      cases j with
      | zero => exact absurd ⟨g1, g2, g3⟩ (takes_zero h1 hk2 hi2 h2 hp hno)
      | succ j =>
        rw [List.length_drop] at g1
        rcases hs with hs | hs | hs
        · omega
        · omega
        · exact absurd (List.mem_of_getElem? (i := 0) (by rw [List.getElem?_take, if_pos (by omega), List.getElem?_drop]; exact hs)) g2

/-- What the search's rounds go down by. -/
def St.left (l : List Pc) (s : List UInt8) (x : St) : Nat := (s.length - x.back) * (l.length + 2) + (l.length - x.k)

end Go.Proofs.Ytjcopbgbmokfmaa.GlobLib
