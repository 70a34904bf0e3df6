/- TreeDiffs: in which paths two trees are not alike. -/
import Derived.Test.YtmocfgghccmdgaaPureTrMore
import Derived.Test.YtmocfgghccmdgaaRowOksTreeDiffs
import Derived.Test.YtmocfgghccmdgaaMpc
import Derived.Test.YtmocfgghccmdgaaMpd
namespace Go.Proofs.Ytmocfgghccmdgaa.Pure
open Go Go.RowKit Go.Proofs.Ytmocfgghccmdgaa.PTr Go.Proofs.YtmocfgghccmdgaaW.PrintWords Go.Proofs.YtmocfgghccmdgaaW.PrintLast
open Go.Proofs.Ytmocfgghccmdgaa.BytesLib Go.Proofs.Ytmocfgghccmdgaa.SplitLib Go.Proofs.Ytmocfgghccmdgaa.OrderLib Go.Proofs.Ytmocfgghccmdgaa.Elems Go.Proofs.Ytmocfgghccmdgaa.Valid Go.Proofs.Ytmocfgghccmdgaa.PathBase Go.Proofs.Ytmocfgghccmdgaa.TrLib Go.Proofs.Ytmocfgghccmdgaa.TrPut Go.Proofs.Ytmocfgghccmdgaa.TrFits Go.Proofs.Ytmocfgghccmdgaa.TrOps Go.Proofs.Ytmocfgghccmdgaa.TrMerge Go.Proofs.Ytmocfgghccmdgaa.TrPlain
open Go.Proofs.Ytmocfgghccmdgaa.RowOksTreeDiffs
set_option linter.unusedVariables false
set_option linter.unusedSimpArgs false

/-! ### The differences, in plain words -/
instance decMem (p : ByteArray) (l : List ByteArray) : Decidable (p ∈ l) := @List.instDecidableMemOfLawfulBEq _ instBEqOfDecidableEq _ p l
abbrev Up (T : List Fl) : Prop := T.Pairwise (fun x y => cmpP x.1 y.1 < 0)
abbrev UpK (T : List ByteArray) : Prop := T.Pairwise (fun x y => cmpP x y < 0)
theorem upK_ext : ∀ {S T : List ByteArray}, UpK S → UpK T → (∀ y, y ∈ S ↔ y ∈ T) → S = T
  | [], [], _, _, _ => rfl
  | [], t :: T, _, _, h => nomatch (h t).2 List.mem_cons_self
  | s :: S, [], _, _, h => nomatch (h s).1 List.mem_cons_self
  | s :: S, t :: T, hS, hT, h => by
    obtain ⟨h1, h2⟩ := List.pairwise_cons.1 hS
    obtain ⟨g1, g2⟩ := List.pairwise_cons.1 hT
    have e : s = t := by
      rcases List.mem_cons.1 ((h s).1 List.mem_cons_self) with e | hs
      · exact e
      · rcases List.mem_cons.1 ((h t).2 List.mem_cons_self) with e | ht
        · exact e.symm
        · have a := h1 t ht
          have b := g1 s hs
          have := cmp_turn s t
          omega
    subst e
    rw [upK_ext h2 g2 (fun y => ?_)]
    have hy := h y
    rw [List.mem_cons, List.mem_cons] at hy
    constructor
    · intro m
      rcases hy.1 (.inr m) with rfl | m2
      · exact absurd rfl (cmp_ne (.inl (h1 _ m)))
      · exact m2
    · intro m
      rcases hy.2 (.inr m) with rfl | m2
      · exact absurd rfl (cmp_ne (.inl (g1 _ m)))
      · exact m2

theorem findR_no {p : ByteArray} {T : List Fl} (h : ∀ y ∈ T, y.1 ≠ p) : findR p T = (⟨#[]⟩, false) := by
  rcases findR_form p T with ⟨y, hy, e, _⟩ | ⟨_, f⟩
  · exact absurd e (h y hy)
  · exact f
theorem findR_at (x : Fl) (T : List Fl) : findR x.1 (x :: T) = (x.2, true) := by rw [findR, if_pos rfl]
theorem findR_off {x : Fl} {p : ByteArray} (T : List Fl) (h : p ≠ x.1) : findR p (x :: T) = findR p T := by
  rw [findR, if_neg (fun e => h (L_inj e).symm)]
theorem findR_key {p : ByteArray} {T : List Fl} (h : findR p T ≠ (⟨#[]⟩, false)) : ∃ y ∈ T, y.1 = p := by
  rcases findR_form p T with ⟨y, hy, e, _⟩ | ⟨_, f⟩
  · exact ⟨y, hy, e⟩
  · exact absurd f h

def dL : List Fl → List Fl → List ByteArray
  | [], [] => []
  | [], y :: b => y.1 :: dL [] b
  | x :: a, [] => x.1 :: dL a []
  | x :: a, y :: b => if cmpP x.1 y.1 < 0 then x.1 :: dL a (y :: b) else if cmpP x.1 y.1 > 0 then y.1 :: dL (x :: a) b else if L x.2 = L y.2 then dL a b else x.1 :: dL a b
termination_by a b => a.length + b.length

/-- What the differences are: these keys, rising. -/
theorem dL_spec : ∀ (n : Nat) (a b : List Fl), a.length + b.length ≤ n → Up a → Up b → UpK (dL a b) ∧ ∀ p, p ∈ dL a b ↔ findR p a ≠ findR p b := by
  intro n
  -- a list whose head stands ahead of all
  have lift : ∀ (x : ByteArray) (a b : List Fl) (r : List ByteArray), (∀ y ∈ a, cmpP x y.1 < 0) → (∀ y ∈ b, cmpP x y.1 < 0) → UpK r → (∀ p, p ∈ r ↔ findR p a ≠ findR p b) → UpK (x :: r) := by
    intro x a b r ha hb hr hm
    refine List.pairwise_cons.2 ⟨fun p hp => ?_, hr⟩
    have hne := (hm p).1 hp
    by_cases h1 : findR p a = (⟨#[]⟩, false)
    · obtain ⟨y, hy, rfl⟩ := findR_key (fun e => hne (by rw [h1, e]))
      exact hb y hy
    · obtain ⟨y, hy, rfl⟩ := findR_key h1
      exact ha y hy
  have above : ∀ {x : ByteArray} {T : List Fl}, (∀ y ∈ T, cmpP x y.1 < 0) → findR x T = (⟨#[]⟩, false) := by
    intro x T h
    exact findR_no (fun y hy e => cmp_ne (.inl (h y hy)) e.symm)
  induction n with
  | zero =>
    intro a b h _ _
    obtain rfl : a = [] := List.length_eq_zero_iff.1 (by omega)
    obtain rfl : b = [] := List.length_eq_zero_iff.1 (by omega)
    rw [dL]
    exact ⟨List.Pairwise.nil, fun p => ⟨(fun h => nomatch h), fun h => absurd rfl h⟩⟩
  | succ n ih =>
    intro a b h ha hb
    have hsome : ∀ (d : ByteArray), (d, true) ≠ ((⟨#[]⟩ : ByteArray), false) := fun d e => by injection e with _ e; cases e
    -- the head of the first alone
    have left : ∀ (x : Fl) (a b : List Fl), a.length + b.length ≤ n → Up (x :: a) → Up b → (∀ y ∈ b, cmpP x.1 y.1 < 0) → UpK (x.1 :: dL a b) ∧ ∀ p, p ∈ x.1 :: dL a b ↔ findR p (x :: a) ≠ findR p b := by
      intro x a b h ha hb hxb
      obtain ⟨hxa, ha'⟩ := List.pairwise_cons.1 ha
      obtain ⟨i1, i2⟩ := ih a b h ha' hb
      refine ⟨lift x.1 a b _ hxa hxb i1 i2, fun p => ?_⟩
      by_cases e : p = x.1
      · rw [e, findR_at, above hxb]
        exact ⟨fun _ => hsome _, fun _ => List.mem_cons_self⟩
      · rw [findR_off _ e, ← i2 p, List.mem_cons]
        exact ⟨fun h => h.resolve_left e, .inr⟩
    have right : ∀ (y : Fl) (a b : List Fl), a.length + b.length ≤ n → Up a → Up (y :: b) → (∀ x ∈ a, cmpP y.1 x.1 < 0) → UpK (y.1 :: dL a b) ∧ ∀ p, p ∈ y.1 :: dL a b ↔ findR p a ≠ findR p (y :: b) := by
      intro y a b h ha hb hya
      obtain ⟨hyb, hb'⟩ := List.pairwise_cons.1 hb
      obtain ⟨i1, i2⟩ := ih a b h ha hb'
      refine ⟨lift y.1 a b _ hya hyb i1 i2, fun p => ?_⟩
      by_cases e : p = y.1
      · rw [e, findR_at, above hya]
        exact ⟨fun _ => (hsome _).symm, fun _ => List.mem_cons_self⟩
      · rw [findR_off _ e, ← i2 p, List.mem_cons]
        exact ⟨fun h => h.resolve_left e, .inr⟩
    cases a with
    | nil => cases b with
      | nil =>
        rw [dL]
        exact ⟨List.Pairwise.nil, fun p => ⟨(fun h => nomatch h), fun h => absurd rfl h⟩⟩
      | cons y b =>
        rw [dL]
        exact right y [] b (by simp at h ⊢; omega) ha hb (fun _ h => nomatch h)
    | cons x a => cases b with
      | nil =>
        rw [dL]
        exact left x a [] (by simp at h ⊢; omega) ha hb (fun _ h => nomatch h)
      | cons y b =>
        obtain ⟨hxa, ha'⟩ := List.pairwise_cons.1 ha
        obtain ⟨hyb, hb'⟩ := List.pairwise_cons.1 hb
        rw [dL]
        by_cases g1 : cmpP x.1 y.1 < 0
        · rw [if_pos g1]
          refine left x a (y :: b) (by simp at h ⊢; omega) ha hb (fun z hz => ?_)
          rcases List.mem_cons.1 hz with rfl | hz
          · exact g1
          · exact lt_tr' g1 (Int.le_of_lt (hyb z hz))
        · rw [if_neg g1]
          by_cases g2 : cmpP x.1 y.1 > 0
          · rw [if_pos g2]
            have g3 : cmpP y.1 x.1 < 0 := by have := cmp_turn x.1 y.1; omega
            refine right y (x :: a) b (by simp at h ⊢; omega) ha hb (fun z hz => ?_)
            rcases List.mem_cons.1 hz with rfl | hz
            · exact g3
            · exact lt_tr' g3 (Int.le_of_lt (hxa z hz))
          · rw [if_neg g2]
            have ek : x.1 = y.1 := cmp_eq (by omega)
            have hxb : ∀ z ∈ b, cmpP x.1 z.1 < 0 := fun z hz => by rw [ek]; exact hyb z hz
            obtain ⟨i1, i2⟩ := ih a b (by simp at h; omega) ha' hb'
            have hoff : ∀ p, p ≠ x.1 → (findR p (x :: a) ≠ findR p (y :: b) ↔ findR p a ≠ findR p b) := by
              intro p e
              rw [findR_off _ e, findR_off _ (by rw [← ek]; exact e)]
            have hat : findR x.1 (x :: a) = (x.2, true) ∧ findR x.1 (y :: b) = (y.2, true) := ⟨findR_at x a, by rw [ek]; exact findR_at y b⟩
            by_cases g : L x.2 = L y.2
            · rw [if_pos g]
              refine ⟨i1, fun p => ?_⟩
              by_cases e : p = x.1
              · rw [e, i2, above hxa, above hxb, hat.1, hat.2, L_inj g]
                exact ⟨fun h => absurd rfl h, fun h => absurd rfl h⟩
              · rw [i2, hoff p e]
            · rw [if_neg g]
              refine ⟨lift x.1 a b _ hxa hxb i1 i2, fun p => ?_⟩
              by_cases e : p = x.1
              · rw [e, hat.1, hat.2]
                exact ⟨fun _ h => g (by injection h with h _; rw [h]), fun _ => List.mem_cons_self⟩
              · rw [hoff p e, ← i2 p, List.mem_cons]
                exact ⟨fun h => h.resolve_left e, .inr⟩

/-! ### tree.Diff -/
theorem diff_loop : ∀ (n : Nat) (a b : List Fl) (acc : List ByteArray), a.length + b.length ≤ n → acc.length + n ≤ 1000000 → (∀ y ∈ a, y.1.size ≤ 1099511627776) → (∀ y ∈ b, y.1.size ≤ 1099511627776) →
    Ev (fun k => tree_Diff.l0 k (a.map D) (b.map D) acc) (acc ++ dL a b) := by
  intro n
  induction n with
  | zero =>
    intro a b acc h hc _ _
    obtain rfl : a = [] := List.length_eq_zero_iff.1 (by omega)
    obtain rfl : b = [] := List.length_eq_zero_iff.1 (by omega)
    rw [dL, List.append_nil]
    refine Ev.step (f := fun k => tree_Diff.j1 k [] [] acc false) (fun k => ?_) ?_
    · simp only [tree_Diff.l0]; rfl
    · exact Ev.step (f := fun _ => some acc) (fun k => by simp only [tree_Diff.j1, Bool.false_eq_true, if_false]) (Ev.now _)
  | succ n ih =>
    intro a b acc h hc ha hb
    have snoc : ∀ (x : ByteArray) (r : List ByteArray), (acc ++ [x]) ++ r = acc ++ x :: r := by intro x r; simp
    have l1 : (acc.length : Nat) < 8796093022208 := by omega
    cases a with
    | nil => cases b with
      | nil =>
        rw [dL, List.append_nil]
        refine Ev.step (f := fun k => tree_Diff.j1 k [] [] acc false) (fun k => ?_) ?_
        · simp only [tree_Diff.l0]; rfl
        · exact Ev.step (f := fun _ => some acc) (fun k => by simp only [tree_Diff.j1, Bool.false_eq_true, if_false]) (Ev.now _)
      | cons y b =>
        rw [dL, ← snoc]
        have hb1 : 0 < (((y :: b).map D).length : Int) := by rw [len_D, List.length_cons]; omega
        refine Ev.step (f := fun k => tree_Diff.j1 k ([].map D) ((y :: b).map D) acc true) (fun k => ?_) ?_
        · simp only [tree_Diff.l0]
          rw [if_neg (by decide), decide_eq_true hb1]
        refine Ev.step (f := fun k => tree_Diff.j2 k ([].map D) ((y :: b).map D) acc 1) (fun k => ?_) ?_
        · simp only [tree_Diff.j1, if_true]
          rfl
        refine Ev.step (fun k => ?_) (ih [] b (acc ++ [y.1]) (by simp at h ⊢; omega) (by simp; omega) ha (fun z hz => hb z (List.mem_cons_of_mem _ hz)))
        simp only [tree_Diff.j2]
        rw [if_neg (by decide), if_pos (by decide), if_pos hb1, if_pos l1, if_pos (by omega)]
        rfl
    | cons x a =>
      have ha1 : 0 < (((x :: a).map D).length : Int) := by rw [len_D, List.length_cons]; omega
      cases b with
      | nil =>
        rw [dL, ← snoc]
        refine Ev.step (f := fun k => tree_Diff.j1 k ((x :: a).map D) ([].map D) acc true) (fun k => ?_) ?_
        · simp only [tree_Diff.l0]
          rw [if_pos ha1]
        refine Ev.step (f := fun k => tree_Diff.j2 k ((x :: a).map D) ([].map D) acc (-1)) (fun k => ?_) ?_
        · simp only [tree_Diff.j1, if_true]
          rw [if_neg (by omega)]
          rfl
        refine Ev.step (fun k => ?_) (ih a [] (acc ++ [x.1]) (by simp at h ⊢; omega) (by simp; omega) (fun z hz => ha z (List.mem_cons_of_mem _ hz)) hb)
        simp only [tree_Diff.j2]
        rw [if_pos (by decide), if_pos ha1, if_pos l1, if_pos (by omega)]
        rfl
      | cons y b =>
        have hb1 : 0 < (((y :: b).map D).length : Int) := by rw [len_D, List.length_cons]; omega
        have hcmp : paths_Compare.f (rd_T24 ((x :: a).map D) 0).f0 (rd_T24 ((y :: b).map D) 0).f0 = some (cmpP x.1 y.1) := by
          unfold paths_Compare.f
          rw [if_pos ⟨ha x List.mem_cons_self, hb y List.mem_cons_self⟩]; rfl
        refine Ev.step (f := fun k => tree_Diff.j1 k ((x :: a).map D) ((y :: b).map D) acc true) (fun k => ?_) ?_
        · simp only [tree_Diff.l0]
          rw [if_pos ha1]
        refine Ev.step (f := fun k => tree_Diff.j2 k ((x :: a).map D) ((y :: b).map D) acc (cmpP x.1 y.1)) (fun k => ?_) ?_
        · simp only [tree_Diff.j1, if_true]
          rw [if_neg (by omega), if_neg (by omega), if_pos ha1, if_pos hb1, hcmp]
          rfl
        have ha' : ∀ z ∈ a, z.1.size ≤ 1099511627776 := fun z hz => ha z (List.mem_cons_of_mem _ hz)
        have hb' : ∀ z ∈ b, z.1.size ≤ 1099511627776 := fun z hz => hb z (List.mem_cons_of_mem _ hz)
        rw [dL]
        by_cases g1 : cmpP x.1 y.1 < 0
        · rw [if_pos g1, ← snoc]
          refine Ev.step (fun k => ?_) (ih a (y :: b) (acc ++ [x.1]) (by simp at h ⊢; omega) (by simp; omega) ha' hb)
          simp only [tree_Diff.j2]
          rw [if_pos g1, if_pos ha1, if_pos l1, if_pos (by omega)]
          rfl
        · rw [if_neg g1]
          by_cases g2 : cmpP x.1 y.1 > 0
          · rw [if_pos g2, ← snoc]
            refine Ev.step (fun k => ?_) (ih (x :: a) b (acc ++ [y.1]) (by simp at h ⊢; omega) (by simp; omega) ha hb')
            simp only [tree_Diff.j2]
            rw [if_neg g1, if_pos g2, if_pos hb1, if_pos l1, if_pos (by omega)]
            rfl
          · rw [if_neg g2]
            have et : ((rd_T24 ((x :: a).map D) 0).f1).toList = ((rd_T24 ((y :: b).map D) 0).f1).toList ↔ L x.2 = L y.2 := by
              rw [toList_L, toList_L]; exact Iff.rfl
            by_cases g : L x.2 = L y.2
            · rw [if_pos g]
              refine Ev.step (fun k => ?_) (ih a b acc (by simp at h; omega) (by omega) ha' hb')
              simp only [tree_Diff.j2]
              rw [if_neg g1, if_neg g2, if_pos ha1, if_pos hb1, if_pos (et.2 g), if_pos (by omega), if_pos (by omega)]
              rfl
            · rw [if_neg g, ← snoc]
              refine Ev.step (fun k => ?_) (ih a b (acc ++ [x.1]) (by simp at h; omega) (by simp; omega) ha' hb')
              simp only [tree_Diff.j2]
              rw [if_neg g1, if_neg g2, if_pos ha1, if_pos hb1, if_neg (fun e => g (et.1 e)), if_pos l1, if_pos (by omega), if_pos (by omega)]
              rfl
theorem diff_ev {a b : List Fl} (ha : Tree a) (hb : Tree b) : Ev (fun k => tree_Diff.f k (a.map D) (b.map D)) (dL a b) := by
  have h1 := ha.few
  have h2 := hb.few
  exact diff_loop (a.length + b.length) a b [] (Nat.le_refl _) (by simp; omega) (tree_small ha).2 (tree_small hb).2

/-! ### The reference's Sort -/
abbrev UpW (T : List Fl) : Prop := T.Pairwise (fun x y => cmpP x.1 y.1 ≤ 0)
def goS (x : Fl) : List Fl → List Fl
  | [] => [x]
  | y :: r => if cmpP x.1 y.1 < 0 then x :: y :: r else y :: goS x r
theorem goS_len (x : Fl) : ∀ l, (goS x l).length = l.length + 1
  | [] => rfl
  | y :: r => by
    rw [goS]
    split
    · rfl
    · rw [List.length_cons, goS_len x r]; rfl
theorem goS_mem (x : Fl) : ∀ (l : List Fl) (z : Fl), z ∈ goS x l ↔ z = x ∨ z ∈ l
  | [], z => by rw [goS, List.mem_singleton]; simp
  | y :: r, z => by
    rw [goS]
    split
    · rw [List.mem_cons]
    · rw [List.mem_cons, goS_mem x r z, List.mem_cons]
      constructor
      · rintro (h | h | h)
        · exact .inr (.inl h)
        · exact .inl h
        · exact .inr (.inr h)
      · rintro (h | h | h)
        · exact .inr (.inl h)
        · exact .inl h
        · exact .inr (.inr h)
theorem goS_up (x : Fl) : ∀ l, UpW l → UpW (goS x l)
  | [], _ => List.pairwise_singleton _ _
  | y :: r, h => by
    obtain ⟨h1, h2⟩ := List.pairwise_cons.1 h
    rw [goS]
    by_cases g : cmpP x.1 y.1 < 0
    · rw [if_pos g]
      refine List.pairwise_cons.2 ⟨fun z hz => ?_, h⟩
      rcases List.mem_cons.1 hz with rfl | hz
      · exact Int.le_of_lt g
      · exact cmp_tr (Int.le_of_lt g) (h1 z hz)
    · rw [if_neg g]
      refine List.pairwise_cons.2 ⟨fun z hz => ?_, goS_up x r h2⟩
      rcases (goS_mem x r z).1 hz with hz | hz
      · rw [hz]
        have := cmp_turn x.1 y.1
        omega
      · exact h1 z hz
def sortR : List Fl → List Fl → List Fl
  | s, [] => s
  | s, x :: r => sortR (goS x s) r
theorem sortR_spec : ∀ (l s : List Fl), UpW s → UpW (sortR s l) ∧ (∀ z, z ∈ sortR s l ↔ z ∈ s ∨ z ∈ l) ∧ (sortR s l).length = s.length + l.length
  | [], s, h => ⟨h, fun z => ⟨.inl, fun h => h.elim id (fun h => nomatch h)⟩, rfl⟩
  | x :: r, s, h => by
    obtain ⟨h1, h2, h3⟩ := sortR_spec r (goS x s) (goS_up x s h)
    rw [sortR]
    refine ⟨h1, fun z => ?_, by rw [h3, goS_len, List.length_cons]; omega⟩
    rw [h2, goS_mem, List.mem_cons]
    constructor
    · rintro ((h | h) | h)
      · exact .inr (.inl h)
      · exact .inl h
      · exact .inr (.inr h)
    · rintro (h | h | h)
      · exact .inl (.inr h)
      · exact .inl (.inl h)
      · exact .inr h
theorem sort_done (l s : List Fl) (hs : s.length ≤ 1000000) (i : Nat) (hi : i < l.length) (hl : l.length ≤ 1000000) (R : List (S24)) : ∀ (d j : Nat) (acc : List Fl), j ≤ s.length → s.length - j = d → acc.length ≤ j + 1 →
    Ev (fun k => graftbedref02_Sort.l0 k (l.map D) ((acc ++ s.drop j).map D) ((i + 1 : Nat) : Int)) R →
    Ev (fun k => graftbedref02_Sort.l1 k (l.map D) (s.map D) (i : Int) (acc.map D) true (j : Int)) R := by
  intro d
  induction d with
  | zero =>
    intro j acc h1 h2 h3 hN
    rw [List.drop_of_length_le (show s.length ≤ j by omega), List.append_nil] at hN
    refine Ev.step (fun k => ?_) hN
    simp only [graftbedref02_Sort.l1, if_true]
    rw [if_neg (by rw [len_D]; omega), w64 (by omega) (by omega)]; rfl
  | succ d ih =>
    intro j acc h1 h2 h3 hN
    have hj : j < s.length := by omega
    rw [List.drop_eq_getElem_cons hj] at hN
    have e : acc ++ s[j] :: s.drop (j + 1) = (acc ++ [s[j]]) ++ s.drop (j + 1) := by simp
    rw [e] at hN
    refine Ev.step (fun k => ?_) (ih (j + 1) (acc ++ [s[j]]) (by omega) (by omega) (by rw [List.length_append]; simp; omega) hN)
    simp only [graftbedref02_Sort.l1, if_true]
    have e1 : acc.map D ++ [(⟨(D s[j]).f0, (D s[j]).f1⟩ : S24)] = (acc ++ [s[j]]).map D := by rw [List.map_append]; rfl
    rw [if_pos (by rw [len_D]; omega), if_pos (by omega), if_pos (by rw [len_D]; omega), rd_D hj, e1, w64 (by omega) (by omega)]; rfl
theorem sort_in (l s : List Fl) (hs : s.length ≤ 1000000) (i : Nat) (hi : i < l.length) (hl : l.length ≤ 1000000) (hls : ∀ y ∈ l, y.1.size ≤ 1099511627776) (hss : ∀ y ∈ s, y.1.size ≤ 1099511627776) (R : List (S24)) : ∀ (d j : Nat) (acc : List Fl), j ≤ s.length → s.length - j = d → acc.length ≤ j →
    Ev (fun k => graftbedref02_Sort.l0 k (l.map D) ((acc ++ goS l[i] (s.drop j)).map D) ((i + 1 : Nat) : Int)) R →
    Ev (fun k => graftbedref02_Sort.l1 k (l.map D) (s.map D) (i : Int) (acc.map D) false (j : Int)) R := by
  have hlb : (i : Int) < ((l.map D).length : Int) := by rw [len_D]; omega
  intro d
  induction d with
  | zero =>
    intro j acc h1 h2 h3 hN
    rw [List.drop_of_length_le (show s.length ≤ j by omega), goS] at hN
    refine Ev.step (fun k => ?_) hN
    have e2 : acc.map D ++ [(⟨(D l[i]).f0, (D l[i]).f1⟩ : S24)] = (acc ++ [l[i]]).map D := by rw [List.map_append]; rfl
    simp only [graftbedref02_Sort.l1, Bool.false_eq_true, if_false]
    rw [if_neg (by rw [len_D]; omega), if_pos (by omega), if_pos hlb, if_pos (by rw [len_D]; omega), rd_D hi, e2, w64 (by omega) (by omega)]; rfl
  | succ d ih =>
    intro j acc h1 h2 h3 hN
    have hj : j < s.length := by omega
    rw [List.drop_eq_getElem_cons hj, goS] at hN
    have e1 : ∀ acc2 : List Fl, acc2.map D ++ [(⟨(D s[j]).f0, (D s[j]).f1⟩ : S24)] = (acc2 ++ [s[j]]).map D := by intro acc2; rw [List.map_append]; rfl
    have e2 : acc.map D ++ [(⟨(D l[i]).f0, (D l[i]).f1⟩ : S24)] = (acc ++ [l[i]]).map D := by rw [List.map_append]; rfl
    refine Ev.step (f := fun k => (graftbedref01_Compare.f k l[i].1 s[j].1).bind fun t => if t < 0 then graftbedref02_Sort.l1 k (l.map D) (s.map D) (i : Int) (((acc ++ [l[i]]) ++ [s[j]]).map D) true ((j + 1 : Nat) : Int) else graftbedref02_Sort.l1 k (l.map D) (s.map D) (i : Int) ((acc ++ [s[j]]).map D) false ((j + 1 : Nat) : Int)) (fun k => ?_) ?_
    · simp only [graftbedref02_Sort.l1, Bool.false_eq_true, if_false]
      rw [if_pos (by rw [len_D]; omega), if_pos (by omega), if_pos hlb, if_pos (by omega), rd_D hi, rd_D hj, e2, Option.bind_some, e1, e1, w64 (by omega) (by omega), if_pos (show (acc.map D).length < 4398046511104 by rw [len_D]; omega), if_pos (show ((acc ++ [l[i]]).map D).length < 4398046511104 by rw [len_D, List.length_append]; simp; omega), if_pos (show (acc.map D).length < 4398046511104 by rw [len_D]; omega)]
      rfl
    · refine Ev.bind (ref_cmp _ _ (hls _ (List.getElem_mem hi)) (hss _ (List.getElem_mem hj))) ?_
      by_cases g : cmpP l[i].1 s[j].1 < 0
      · simp only [if_pos g]
        rw [if_pos g] at hN
        refine sort_done l s hs i hi hl R (s.length - (j + 1)) (j + 1) ((acc ++ [l[i]]) ++ [s[j]]) (by omega) rfl (by rw [List.length_append, List.length_append]; simp; omega) ?_
        have e : acc ++ l[i] :: s[j] :: s.drop (j + 1) = ((acc ++ [l[i]]) ++ [s[j]]) ++ s.drop (j + 1) := by simp
        rw [e] at hN
        exact hN
      · simp only [if_neg g]
        rw [if_neg g] at hN
        have e : acc ++ s[j] :: goS l[i] (s.drop (j + 1)) = (acc ++ [s[j]]) ++ goS l[i] (s.drop (j + 1)) := by simp
        rw [e] at hN
        exact ih (j + 1) (acc ++ [s[j]]) (by omega) (by omega) (by rw [List.length_append]; simp; omega) hN
theorem sort_loop (l : List Fl) (hl : l.length ≤ 400000) (hls : ∀ y ∈ l, y.1.size ≤ 1099511627776) : ∀ (d i : Nat) (s : List Fl), UpW s → (∀ y ∈ s, y.1.size ≤ 1099511627776) → i ≤ l.length → l.length - i = d → s.length ≤ i →
    Ev (fun k => graftbedref02_Sort.l0 k (l.map D) (s.map D) (i : Int)) ((sortR s (l.drop i)).map D) := by
  intro d
  induction d with
  | zero =>
    intro i s hs hss h1 h2 h3
    rw [List.drop_of_length_le (show l.length ≤ i by omega), sortR]
    refine Ev.step (f := fun _ => some (s.map D)) (fun k => ?_) (Ev.now _)
    simp only [graftbedref02_Sort.l0]
    rw [if_neg (by rw [len_D]; omega)]
  | succ d ih =>
    intro i s hs hss h1 h2 h3
    have hi : i < l.length := by omega
    rw [List.drop_eq_getElem_cons hi, sortR]
    refine Ev.step (f := fun k => graftbedref02_Sort.l1 k (l.map D) (s.map D) (i : Int) (([] : List Fl).map D) false ((0 : Nat) : Int)) (fun k => ?_) ?_
    · simp only [graftbedref02_Sort.l0]
      rw [if_pos (by rw [len_D]; omega)]; rfl
    refine sort_in l s (by omega) i hi (by omega) hls hss _ s.length 0 [] (Nat.zero_le _) rfl (Nat.zero_le _) ?_
    rw [List.drop_zero, List.nil_append]
    refine ih (i + 1) (goS l[i] s) (goS_up _ _ hs) (fun y hy => ?_) (by omega) (by omega) (by rw [goS_len]; omega)
    rcases (goS_mem _ _ _).1 hy with rfl | hy
    · exact hls _ (List.getElem_mem hi)
    · exact hss y hy

/-! ### The reference's Diff -/
theorem rdOf_at {xs : List ByteArray} {i : Nat} (h : i < xs.length) : rdOf ByteArray.empty xs (i : Int) = xs[i] := rdOf_get _ h
theorem has_loop (l : List ByteArray) (p : ByteArray) (hl : l.length ≤ 1000000) : ∀ (d i : Nat), i ≤ l.length → l.length - i = d → Ev (fun k => graftbedref02_has.l0 k l p (i : Int)) (decide (p ∈ l.drop i)) := by
  intro d
  induction d with
  | zero =>
    intro i h1 h2
    rw [List.drop_of_length_le (by omega)]
    refine Ev.step (f := fun _ => some false) (fun k => ?_) (Ev.now _)
    simp only [graftbedref02_has.l0]
    rw [if_neg (by omega)]
  | succ d ih =>
    intro i h1 h2
    have hi : i < l.length := by omega
    rw [List.drop_eq_getElem_cons hi]
    by_cases g : l[i] = p
    · rw [decide_eq_true (by rw [g]; exact List.mem_cons_self)]
      refine Ev.step (f := fun _ => some true) (fun k => ?_) (Ev.now _)
      simp only [graftbedref02_has.l0]
      rw [if_pos (by omega), if_pos (by omega), rdOf_at hi, if_pos (by rw [g])]
    · have e : decide (p ∈ l[i] :: l.drop (i + 1)) = decide (p ∈ l.drop (i + 1)) := by
        rw [decide_eq_decide, List.mem_cons]
        exact ⟨fun h => h.resolve_left (fun e => g e.symm), .inr⟩
      rw [e]
      refine Ev.step (fun k => ?_) (ih (i + 1) (by omega) (by omega))
      simp only [graftbedref02_has.l0]
      rw [if_pos (by omega), if_pos (by omega), rdOf_at hi, if_neg (by rw [toList_L, toList_L]; exact fun e => g (L_inj e)), w64 (by omega) (by omega)]; rfl
theorem has_ev (l : List ByteArray) (p : ByteArray) (hl : l.length ≤ 1000000) : Ev (fun k => graftbedref02_has.f k l p) (decide (p ∈ l)) := by
  have := has_loop l p hl l.length 0 (Nat.zero_le _) rfl
  rw [List.drop_zero] at this
  exact this
/-- What the reference gathers. -/
def gath (a b : List Fl) : List Fl → List ByteArray → List ByteArray
  | [], o => o
  | x :: r, o => gath a b r (if findR x.1 a ≠ findR x.1 b ∧ x.1 ∉ o then o ++ [x.1] else o)
theorem gath_spec (a b : List Fl) : ∀ (l : List Fl) (o : List ByteArray), UpW l → UpK o → (∀ p ∈ o, ∀ x ∈ l, cmpP p x.1 ≤ 0) →
    UpK (gath a b l o) ∧ ∀ p, p ∈ gath a b l o ↔ p ∈ o ∨ (∃ x ∈ l, x.1 = p) ∧ findR p a ≠ findR p b
  | [], o, _, ho, _ => ⟨ho, fun p => ⟨.inl, fun h => h.elim id (fun ⟨⟨_, h, _⟩, _⟩ => nomatch h)⟩⟩
  | x :: r, o, hl, ho, hol => by
    obtain ⟨h1, h2⟩ := List.pairwise_cons.1 hl
    rw [gath]
    by_cases g : findR x.1 a ≠ findR x.1 b ∧ x.1 ∉ o
    · rw [if_pos g]
      obtain ⟨i1, i2⟩ := gath_spec a b r (o ++ [x.1]) h2 (by
        refine List.pairwise_append.2 ⟨ho, List.pairwise_singleton _ _, fun p hp q hq => ?_⟩
        rw [List.mem_singleton] at hq
        subst hq
        rcases Int.lt_or_eq_of_le (hol p hp x List.mem_cons_self) with h | h
        · exact h
        · exact absurd (by rw [← cmp_eq h]; exact hp) g.2) (by
        intro p hp y hy
        rcases List.mem_append.1 hp with hp | hp
        · exact hol p hp y (List.mem_cons_of_mem _ hy)
        · rw [List.mem_singleton] at hp
          rw [hp]; exact h1 y hy)
      refine ⟨i1, fun p => ?_⟩
      rw [i2, List.mem_append, List.mem_singleton]
      constructor
      · rintro ((h | rfl) | ⟨⟨y, hy, e⟩, h⟩)
        · exact .inl h
        · exact .inr ⟨⟨x, List.mem_cons_self, rfl⟩, g.1⟩
        · exact .inr ⟨⟨y, List.mem_cons_of_mem _ hy, e⟩, h⟩
      · rintro (h | ⟨⟨y, hy, e⟩, h⟩)
        · exact .inl (.inl h)
        · rcases List.mem_cons.1 hy with rfl | hy
          · exact .inl (.inr e.symm)
          · exact .inr ⟨⟨y, hy, e⟩, h⟩
    · rw [if_neg g]
      obtain ⟨i1, i2⟩ := gath_spec a b r o h2 ho (fun p hp y hy => hol p hp y (List.mem_cons_of_mem _ hy))
      refine ⟨i1, fun p => ?_⟩
      rw [i2]
      constructor
      · rintro (h | ⟨⟨y, hy, e⟩, h⟩)
        · exact .inl h
        · exact .inr ⟨⟨y, List.mem_cons_of_mem _ hy, e⟩, h⟩
      · rintro (h | ⟨⟨y, hy, e⟩, h⟩)
        · exact .inl h
        · rcases List.mem_cons.1 hy with rfl | hy
          · by_cases hm : y.1 ∈ o
            · exact .inl (by rw [← e]; exact hm)
            · exact absurd ⟨by rw [e]; exact h, hm⟩ g
          · exact .inr ⟨⟨y, hy, e⟩, h⟩
theorem ref_findR (T : List Fl) (p : ByteArray) (hT : T.length ≤ 1000000) : Ev (fun k => graftbedref02_Find.f k (T.map D) p) (findR p T) := by
  have := ref_find_loop T p hT T.length 0 (Nat.zero_le _) rfl
  rw [List.drop_zero] at this
  exact this
theorem gath_loop (a b l : List Fl) (ha : a.length ≤ 1000000) (hb : b.length ≤ 1000000) (hl : l.length ≤ 400000) : ∀ (d i : Nat) (o : List ByteArray), i ≤ l.length → l.length - i = d → o.length ≤ i →
    Ev (fun k => graftbedref02_Diff.l0 k (a.map D) (b.map D) (l.map D) o (i : Int)) (gath a b (l.drop i) o) := by
  intro d
  induction d with
  | zero =>
    intro i o h1 h2 h3
    rw [List.drop_of_length_le (by omega), gath]
    refine Ev.step (f := fun _ => some o) (fun k => ?_) (Ev.now _)
    simp only [graftbedref02_Diff.l0]
    rw [if_neg (by rw [len_D]; omega)]
  | succ d ih =>
    intro i o h1 h2 h3
    have hi : i < l.length := by omega
    rw [List.drop_eq_getElem_cons hi, gath]
    have put : findR l[i].1 a ≠ findR l[i].1 b → Ev (fun k => (graftbedref02_has.f k o l[i].1).bind fun t483 => (if t483 = true then (graftbedref02_Diff.l0 k (a.map D) (b.map D) (l.map D) o ((i + 1 : Nat) : Int)) else (if o.length < 8796093022208 then (graftbedref02_Diff.l0 k (a.map D) (b.map D) (l.map D) (o ++ [l[i].1]) ((i + 1 : Nat) : Int)) else (none)))) (gath a b (l.drop (i + 1)) (if findR l[i].1 a ≠ findR l[i].1 b ∧ l[i].1 ∉ o then o ++ [l[i].1] else o)) := by
      intro hd
      refine Ev.bind (has_ev o l[i].1 (by omega)) ?_
      by_cases hm : l[i].1 ∈ o
      · rw [if_neg (fun h => h.2 hm), decide_eq_true hm]
        simp only [if_true]
        exact ih (i + 1) o (by omega) (by omega) (by omega)
      · rw [if_pos ⟨hd, hm⟩, decide_eq_false hm]
        simp only [Bool.false_eq_true, if_false, if_pos (show o.length < 8796093022208 by omega)]
        exact ih (i + 1) (o ++ [l[i].1]) (by omega) (by omega) (by rw [List.length_append]; simp; omega)
    refine Ev.step (f := fun k => (graftbedref02_Find.f k (a.map D) l[i].1).bind fun bt479 => ((graftbedref02_Find.f k (b.map D) l[i].1).bind fun bt481 => (if (bt479.2 != bt481.2) = true then ((graftbedref02_has.f k o l[i].1).bind fun t483 => (if t483 = true then (graftbedref02_Diff.l0 k (a.map D) (b.map D) (l.map D) o ((i + 1 : Nat) : Int)) else (if o.length < 8796093022208 then (graftbedref02_Diff.l0 k (a.map D) (b.map D) (l.map D) (o ++ [l[i].1]) ((i + 1 : Nat) : Int)) else (none)))) else (if bt479.1.toList = bt481.1.toList then (graftbedref02_Diff.l0 k (a.map D) (b.map D) (l.map D) o ((i + 1 : Nat) : Int)) else ((graftbedref02_has.f k o l[i].1).bind fun t483 => (if t483 = true then (graftbedref02_Diff.l0 k (a.map D) (b.map D) (l.map D) o ((i + 1 : Nat) : Int)) else (if o.length < 8796093022208 then (graftbedref02_Diff.l0 k (a.map D) (b.map D) (l.map D) (o ++ [l[i].1]) ((i + 1 : Nat) : Int)) else (none)))))))) (fun k => ?_) ?_
    · simp only [graftbedref02_Diff.l0]
      rw [if_pos (by rw [len_D]; omega), if_pos (by omega), rd_D hi, w64 (by omega) (by omega)]
      rfl
    · refine Ev.bind (ref_findR a _ ha) ?_
      refine Ev.bind (ref_findR b _ hb) ?_
      by_cases g1 : (findR l[i].1 a).2 = (findR l[i].1 b).2
      · rw [g1, bne_self_eq_false]
        simp only [Bool.false_eq_true, if_false]
        by_cases g2 : (findR l[i].1 a).1 = (findR l[i].1 b).1
        · rw [g2]
          simp only [if_true]
          rw [if_neg (fun h => h.1 (Prod.ext g2 g1))]
          exact ih (i + 1) o (by omega) (by omega) (by omega)
        · simp only [if_neg (show ¬ (findR l[i].1 a).1.toList = (findR l[i].1 b).1.toList by rw [toList_L, toList_L]; exact fun e => g2 (L_inj e))]
          exact put (fun e => g2 (by rw [e]))
      · simp only [if_pos (show ((findR l[i].1 a).2 != (findR l[i].1 b).2) = true from bne_iff_ne.2 g1)]
        exact put (fun e => g1 (by rw [e]))
theorem ref_diff {a b : List Fl} (ha : Tree a) (hb : Tree b) : Ev (fun k => graftbedref02_Diff.f k (a.map D) (b.map D)) (dL a b) := by
  have h1 := ha.few
  have h2 := hb.few
  have hsz : ∀ y ∈ a ++ b, y.1.size ≤ 1099511627776 := by
    intro y hy
    rcases List.mem_append.1 hy with h | h
    · exact (tree_small ha).2 y h
    · exact (tree_small hb).2 y h
  have hab : (a ++ b).length ≤ 120 := by rw [List.length_append]; omega
  obtain ⟨s1, s2, s3⟩ := sortR_spec (a ++ b) [] List.Pairwise.nil
  have hS := sort_loop (a ++ b) (by omega) hsz (a ++ b).length 0 [] List.Pairwise.nil (fun _ h => nomatch h) (Nat.zero_le _) rfl (Nat.zero_le _)
  rw [List.drop_zero] at hS
  obtain ⟨s, es⟩ : ∃ s, sortR [] (a ++ b) = s := ⟨_, rfl⟩
  rw [es] at s1 s2 s3 hS
  have hG := gath_loop a b s (by omega) (by omega) (by rw [s3, List.length_nil]; omega) s.length 0 [] (Nat.zero_le _) rfl (Nat.zero_le _)
  rw [List.drop_zero] at hG
  obtain ⟨g1, g2⟩ := gath_spec a b s [] s1 List.Pairwise.nil (fun _ h => nomatch h)
  obtain ⟨d1, d2⟩ := dL_spec _ a b (Nat.le_refl _) ha.up hb.up
  have e : gath a b s [] = dL a b := by
    refine upK_ext g1 d1 (fun p => ?_)
    rw [g2, d2]
    constructor
    · rintro (h | ⟨_, h⟩)
      · cases h
      · exact h
    · intro h
      refine .inr ⟨?_, h⟩
      by_cases h0 : findR p a = (⟨#[]⟩, false)
      · obtain ⟨y, hy, e⟩ := findR_key (T := b) (fun e => h (by rw [h0, e]))
        exact ⟨y, (s2 y).2 (.inr (List.mem_append_right _ hy)), e⟩
      · obtain ⟨y, hy, e⟩ := findR_key h0
        exact ⟨y, (s2 y).2 (.inr (List.mem_append_left _ hy)), e⟩
  rw [e] at hG
  unfold graftbedref02_Diff.f
  simp only [Option.bind_some, List.nil_append]
  simp only [if_pos (show ([] : List (S24)).length + (a.map D).length < 4398046511104 by rw [len_D]; simp; omega), if_pos (show (a.map D).length + (b.map D).length < 4398046511104 by rw [len_D, len_D]; omega)]
  have em : a.map D ++ b.map D = (a ++ b).map D := List.map_append.symm
  rw [em]
  exact Ev.bind (g := fun k => graftbedref02_Sort.f k ((a ++ b).map D)) (f := fun k t472 => graftbedref02_Diff.l0 k (a.map D) (b.map D) t472 ([] : List ByteArray) 0) hS hG

/-! ### same, Same -/
theorem lsame_loop (l : List ByteArray) (hl : l.length ≤ 1000000) : ∀ (d i : Nat), i ≤ l.length → l.length - i = d → Ev (fun k => graftbedlaw02_same.l0 k l l (i : Int)) true := by
  intro d
  induction d with
  | zero =>
    intro i h1 h2
    refine Ev.step (f := fun _ => some true) (fun k => ?_) (Ev.now _)
    simp only [graftbedlaw02_same.l0]
    rw [if_neg (by omega)]
  | succ d ih =>
    intro i h1 h2
    have hi : i < l.length := by omega
    refine Ev.step (fun k => ?_) (ih (i + 1) (by omega) (by omega))
    simp only [graftbedlaw02_same.l0, if_true]
    rw [if_pos (by omega), if_pos (by omega), if_pos (by omega), w64 (by omega) (by omega)]; rfl
theorem lsame_ev (l : List ByteArray) (hl : l.length ≤ 1000000) : Ev (fun k => graftbedlaw02_same.f k l l) true := by
  unfold graftbedlaw02_same.f
  simp only [if_true]
  exact lsame_loop l hl l.length 0 (Nat.zero_le _) rfl
theorem fsame_loop (a b : List Fl) (ha : a.length ≤ 1000000) (hab : a.length = b.length) : ∀ (d i : Nat), i ≤ a.length → a.length - i = d → Ev (fun k => api_File_50.l0 k (a.map D) (b.map D) (a.length : Int) (i : Int)) (decide (a.drop i = b.drop i)) := by
  intro d
  induction d with
  | zero =>
    intro i h1 h2
    rw [List.drop_of_length_le (by omega), List.drop_of_length_le (by omega)]
    refine Ev.step (f := fun _ => some true) (fun k => ?_) (Ev.now _)
    simp only [api_File_50.l0]
    rw [if_neg (by omega)]
  | succ d ih =>
    intro i h1 h2
    have hi : i < a.length := by omega
    have hib : i < b.length := by omega
    rw [List.drop_eq_getElem_cons hi, List.drop_eq_getElem_cons hib]
    by_cases g : a[i] = b[i]
    · have e : decide (a[i] :: a.drop (i + 1) = b[i] :: b.drop (i + 1)) = decide (a.drop (i + 1) = b.drop (i + 1)) := by
        rw [decide_eq_decide, g]
        exact ⟨fun h => by injection h, fun h => by rw [h]⟩
      rw [e]
      refine Ev.step (fun k => ?_) (ih (i + 1) (by omega) (by omega))
      simp only [api_File_50.l0]
      rw [if_pos (by omega), if_pos (by omega), if_pos (by rw [len_D]; omega), if_pos (by rw [len_D]; omega), rd_D hi, rd_D hib, g, if_neg (by simp), w64 (by omega) (by omega)]; rfl
    · rw [decide_eq_false (fun h => g (by injection h))]
      refine Ev.step (f := fun _ => some false) (fun k => ?_) (Ev.now _)
      simp only [api_File_50.l0]
      rw [if_pos (by omega), if_pos (by omega), if_pos (by rw [len_D]; omega), if_pos (by rw [len_D]; omega), rd_D hi, rd_D hib, if_pos]
      have hne : ¬ (a[i].1 = b[i].1 ∧ a[i].2 = b[i].2) := fun h => g (Prod.ext h.1 h.2)
      show (!(a[i].1.toList == b[i].1.toList) || !(a[i].2.toList == b[i].2.toList)) = true
      rw [toList_L, toList_L, toList_L, toList_L]
      by_cases e1 : a[i].1 = b[i].1
      · have e2 : ¬ L a[i].2 = L b[i].2 := fun h => hne ⟨e1, L_inj h⟩
        rw [beq_eq_false_iff_ne.2 e2]; simp
      · rw [beq_eq_false_iff_ne.2 (fun h => e1 (L_inj h))]; simp
theorem fsame_ev {a b : List Fl} (ha : a.length ≤ 1000000) : Ev (fun k => tree_Same.f k (a.map D) (b.map D)) (decide (a = b)) := by
  unfold tree_Same.f
  refine Ev.bind (a := decide (a = b)) ?_ (Ev.now _)
  unfold api_File_50.f
  rw [len_D, len_D]
  by_cases g : (a.length : Int) = (b.length : Int)
  · simp only [if_pos g]
    have := fsame_loop a b ha (by omega) a.length 0 (Nat.zero_le _) rfl
    rw [List.drop_zero, List.drop_zero] at this
    exact this
  · simp only [if_neg g]
    rw [decide_eq_false (fun e => g (by rw [e]))]
    exact Ev.now _

/-! ### The law -/
theorem diffs_in (l m : List Fl) (hl : l.length ≤ 80) (hs : ∀ x ∈ l, x.1.size ≤ 16384 ∧ x.2.size ≤ 16384) (hl2 : m.length ≤ 80) (hs2 : ∀ x ∈ m, x.1.size ≤ 16384 ∧ x.2.size ≤ 16384) :
    Ev (fun k => graftbedlaw02_TreeDiffs.j0 k (l.map D) (m.map D) false) true := by
  have ha := grow_tree l [] tree_nil
  have hb := grow_tree m [] tree_nil
  obtain ⟨a, ea⟩ : ∃ T, grow [] l = T := ⟨_, rfl⟩
  obtain ⟨b, eb⟩ : ∃ T, grow [] m = T := ⟨_, rfl⟩
  have hga := grown_ev l (by omega) (fun y hy => by have := (hs y hy).1; omega)
  have hgb := grown_ev m (by omega) (fun y hy => by have := (hs2 y hy).1; omega)
  rw [ea] at hga ha
  rw [eb] at hgb hb
  have h1 := ha.few
  have h2 := hb.few
  obtain ⟨d1, d2⟩ := dL_spec _ a b (Nat.le_refl _) ha.up hb.up
  obtain ⟨c1, c2⟩ := dL_spec _ b a (Nat.le_refl _) hb.up ha.up
  have eab : dL b a = dL a b := upK_ext c1 d1 (fun p => by rw [c2, d2]; exact ⟨fun h => h.symm, fun h => h.symm⟩)
  have dlen : ∀ (n : Nat) (a b : List Fl), a.length + b.length ≤ n → (dL a b).length ≤ n := by
    intro n
    induction n with
    | zero =>
      intro a b h
      obtain rfl : a = [] := List.length_eq_zero_iff.1 (by omega)
      obtain rfl : b = [] := List.length_eq_zero_iff.1 (by omega)
      rw [dL]; exact Nat.le_refl _
    | succ n ih =>
      intro a b h
      cases a with
      | nil => cases b with
        | nil => rw [dL]; exact Nat.zero_le _
        | cons y b => rw [dL, List.length_cons]; have := ih [] b (by simp at h ⊢; omega); omega
      | cons x a => cases b with
        | nil => rw [dL, List.length_cons]; have := ih a [] (by simp at h ⊢; omega); omega
        | cons y b =>
          rw [dL]
          have i1 := ih a (y :: b) (by simp at h ⊢; omega)
          have i2 := ih (x :: a) b (by simp at h ⊢; omega)
          have i3 := ih a b (by simp at h; omega)
          split
          · rw [List.length_cons]; omega
          · split
            · rw [List.length_cons]; omega
            · split
              · omega
              · rw [List.length_cons]; omega
  have hdl := dlen _ a b (Nat.le_refl _)
  have hz : (((dL a b).length : Int) == 0) = decide (a = b) := by
    by_cases g : a = b
    · rw [decide_eq_true g]
      have : dL a b = [] := List.eq_nil_iff_forall_not_mem.2 (fun p hp => (d2 p).1 hp (by rw [g]))
      rw [this]; rfl
    · rw [decide_eq_false g, beq_eq_false_iff_ne]
      intro h0
      apply g
      have hn : dL a b = [] := List.length_eq_zero_iff.1 (by omega)
      have hall : ∀ p, findR p a = findR p b := fun p => Classical.byContradiction fun h => by
        have := (d2 p).2 h
        rw [hn] at this
        cases this
      have sub : ∀ {S T : List Fl}, Up S → Up T → (∀ p, findR p S = findR p T) → ∀ y ∈ S, y ∈ T := by
        intro S T hS hT h y hy
        have h1 := findR_T hS y.1
        rw [find_has hS hy, h] at h1
        obtain ⟨z, hz, e, f⟩ | ⟨_, f⟩ := findR_form y.1 T
        · rw [f] at h1
          injection h1 with h1 _
          have : z = y := Prod.ext e h1
          rw [← this]; exact hz
        · rw [f] at h1
          injection h1 with _ h1
          cases h1
      exact up_ext ha.up hb.up (fun y => ⟨sub ha.up hb.up hall y, sub hb.up ha.up (fun p => (hall p).symm) y⟩)
  refine Ev.step (f := fun k => (graftbedlaw02_grown.f k (l.map D)).bind fun t498 => ((graftbedlaw02_grown.f k (m.map D)).bind fun t501 => ((tree_Diff.f k t498 t501).bind fun t504 => ((graftbedref02_Diff.f k t498 t501).bind fun t507 => ((graftbedlaw02_same.f k t504 t507).bind fun t510 => (if t510 = true then ((tree_Diff.f k t501 t498).bind fun t511 => ((graftbedlaw02_same.f k t504 t511).bind fun t514 => (if t514 = true then ((tree_Same.f k t498 t501).bind fun t515 => (if (((t504.length : Int) == 0) == t515) = true then ((tree_Same.f k t498 t498).bind fun t516 => (some t516)) else (some false))) else (some false)))) else (some false))))))) (fun k => by simp only [graftbedlaw02_TreeDiffs.j0, Bool.false_eq_true, if_false]) ?_
  refine Ev.bind hga ?_
  refine Ev.bind hgb ?_
  refine Ev.bind (diff_ev ha hb) ?_
  refine Ev.bind (ref_diff ha hb) ?_
  refine Ev.bind (lsame_ev _ (by omega)) ?_
  simp only [if_true]
  refine Ev.bind (diff_ev hb ha) ?_
  rw [eab]
  refine Ev.bind (lsame_ev _ (by omega)) ?_
  simp only [if_true]
  refine Ev.bind (fsame_ev (by omega)) ?_
  rw [hz, BEq.rfl]
  simp only [if_true]
  have := fsame_ev (a := a) (b := a) (by omega)
  rw [decide_eq_true rfl] at this
  exact Ev.bind this (Ev.now _)

theorem TreeDiffs (l0 : List S24) (l1 : List S24) (w0 : l0.length * 32 ≤ 140737488351232 ∧ ∀ y ∈ l0, ok24 y) (w1 : l1.length * 32 ≤ 140737488351232 ∧ ∀ y ∈ l1, ok24 y) : ∃ k, graftbedlaw02_TreeDiffs.f k l0 l1 = some true := by
  suffices h : Ev (fun k => graftbedlaw02_TreeDiffs.f k l0 l1) true by
    obtain ⟨K, hK⟩ := h
    exact ⟨K, hK K (Nat.le_refl _)⟩
  have big : Ev (fun k => graftbedlaw02_TreeDiffs.j0 k l0 l1 true) true :=
    Ev.step (f := fun _ => some true) (fun k => by simp only [graftbedlaw02_TreeDiffs.j0, if_true]; rw [shown_f]; rfl) (Ev.now _)
  obtain ⟨b1, hb1, hc1⟩ := heavy_ev (l0.map E)
  rw [DE] at hb1
  unfold graftbedlaw02_TreeDiffs.f
  refine Ev.bind hb1 ?_
  cases b1 with
  | true => simp only [if_true]; exact big
  | false =>
    simp only [Bool.false_eq_true, if_false]
    obtain ⟨b2, hb2, hc2⟩ := heavy_ev (l1.map E)
    rw [DE] at hb2
    refine Ev.bind hb2 ?_
    cases b2 with
    | true => simp only [if_true]; exact big
    | false =>
      simp only [Bool.false_eq_true, if_false]
      rw [shown_f]
      simp only [Option.bind_some, Bool.not_true]
      obtain ⟨p1, p2⟩ := hc1 rfl
      obtain ⟨q1, q2⟩ := hc2 rfl
      have := diffs_in (l0.map E) (l1.map E) p1 p2 q1 q2
      rw [DE, DE] at this
      exact this

end Go.Proofs.Ytmocfgghccmdgaa.Pure
