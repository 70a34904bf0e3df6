/- Sorted files, in plain words: search, put, drop, fits. -/
import Derived.Test.YtmocfgghccmdgaaTrMerge
namespace Go.Proofs.Ytmocfgghccmdgaa.TrPlain
open Go Go.Proofs Go.RowKit Go.Proofs.YtmocfgghccmdgaaW.PrintWords Go.Proofs.Ytmocfgghccmdgaa.BytesLib Go.Proofs.Ytmocfgghccmdgaa.SplitLib Go.Proofs.Ytmocfgghccmdgaa.OrderLib Go.Proofs.Ytmocfgghccmdgaa.Elems Go.Proofs.Ytmocfgghccmdgaa.Valid Go.Proofs.Ytmocfgghccmdgaa.PathBase Go.Proofs.Ytmocfgghccmdgaa.TrLib Go.Proofs.Ytmocfgghccmdgaa.TrPut Go.Proofs.Ytmocfgghccmdgaa.TrFits Go.Proofs.Ytmocfgghccmdgaa.TrOps Go.Proofs.Ytmocfgghccmdgaa.TrMerge
set_option linter.unusedVariables false
set_option linter.unusedSimpArgs false

theorem valid_tells {s : ByteArray} (h : valid s = true) : L s ≠ [] ∧ s.size ≤ 60 ∧ ∀ e ∈ elemsL (L s), e ≠ [] ∧ e ≠ [46] ∧ e ≠ [46, 46] := by
  have h1 : ¬ s.toList = [] := fun e => by rw [valid_empty e] at h; cases h
  have h2 : (s.size : Int) ≤ 60 := by
    by_cases g : (s.size : Int) ≤ 60
    · exact g
    · rw [valid_long g] at h; cases h
  rw [valid_in h1 h2, List.all_eq_true] at h
  refine ⟨by rw [← toList_L]; exact h1, by omega, ?_⟩
  intro e he
  have hm : ofL e ∈ elems s := by rw [elems_list]; exact List.mem_map.2 ⟨e, he, rfl⟩
  have := h _ hm
  unfold okE at this
  rw [toList_L, L_ofL] at this
  simp only [Bool.and_eq_true, Bool.not_eq_true', List.isEmpty_eq_false_iff, beq_eq_false_iff_ne] at this
  exact ⟨this.1.1.1.1, this.1.1.2, this.1.2⟩
theorem valid_not_here {s : ByteArray} (h : valid s = true) : L s ≠ [] ∧ L s ≠ [46] := by
  obtain ⟨h1, _, h3⟩ := valid_tells h
  refine ⟨h1, fun e => ?_⟩
  have := (h3 [46] (by rw [e]; decide +kernel)).2.1
  exact this rfl

/-! ### The order -/
theorem cmp_self (a : ByteArray) : cmpP a a = 0 := cmpLL_self _
theorem cmp_eq {a b : ByteArray} (h : cmpP a b = 0) : a = b := L_inj (elemsL_inj (cmpLL_zero h))
theorem cmp_turn (a b : ByteArray) : cmpP b a = - cmpP a b := cmpLL_turn _ _
theorem cmp_tr {a b c : ByteArray} (h : cmpP a b ≤ 0) (g : cmpP b c ≤ 0) : cmpP a c ≤ 0 := cmpLL_tr h g
theorem lt_tr' {a b c : ByteArray} (h : cmpP a b < 0) (g : cmpP b c ≤ 0) : cmpP a c < 0 := by
  have h1 := cmp_tr (Int.le_of_lt h) g
  rcases Int.lt_or_eq_of_le h1 with h2 | h2
  · exact h2
  · have := cmp_eq h2
    subst this
    have := cmp_turn a b
    omega

/-- A tree. -/
structure Tree (T : List Fl) : Prop where
  ok : ∀ x ∈ T, valid x.1 = true ∧ x.2.size ≤ 4000
  up : T.Pairwise (fun x y => cmpP x.1 y.1 < 0)
  out : ∀ x ∈ T, ∀ y ∈ T, insideF x.1 y.1 = false
  few : T.length ≤ 60

theorem bs_at (p : Nat → Bool) (m : Nat) : ∀ (n lo hi : Nat), hi - lo ≤ n → lo ≤ m → m ≤ hi → (∀ i, i < m → p i = true) → (∀ i, m ≤ i → i < hi → p i = false) → bs p n lo hi = m
  | 0, lo, hi, h1, h2, h3, _, _ => by rw [bs]; omega
  | n + 1, lo, hi, h1, h2, h3, h4, h5 => by
    rw [bs]
    by_cases h : lo < hi
    · rw [if_pos h]
      by_cases g : (lo + hi) / 2 < m
      · rw [if_pos (h4 _ g)]
        exact bs_at p m n _ _ (by omega) (by omega) h3 h4 h5
      · rw [if_neg (by rw [h5 _ (by omega) (by omega)]; decide)]
        exact bs_at p m n _ _ (by omega) h2 (by omega) h4 (fun i hi1 hi2 => h5 i hi1 (by omega))
    · rw [if_neg h]; omega

theorem split_up (k : ByteArray) : ∀ (T : List Fl), T.Pairwise (fun x y => cmpP x.1 y.1 < 0) → ∃ A B, T = A ++ B ∧ (∀ y ∈ A, cmpP y.1 k < 0) ∧ (∀ y ∈ B, 0 ≤ cmpP y.1 k)
  | [], _ => ⟨[], [], rfl, (fun _ h => nomatch h), (fun _ h => nomatch h)⟩
  | x :: T, h => by
    obtain ⟨h1, h2⟩ := List.pairwise_cons.1 h
    by_cases g : cmpP x.1 k < 0
    · obtain ⟨A, B, rfl, hA, hB⟩ := split_up k T h2
      refine ⟨x :: A, B, rfl, fun y hy => ?_, hB⟩
      rcases List.mem_cons.1 hy with rfl | hy
      · exact g
      · exact hA y hy
    · refine ⟨[], x :: T, rfl, (fun _ h => nomatch h), fun y hy => ?_⟩
      rcases List.mem_cons.1 hy with rfl | hy
      · omega
      · have e1 := h1 y hy
        by_cases g2 : cmpP y.1 k < 0
        · have := lt_tr' e1 (Int.le_of_lt g2)
          omega
        · omega

theorem getD_A {A B : List Fl} {i : Nat} {d : Fl} (h : i < A.length) : (A ++ B).getD i d ∈ A := by
  rw [List.getD_eq_getElem?_getD, List.getElem?_append_left h, List.getElem?_eq_getElem h]
  exact List.getElem_mem h
theorem getD_B {A B : List Fl} {i : Nat} {d : Fl} (h : A.length ≤ i) (h2 : i < (A ++ B).length) : (A ++ B).getD i d ∈ B := by
  rw [List.length_append] at h2
  rw [List.getD_eq_getElem?_getD, List.getElem?_append_right h, List.getElem?_eq_getElem (by omega)]
  exact List.getElem_mem _

theorem atI_of {A B : List Fl} {k : ByteArray} (hA : ∀ y ∈ A, cmpP y.1 k < 0) (hB : ∀ y ∈ B, 0 ≤ cmpP y.1 k) : atI (A ++ B) k = A.length := by
  unfold atI
  refine bs_at _ A.length _ _ _ (by omega) (Nat.zero_le _) (by rw [List.length_append]; omega) ?_ ?_
  · intro i hi
    exact decide_eq_true (hA _ (getD_A hi))
  · intro i h1 h2
    refine decide_eq_false ?_
    have := hB _ (getD_B (d := (⟨#[]⟩, ⟨#[]⟩)) h1 h2)
    omega

/-- Where a key stands, or would stand. -/
theorem at_split {T : List Fl} (up : T.Pairwise (fun x y => cmpP x.1 y.1 < 0)) (k : ByteArray) :
    (∃ A B, T = A ++ B ∧ (∀ y ∈ A, cmpP y.1 k < 0) ∧ (∀ y ∈ B, 0 < cmpP y.1 k) ∧ atF T k = (A.length, false)) ∨
    (∃ A z B, T = A ++ z :: B ∧ (∀ y ∈ A, cmpP y.1 k < 0) ∧ z.1 = k ∧ (∀ y ∈ B, 0 < cmpP y.1 k) ∧ atF T k = (A.length, true)) := by
  obtain ⟨A, B, rfl, hA, hB⟩ := split_up k T up
  have hI := atI_of hA hB
  cases B with
  | nil =>
    refine .inl ⟨A, [], rfl, hA, (fun _ h => nomatch h), ?_⟩
    unfold atF
    rw [hI, decide_eq_false (by simp)]
    rfl
  | cons z B =>
    have hz := hB z List.mem_cons_self
    have hgz : (A ++ z :: B).getD A.length (⟨#[]⟩, ⟨#[]⟩) = z := by
      rw [List.getD_eq_getElem?_getD, List.getElem?_append_right (Nat.le_refl _)]; simp
    have hlt : decide (A.length < (A ++ z :: B).length) = true := decide_eq_true (by simp)
    have hBz : ∀ y ∈ B, cmpP z.1 y.1 < 0 := by
      have := (List.pairwise_append.1 up).2.1
      exact (List.pairwise_cons.1 this).1
    by_cases g : cmpP z.1 k = 0
    · refine .inr ⟨A, z, B, rfl, hA, cmp_eq g, fun y hy => ?_, ?_⟩
      · have h1 := hBz y hy
        rw [cmp_eq g] at h1
        have := cmp_turn k y.1
        omega
      · unfold atF
        rw [hI, hlt, hgz, decide_eq_true g]; rfl
    · refine .inl ⟨A, z :: B, rfl, hA, fun y hy => ?_, ?_⟩
      · rcases List.mem_cons.1 hy with rfl | hy
        · omega
        · have h1 := hBz y hy
          have h2 : cmpP k z.1 < 0 := by have := cmp_turn z.1 k; omega
          have h3 := lt_tr' h2 (Int.le_of_lt h1)
          have := cmp_turn k y.1
          omega
      · unfold atF
        rw [hI, hlt, hgz, decide_eq_false g]; rfl

theorem cmp_ne {a b : ByteArray} (h : cmpP a b < 0 ∨ 0 < cmpP a b) : a ≠ b := by
  rintro rfl
  rw [cmp_self] at h
  omega

/-- It is there. -/
theorem at_iff {T : List Fl} (up : T.Pairwise (fun x y => cmpP x.1 y.1 < 0)) (k : ByteArray) : (atF T k).2 = true ↔ ∃ y ∈ T, y.1 = k := by
  rcases at_split up k with ⟨A, B, rfl, hA, hB, e⟩ | ⟨A, z, B, rfl, hA, hz, hB, e⟩
  · rw [e]
    constructor
    · intro h; cases h
    · rintro ⟨y, hy, rfl⟩
      rcases List.mem_append.1 hy with hy | hy
      · exact absurd rfl (cmp_ne (.inl (hA y hy)))
      · exact absurd rfl (cmp_ne (.inr (hB y hy)))
  · rw [e]
    exact ⟨fun _ => ⟨z, by simp, hz⟩, fun _ => rfl⟩

/-- What put makes. -/
theorem put_form {T : List Fl} (up : T.Pairwise (fun x y => cmpP x.1 y.1 < 0)) (x : Fl) :
    (∃ A B, T = A ++ B ∧ (∀ y ∈ A, cmpP y.1 x.1 < 0) ∧ (∀ y ∈ B, 0 < cmpP y.1 x.1) ∧ putF T x = A ++ x :: B) ∨
    (∃ A z B, T = A ++ z :: B ∧ (∀ y ∈ A, cmpP y.1 x.1 < 0) ∧ z.1 = x.1 ∧ (∀ y ∈ B, 0 < cmpP y.1 x.1) ∧ putF T x = A ++ x :: B) := by
  rcases at_split up x.1 with ⟨A, B, rfl, hA, hB, e⟩ | ⟨A, z, B, rfl, hA, hz, hB, e⟩
  · refine .inl ⟨A, B, rfl, hA, hB, ?_⟩
    unfold putF
    rw [e]
    simp
  · refine .inr ⟨A, z, B, rfl, hA, hz, hB, ?_⟩
    unfold putF
    rw [e]
    simp

theorem put_mem {T : List Fl} (up : T.Pairwise (fun x y => cmpP x.1 y.1 < 0)) (x y : Fl) : y ∈ putF T x ↔ y = x ∨ (y ∈ T ∧ y.1 ≠ x.1) := by
  rcases put_form up x with ⟨A, B, rfl, hA, hB, e⟩ | ⟨A, z, B, rfl, hA, hz, hB, e⟩
  · rw [e, List.mem_append, List.mem_cons, List.mem_append]
    constructor
    · rintro (h | h | h)
      · exact .inr ⟨.inl h, cmp_ne (.inl (hA y h))⟩
      · exact .inl h
      · exact .inr ⟨.inr h, cmp_ne (.inr (hB y h))⟩
    · rintro (h | ⟨h | h, _⟩)
      · exact .inr (.inl h)
      · exact .inl h
      · exact .inr (.inr h)
  · rw [e, List.mem_append, List.mem_cons, List.mem_append, List.mem_cons]
    constructor
    · rintro (h | h | h)
      · exact .inr ⟨.inl h, cmp_ne (.inl (hA y h))⟩
      · exact .inl h
      · exact .inr ⟨.inr (.inr h), cmp_ne (.inr (hB y h))⟩
    · rintro (h | ⟨h | rfl | h, g⟩)
      · exact .inr (.inl h)
      · exact .inl h
      · exact absurd hz g
      · exact .inr (.inr h)

theorem put_up {T : List Fl} (up : T.Pairwise (fun x y => cmpP x.1 y.1 < 0)) (x : Fl) : (putF T x).Pairwise (fun x y => cmpP x.1 y.1 < 0) := by
  have main : ∀ A B : List Fl, A.Pairwise (fun x y => cmpP x.1 y.1 < 0) → B.Pairwise (fun x y => cmpP x.1 y.1 < 0) → (∀ y ∈ A, cmpP y.1 x.1 < 0) → (∀ y ∈ B, 0 < cmpP y.1 x.1) → (A ++ x :: B).Pairwise (fun x y => cmpP x.1 y.1 < 0) := by
    intro A B h1 h2 hA hB
    have hB' : ∀ y ∈ B, cmpP x.1 y.1 < 0 := fun y hy => by have := hB y hy; have := cmp_turn y.1 x.1; omega
    refine List.pairwise_append.2 ⟨h1, List.pairwise_cons.2 ⟨hB', h2⟩, fun a ha b hb => ?_⟩
    rcases List.mem_cons.1 hb with rfl | hb
    · exact hA a ha
    · exact lt_tr' (hA a ha) (Int.le_of_lt (hB' b hb))
  rcases put_form up x with ⟨A, B, rfl, hA, hB, e⟩ | ⟨A, z, B, rfl, hA, hz, hB, e⟩
  · rw [e]
    obtain ⟨h1, h2, _⟩ := List.pairwise_append.1 up
    exact main A B h1 h2 hA hB
  · rw [e]
    obtain ⟨h1, h2, _⟩ := List.pairwise_append.1 up
    exact main A B h1 (List.pairwise_cons.1 h2).2 hA hB

/-- Two lists that rise and have the same things are the same. -/
theorem up_ext : ∀ {S T : List Fl}, S.Pairwise (fun x y => cmpP x.1 y.1 < 0) → T.Pairwise (fun x y => cmpP x.1 y.1 < 0) → (∀ y, y ∈ S ↔ y ∈ T) → S = T
  | [], [], _, _, _ => rfl
  | [], t :: T, _, _, h => nomatch (h t).2 List.mem_cons_self
  | s :: S, [], _, _, h => nomatch (h s).1 List.mem_cons_self
  | s :: S, t :: T, hS, hT, h => by
    obtain ⟨h1, h2⟩ := List.pairwise_cons.1 hS
    obtain ⟨g1, g2⟩ := List.pairwise_cons.1 hT
    have e : s = t := by
      rcases List.mem_cons.1 ((h s).1 List.mem_cons_self) with e | hs
      · exact e
      · rcases List.mem_cons.1 ((h t).2 List.mem_cons_self) with e | ht
        · exact e.symm
        · have a := h1 t ht
          have b := g1 s hs
          have := cmp_turn s.1 t.1
          omega
    subst e
    rw [up_ext h2 g2 (fun y => ?_)]
    have hy := h y
    rw [List.mem_cons, List.mem_cons] at hy
    constructor
    · intro m
      rcases hy.1 (.inr m) with rfl | m2
      · exact absurd rfl (cmp_ne (.inl (h1 _ m)))
      · exact m2
    · intro m
      rcases hy.2 (.inr m) with rfl | m2
      · exact absurd rfl (cmp_ne (.inl (g1 _ m)))
      · exact m2

/-! ### inside -/
theorem inside_iff {p d : ByteArray} (h1 : L d ≠ []) (h2 : L d ≠ [46]) : insideF p d = true ↔ ∃ r, r ≠ [] ∧ L p = L d ++ 47 :: r := by
  unfold insideF withinF
  rw [if_neg (by rintro (h | h); exact h1 h; exact h2 h)]
  by_cases e : L p = L d
  · rw [if_pos e]
    constructor
    · intro h
      rw [show ((⟨#[]⟩ : ByteArray), true).1.toList = [] from by rw [toList_L]; rfl] at h
      exact absurd h (by decide)
    · rintro ⟨r, _, hr⟩
      rw [e] at hr
      have := congrArg List.length hr
      rw [List.length_append] at this
      simp at this
  · rw [if_neg e]
    by_cases g : L d ++ [47] <+: L p
    · rw [if_pos g]
      obtain ⟨r, hr⟩ := g
      have hx : L (p.extract (d.size + 1) p.size) = r := by
        rw [L_tail, ← hr, List.drop_left' (by rw [List.length_append, L_length]; rfl)]
      have hr2 : L p = L d ++ 47 :: r := by rw [← hr]; simp
      simp only [Bool.true_and, bne_iff_ne, toList_L, hx]
      constructor
      · intro h; exact ⟨r, h, hr2⟩
      · rintro ⟨r2, h, e2⟩
        rw [hr2] at e2
        have := List.append_cancel_left e2
        injection this with _ e3
        rw [e3]; exact h
    · rw [if_neg g]
      constructor
      · intro h; exact absurd h (by decide)
      · rintro ⟨r, _, hr⟩
        exact absurd ⟨r, by rw [hr]; simp⟩ g

/-- Of a path that may be: nothing stands alone behind a slash. -/
theorem valid_rest {p : ByteArray} (h : valid p = true) {Y r : List UInt8} (hY : Y ≠ []) (e : L p = Y ++ 47 :: r) : r ≠ [] := by
  rintro rfl
  obtain ⟨_, _, h3⟩ := valid_tells h
  rw [e, elemsL_slash _ hY] at h3
  exact (h3 [] (List.mem_append_right _ (by rw [splitL]; exact List.mem_singleton.2 rfl))).1 rfl

theorem inside_lt {p d : ByteArray} (h1 : L d ≠ []) (h2 : L d ≠ [46]) (h : insideF p d = true) : cmpP d p < 0 := by
  obtain ⟨r, _, e⟩ := (inside_iff h1 h2).1 h
  unfold cmpP
  rw [e, elemsL_slash _ h1, cmpLL_within _ _ (splitL_ne _ _)]
  decide

/-- Who stands between a directory and what is in it is in it. -/
theorem inside_near {p y z : ByteArray} (hp : valid p = true) (hz : valid z = true) (h : insideF y p = true) (h1 : cmpP p z < 0) (h2 : cmpP z y ≤ 0) : insideF z p = true := by
  obtain ⟨n1, n2⟩ := valid_not_here hp
  obtain ⟨r, hr, e⟩ := (inside_iff n1 n2).1 h
  unfold cmpP at h1 h2
  rw [e, elemsL_slash _ n1] at h2
  have h1' : cmpLL (elemsL (L p) ++ []) (elemsL (L z)) ≤ 0 := by rw [List.append_nil]; omega
  obtain ⟨R, hR⟩ := cmpLL_between _ h1' h2
  have hpn : elemsL (L p) ≠ [] := fun e => n1 (elemsL_nil.1 e)
  have hRn : R ≠ [] := by
    rintro rfl
    rw [List.append_nil] at hR
    rw [hR, cmpLL_self] at h1
    omega
  have e2 : L z = L p ++ 47 :: joinL 47 R := by
    rw [← elemsL_join (L z), hR, joinL_append _ _ _ hpn hRn, elemsL_join]
  exact (inside_iff n1 n2).2 ⟨_, valid_rest hz n1 e2, e2⟩

/-! ### The directories above -/
theorem lastI_none (l : List UInt8) (c : UInt8) : ∀ i, lastI l c i < 0 → ∀ j, j < i → l[j]? ≠ some c
  | 0, _, j, hj => absurd hj (Nat.not_lt_zero _)
  | i + 1, h, j, hj => by
    unfold lastI at h
    by_cases g : l[i]? = some c
    · rw [if_pos g] at h; omega
    · rw [if_neg g] at h
      by_cases e : j = i
      · rw [e]; exact g
      · exact lastI_none l c i h j (by omega)
theorem lastI_some (l : List UInt8) (c : UInt8) : ∀ i, 0 ≤ lastI l c i → l[(lastI l c i).toNat]? = some c ∧ ∀ j, (lastI l c i).toNat < j → j < i → l[j]? ≠ some c
  | 0, h => by exact absurd h (by show ¬ (0 : Int) ≤ -1; omega)
  | i + 1, h => by
    unfold lastI at h ⊢
    by_cases g : l[i]? = some c
    · rw [if_pos g]
      exact ⟨by simpa using g, fun j h1 h2 => by simp at h1; omega⟩
    · rw [if_neg g] at h ⊢
      obtain ⟨h1, h2⟩ := lastI_some l c i h
      refine ⟨h1, fun j a b => ?_⟩
      by_cases e : j = i
      · rw [e]; exact g
      · exact h2 j a (by omega)

theorem split_form (d : ByteArray) : (47 ∉ L d ∧ L (splitF d).1 = []) ∨ (∃ b, 47 ∉ b ∧ L d = L (splitF d).1 ++ 47 :: b) := by
  unfold splitF
  by_cases g : lastI (L d) 47 d.size ≥ 0
  · rw [if_pos g]
    obtain ⟨h1, h2⟩ := lastI_some (L d) 47 d.size g
    obtain ⟨n, hn⟩ : ∃ n, (lastI (L d) 47 d.size).toNat = n := ⟨_, rfl⟩
    rw [hn] at h1 h2 ⊢
    obtain ⟨hl, he⟩ := List.getElem?_eq_some_iff.1 h1
    refine .inr ⟨(L d).drop (n + 1), ?_, ?_⟩
    · intro hm
      obtain ⟨k, hk, hk2⟩ := List.mem_iff_getElem.1 hm
      rw [List.length_drop] at hk
      rw [List.getElem_drop] at hk2
      exact h2 (n + 1 + k) (by omega) (by rw [← L_length]; omega) (by rw [List.getElem?_eq_some_iff]; exact ⟨by omega, hk2⟩)
    · show L d = L (d.extract 0 n) ++ 47 :: (L d).drop (n + 1)
      rw [L_head]
      conv => lhs; rw [← List.take_append_drop n (L d), List.drop_eq_getElem_cons hl, he]
  · rw [if_neg g]
    refine .inl ⟨?_, rfl⟩
    intro hm
    obtain ⟨k, hk, hk2⟩ := List.mem_iff_getElem.1 hm
    exact lastI_none (L d) 47 d.size (by omega) k (by rw [← L_length]; exact hk) (by rw [List.getElem?_eq_some_iff]; exact ⟨hk, hk2⟩)

theorem above_split {D b Y : List UInt8} (hb : (47 : UInt8) ∉ b) : (∃ r, D ++ 47 :: b = Y ++ 47 :: r) ↔ Y = D ∨ ∃ r, D = Y ++ 47 :: r := by
  constructor
  · rintro ⟨r, h⟩
    rcases List.append_eq_append_iff.1 h with ⟨a, h1, h2⟩ | ⟨a, h1, h2⟩
    · cases a with
      | nil => exact .inl (by rw [h1, List.append_nil])
      | cons c a =>
        rw [List.cons_append] at h2
        injection h2 with h3 h4
        exact absurd (by rw [h4]; simp) hb
    · cases a with
      | nil => exact .inl (by rw [h1, List.append_nil])
      | cons c a =>
        rw [List.cons_append] at h2
        injection h2 with h3 h4
        subst h3
        exact .inr ⟨a, h1⟩
  · rintro (rfl | ⟨r, rfl⟩)
    · exact ⟨b, rfl⟩
    · exact ⟨r ++ 47 :: b, by simp⟩

theorem up_iff {T : List Fl} (up : T.Pairwise (fun x y => cmpP x.1 y.1 < 0)) (hT : ∀ y ∈ T, L y.1 ≠ []) : ∀ (n : Nat) (d : ByteArray), d.size ≤ n → (upF T d.size d = true ↔ ∀ y ∈ T, ¬ (y.1 = d ∨ ∃ r, L d = L y.1 ++ 47 :: r)) := by
  intro n
  induction n with
  | zero =>
    intro d hd
    have h0 : L d = [] := List.length_eq_zero_iff.1 (by rw [L_length]; omega)
    rw [upF_end (by rw [toList_L]; exact h0)]
    refine ⟨fun _ y hy => ?_, fun _ => rfl⟩
    rintro (e | ⟨r, e⟩)
    · exact hT y hy (by rw [e]; exact h0)
    · rw [h0] at e; simp at e
  | succ n ih =>
    intro d hd
    by_cases h0 : L d = []
    · rw [upF_end (by rw [toList_L]; exact h0)]
      refine ⟨fun _ y hy => ?_, fun _ => rfl⟩
      rintro (e | ⟨r, e⟩)
      · exact hT y hy (by rw [e]; exact h0)
      · rw [h0] at e; simp at e
    · rw [upF_step (by rw [toList_L]; exact h0)]
      by_cases g : (atF T d).2 = true
      · rw [if_pos g]
        obtain ⟨y, hy, e⟩ := (at_iff up d).1 g
        exact ⟨fun h => (nomatch h), fun h => absurd (.inl e) (h y hy)⟩
      · rw [if_neg g]
        have hno : ∀ y ∈ T, y.1 ≠ d := fun y hy e => g ((at_iff up d).2 ⟨y, hy, e⟩)
        have hs : (splitF d).1.size ≤ n := by
          have hp : 0 < d.size := by
            rcases Nat.eq_zero_or_pos d.size with h | h
            · exact absurd (List.length_eq_zero_iff.1 (by rw [L_length]; exact h)) h0
            · exact h
          rcases split_lt d with g2 | g2
          · omega
          · have : (splitF d).1.size = 0 := by rw [← L_length, ← toList_L, g2]; rfl
            omega
        rw [ih _ hs]
        rcases split_form d with ⟨s1, s2⟩ | ⟨b, s1, s2⟩
        · constructor
          · intro _ y hy
            rintro (e | ⟨r, e⟩)
            · exact hno y hy e
            · exact s1 (by rw [e]; simp)
          · intro _ y hy
            rintro (e | ⟨r, e⟩)
            · exact hT y hy (by rw [e]; exact s2)
            · rw [s2] at e; simp at e
        · have hk : ∀ y : Fl, (∃ r, L d = L y.1 ++ 47 :: r) ↔ y.1 = (splitF d).1 ∨ ∃ r, L (splitF d).1 = L y.1 ++ 47 :: r := by
            intro y
            rw [s2, above_split s1]
            constructor
            · rintro (e | e)
              · exact .inl (L_inj e)
              · exact .inr e
            · rintro (e | e)
              · exact .inl (by rw [e])
              · exact .inr e
          constructor
          · intro h y hy
            rintro (e | e)
            · exact hno y hy e
            · exact h y hy ((hk y).1 e)
          · intro h y hy e
            exact h y hy (.inr ((hk y).2 e))

/-- May a path stand beside the files of a tree? -/
theorem fits_iffW {T : List Fl} (hok : ∀ x ∈ T, valid x.1 = true) (hup : T.Pairwise (fun x y => cmpP x.1 y.1 < 0)) {p : ByteArray} (hp : valid p = true) : fitsF T p = true ↔ ∀ y ∈ T, insideF y.1 p = false ∧ insideF p y.1 = false := by
  have hTn : ∀ y ∈ T, L y.1 ≠ [] := fun y hy => (valid_not_here (hok y hy)).1
  obtain ⟨n1, n2⟩ := valid_not_here hp
  have hU : upF T p.size (splitF p).1 = true ↔ ∀ y ∈ T, insideF p y.1 = false := by
    have h1 : upF T p.size (splitF p).1 = upF T (splitF p).1.size (splitF p).1 := upF_more T _ _ _ (split_le p) (Nat.le_refl _)
    rw [h1, up_iff hup hTn _ _ (Nat.le_refl _)]
    have hk : ∀ y ∈ T, (y.1 = (splitF p).1 ∨ ∃ r, L (splitF p).1 = L y.1 ++ 47 :: r) ↔ insideF p y.1 = true := by
      intro y hy
      obtain ⟨m1, m2⟩ := valid_not_here (hok y hy)
      rw [inside_iff m1 m2]
      rcases split_form p with ⟨s1, s2⟩ | ⟨b, s1, s2⟩
      · constructor
        · rintro (e | ⟨r, e⟩)
          · exact absurd (by rw [e]; exact s2) m1
          · rw [s2] at e; simp at e
        · rintro ⟨r, _, e⟩
          exact absurd (by rw [e]; simp) s1
      · have h2 := above_split (D := L (splitF p).1) (Y := L y.1) s1
        constructor
        · intro h
          obtain ⟨r, hr⟩ := h2.2 (by rcases h with e | e; exact .inl (by rw [e]); exact .inr e)
          have e2 : L p = L y.1 ++ 47 :: r := by rw [s2, hr]
          exact ⟨r, valid_rest hp m1 e2, e2⟩
        · rintro ⟨r, _, e⟩
          rcases h2.1 ⟨r, by rw [← s2, e]⟩ with e2 | e2
          · exact .inl (L_inj e2)
          · exact .inr e2
    constructor
    · intro h y hy
      cases e : insideF p y.1 with
      | false => rfl
      | true => exact absurd ((hk y hy).2 e) (h y hy)
    · intro h y hy e
      have := h y hy
      rw [(hk y hy).1 e] at this
      cases this
  -- the nearest one behind
  have hN : ∀ (A B : List Fl), (∀ y ∈ A, cmpP y.1 p < 0 ∨ y.1 = p) → (∀ y ∈ B, 0 < cmpP y.1 p) → T = A ++ B →
      ((A.length < T.length ∧ insideF (T.getD A.length (⟨#[]⟩, ⟨#[]⟩)).1 p = true) ↔ ∃ y ∈ T, insideF y.1 p = true) := by
    intro A B hA hB e
    constructor
    · rintro ⟨h1, h2⟩
      refine ⟨_, ?_, h2⟩
      rw [List.getD_eq_getElem?_getD, List.getElem?_eq_getElem h1]
      exact List.getElem_mem h1
    · rintro ⟨y, hy, h⟩
      have hlt := inside_lt n1 n2 h
      have hyB : y ∈ B := by
        rw [e] at hy
        rcases List.mem_append.1 hy with hy | hy
        · rcases hA y hy with g | g
          · have := cmp_turn y.1 p; omega
          · rw [g, cmp_self] at hlt; omega
        · exact hy
      cases B with
      | nil => cases hyB
      | cons z B =>
        have hgz : T.getD A.length (⟨#[]⟩, ⟨#[]⟩) = z := by
          rw [e, List.getD_eq_getElem?_getD, List.getElem?_append_right (Nat.le_refl _)]; simp
        have hzm : z ∈ T := by rw [e]; simp
        rw [hgz]
        refine ⟨by rw [e]; simp, ?_⟩
        have hz1 : cmpP p z.1 < 0 := by have := hB z List.mem_cons_self; have := cmp_turn z.1 p; omega
        refine inside_near hp (hok z hzm) h hz1 ?_
        rcases List.mem_cons.1 hyB with rfl | hyB
        · rw [cmp_self]; exact Int.le_refl _
        · have hup := hup
          rw [e] at hup
          exact Int.le_of_lt ((List.pairwise_cons.1 (List.pairwise_append.1 hup).2.1).1 y hyB)
  have main : ∀ n : Nat, (n < T.length ∧ insideF (T.getD n (⟨#[]⟩, ⟨#[]⟩)).1 p = true ↔ ∃ y ∈ T, insideF y.1 p = true) →
      ((if n < T.length ∧ insideF (T.getD n (⟨#[]⟩, ⟨#[]⟩)).1 p = true then false else upF T p.size (splitF p).1) = true ↔ ∀ y ∈ T, insideF y.1 p = false ∧ insideF p y.1 = false) := by
    intro n hn
    by_cases g : n < T.length ∧ insideF (T.getD n (⟨#[]⟩, ⟨#[]⟩)).1 p = true
    · rw [if_pos g]
      obtain ⟨y, hy, e⟩ := hn.1 g
      refine ⟨fun h => (nomatch h), fun h => ?_⟩
      have := (h y hy).1
      rw [e] at this; cases this
    · rw [if_neg g, hU]
      constructor
      · intro h y hy
        refine ⟨?_, h y hy⟩
        cases e : insideF y.1 p with
        | false => rfl
        | true => exact absurd (hn.2 ⟨y, hy, e⟩) g
      · intro h y hy
        exact (h y hy).2
  unfold fitsF
  rcases at_split hup p with ⟨A, B, e, hA, hB, ea⟩ | ⟨A, z, B, e, hA, hz, hB, ea⟩
  · rw [ea]
    exact main A.length (hN A B (fun y hy => .inl (hA y hy)) hB e)
  · rw [ea]
    have := hN (A ++ [z]) B (fun y hy => by
      rcases List.mem_append.1 hy with hy | hy
      · exact .inl (hA y hy)
      · rw [List.mem_singleton] at hy; exact .inr (by rw [hy, hz])) hB (by rw [e]; simp)
    rw [List.length_append] at this
    exact main (A.length + 1) this

theorem fits_iff {T : List Fl} (hT : Tree T) {p : ByteArray} (hp : valid p = true) : fitsF T p = true ↔ ∀ y ∈ T, insideF y.1 p = false ∧ insideF p y.1 = false :=
  fits_iffW (fun x hx => (hT.ok x hx).1) hT.up hp

end Go.Proofs.Ytmocfgghccmdgaa.TrPlain
