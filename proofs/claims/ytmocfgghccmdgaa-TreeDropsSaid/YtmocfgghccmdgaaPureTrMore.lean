/- Check, Find and Drop on trees. -/
import Derived.Test.YtmocfgghccmdgaaPureTrFind
import Derived.Test.YtmocfgghccmdgaaMpc
namespace Go.Proofs.Ytmocfgghccmdgaa.Pure
open Go Go.RowKit Go.Proofs.Ytmocfgghccmdgaa.PTr Go.Proofs.YtmocfgghccmdgaaW.PrintWords Go.Proofs.YtmocfgghccmdgaaW.PrintLast
open Go.Proofs.Ytmocfgghccmdgaa.BytesLib Go.Proofs.Ytmocfgghccmdgaa.SplitLib Go.Proofs.Ytmocfgghccmdgaa.OrderLib Go.Proofs.Ytmocfgghccmdgaa.Elems Go.Proofs.Ytmocfgghccmdgaa.Valid Go.Proofs.Ytmocfgghccmdgaa.PathBase Go.Proofs.Ytmocfgghccmdgaa.TrLib Go.Proofs.Ytmocfgghccmdgaa.TrPut Go.Proofs.Ytmocfgghccmdgaa.TrFits Go.Proofs.Ytmocfgghccmdgaa.TrOps Go.Proofs.Ytmocfgghccmdgaa.TrMerge Go.Proofs.Ytmocfgghccmdgaa.TrPlain
set_option linter.unusedVariables false
set_option linter.unusedSimpArgs false

/-! ### Check -/
theorem up_at {T : List Fl} (up : T.Pairwise (fun x y => cmpP x.1 y.1 < 0)) {i j : Nat} (hj : j < T.length) (h : i < j) : cmpP (T[i]'(by omega)).1 T[j].1 < 0 :=
  (List.pairwise_iff_getElem.1 up) i j (by omega) hj h
theorem check_loop {T : List Fl} (hT : Tree T) : ∀ (d i : Nat), i ≤ T.length → T.length - i = d → Ev (fun k => tree_Check.l0 k (T.map D) (T.map D) (T.length : Int) (i : Int)) (0, (⟨#[]⟩ : ByteArray), 0) := by
  have hfew := hT.few
  intro d
  induction d with
  | zero =>
    intro i h1 h2
    refine Ev.step (f := fun _ => some (0, (⟨#[]⟩ : ByteArray), 0)) (fun k => ?_) (Ev.now _)
    simp only [tree_Check.l0]
    rw [if_neg (by omega), if_neg (by rw [len_D]; omega)]
  | succ d ih =>
    intro i h1 h2
    have hi : i < T.length := by omega
    have hm := List.getElem_mem hi
    obtain ⟨v1, v2⟩ := hT.ok _ hm
    have hsz := (valid_tells v1).2.1
    have hw : tree_wrong.f T[i].1 T[i].2 = some 0 := by
      unfold tree_wrong.f
      rw [if_pos (by omega)]
      exact congrArg some (wrong_zero.2 ⟨v1, v2⟩)
    have hj : Ev (fun k => tree_Check.j1 k (T.map D) 0 (T.map D) (T.length : Int) (i : Int) false T[i].1 T[i].2) (0, (⟨#[]⟩ : ByteArray), 0) := by
      refine Ev.step (fun k => ?_) (ih (i + 1) (by omega) (by omega))
      simp only [tree_Check.j1, Bool.false_eq_true, if_false, if_true]
      rw [w64 (by omega) (by omega)]; rfl
    refine Ev.step (fun k => ?_) hj
    simp only [tree_Check.l0]
    rw [if_pos (by omega), if_pos (by omega), if_pos (by rw [len_D]; omega), rd_D hi]
    show ((tree_wrong.f T[i].1 T[i].2).bind fun t279 => _) = _
    rw [hw, Option.bind_some, if_pos rfl]
    by_cases g : (i : Int) > 0
    · rw [if_pos g, w64 (by omega) (by omega)]
      have e1 : (i : Int) - 1 = ((i - 1 : Nat) : Int) := by omega
      rw [e1, if_pos (by omega), if_pos (by rw [len_D]; omega), rd_D (show i - 1 < T.length by omega)]
      have hm2 := List.getElem_mem (show i - 1 < T.length by omega)
      have hsz2 := (valid_tells (hT.ok _ hm2).1).2.1
      have hc : paths_Compare.f (D (T[i - 1]'(by omega))).f0 (D T[i]).f0 = some (cmpP (T[i - 1]'(by omega)).1 T[i].1) := by
        unfold paths_Compare.f
        rw [if_pos ⟨by show (T[i - 1]'(by omega)).1.size ≤ _; omega, by show T[i].1.size ≤ _; omega⟩]; rfl
      have hn : tree_inside.f (D T[i]).f0 (D (T[i - 1]'(by omega))).f0 = some false := by
        unfold tree_inside.f
        rw [if_pos (by show (T[i - 1]'(by omega)).1.size ≤ _; omega)]
        exact congrArg some (hT.out _ hm _ hm2)
      have hlt := up_at hT.up hi (show i - 1 < i by omega)
      rw [hc, Option.bind_some, if_neg (by omega), hn, Option.bind_some]
      rfl
    · rw [if_neg g]
      rfl
theorem check_ev {T : List Fl} (hT : Tree T) : Ev (fun k => tree_Check.f k (T.map D)) (0, (⟨#[]⟩ : ByteArray), 0) := by
  unfold tree_Check.f
  rw [len_D]
  exact check_loop hT _ 0 (Nat.zero_le _) rfl

/-! ### the reference's Find -/
def findR (p : ByteArray) : List Fl → ByteArray × Bool
  | [] => (⟨#[]⟩, false)
  | y :: r => if L y.1 = L p then (y.2, true) else findR p r
theorem ref_find_loop (T : List Fl) (p : ByteArray) (hT : T.length ≤ 1000000) : ∀ (d i : Nat), i ≤ T.length → T.length - i = d → Ev (fun k => graftbedref02_Find.l0 k (T.map D) p (i : Int)) (findR p (T.drop i)) := by
  intro d
  induction d with
  | zero =>
    intro i h1 h2
    rw [List.drop_of_length_le (by omega), findR]
    refine Ev.step (f := fun _ => some ((⟨#[]⟩ : ByteArray), false)) (fun k => ?_) (Ev.now _)
    simp only [graftbedref02_Find.l0]
    rw [if_neg (by rw [len_D]; omega)]
  | succ d ih =>
    intro i h1 h2
    have hi : i < T.length := by omega
    rw [List.drop_eq_getElem_cons hi, findR]
    by_cases g : L T[i].1 = L p
    · rw [if_pos g]
      refine Ev.step (f := fun _ => some (T[i].2, true)) (fun k => ?_) (Ev.now _)
      simp only [graftbedref02_Find.l0]
      rw [if_pos (by rw [len_D]; omega), if_pos (by omega), rd_D hi, toList_L, toList_L]
      exact if_pos g
    · rw [if_neg g]
      refine Ev.step (fun k => ?_) (ih (i + 1) (by omega) (by omega))
      simp only [graftbedref02_Find.l0]
      rw [if_pos (by rw [len_D]; omega), if_pos (by omega), rd_D hi, toList_L, toList_L, w64 (by omega) (by omega)]
      exact if_neg g
theorem findR_form (p : ByteArray) : ∀ T : List Fl, (∃ y ∈ T, y.1 = p ∧ findR p T = (y.2, true)) ∨ ((∀ y ∈ T, y.1 ≠ p) ∧ findR p T = (⟨#[]⟩, false))
  | [] => .inr ⟨(fun _ h => nomatch h), rfl⟩
  | y :: r => by
    rw [findR]
    by_cases g : L y.1 = L p
    · rw [if_pos g]
      exact .inl ⟨y, List.mem_cons_self, L_inj g, rfl⟩
    · rw [if_neg g]
      rcases findR_form p r with ⟨z, hz, e, f⟩ | ⟨h, f⟩
      · exact .inl ⟨z, List.mem_cons_of_mem _ hz, e, f⟩
      · refine .inr ⟨fun z hz => ?_, f⟩
        rcases List.mem_cons.1 hz with rfl | hz
        · exact fun e => g (by rw [e])
        · exact h z hz
theorem findR_T {T : List Fl} (up : T.Pairwise (fun x y => cmpP x.1 y.1 < 0)) (p : ByteArray) : findR p T = findT T p := by
  rcases findR_form p T with ⟨y, hy, e, f⟩ | ⟨h, f⟩
  · rw [f]
    have := find_has up hy
    rw [e] at this
    exact this.symm
  · rw [f, find_no h]
theorem ref_find {T : List Fl} (hT : Tree T) (p : ByteArray) : Ev (fun k => graftbedref02_Find.f k (T.map D) p) (findT T p) := by
  have := ref_find_loop T p (tree_small hT).1 T.length 0 (Nat.zero_le _) rfl
  rw [List.drop_zero, findR_T hT.up] at this
  exact this

/-! ### Drop -/
theorem drop_ok {T : List Fl} (h : Small T) : tree_Drop.ok (T.map D) = true := by
  unfold tree_Drop.ok
  rw [len_D, decide_eq_true h.1, Bool.true_and, List.all_eq_true]
  intro x hx
  obtain ⟨y, hy, rfl⟩ := List.mem_map.1 hx
  exact decide_eq_true (h.2 y hy)
theorem drop_f {T : List Fl} (h : Small T) {p : ByteArray} (hp : p.size ≤ 1099511627776) : tree_Drop.f (T.map D) p = some ((dropT T p).1.map D, (dropT T p).2) := by
  unfold tree_Drop.f
  rw [if_pos ⟨drop_ok h, hp⟩]
  have e : (T.map D).map tree_Drop.enc = T := by
    rw [List.map_map]; exact (List.map_congr_left (fun x _ => rfl)).trans (List.map_id T)
  rw [e]; rfl
def endD (n : Nat) (o : List Fl) : List Fl × Int := if (o.length : Int) = (n : Int) then ([], 3) else (o, 0)
theorem ref_drop_loop (T : List Fl) (p : ByteArray) (hT : T.length ≤ 1000000) : ∀ (d i : Nat) (acc : List Fl), i ≤ T.length → T.length - i = d → acc.length ≤ i →
    Ev (fun k => graftbedref02_Drop.l0 k (T.map D) p (acc.map D) (i : Int)) ((endD T.length (acc ++ (T.drop i).filter (fun y => decide (¬ L y.1 = L p)))).1.map D, (endD T.length (acc ++ (T.drop i).filter (fun y => decide (¬ L y.1 = L p)))).2) := by
  intro d
  induction d with
  | zero =>
    intro i acc h1 h2 h3
    rw [List.drop_of_length_le (by omega), List.filter_nil, List.append_nil]
    refine Ev.step (f := fun _ => some ((endD T.length acc).1.map D, (endD T.length acc).2)) (fun k => ?_) (Ev.now _)
    simp only [graftbedref02_Drop.l0]
    rw [if_neg (by rw [len_D]; omega), len_D, len_D]
    unfold endD
    split <;> rfl
  | succ d ih =>
    intro i acc h1 h2 h3
    have hi : i < T.length := by omega
    rw [List.drop_eq_getElem_cons hi, List.filter_cons]
    by_cases g : L T[i].1 = L p
    · rw [if_neg (by simp [g])]
      refine Ev.step (fun k => ?_) (ih (i + 1) acc (by omega) (by omega) (by omega))
      simp only [graftbedref02_Drop.l0]
      rw [if_pos (by rw [len_D]; omega), if_pos (by omega), rd_D hi, toList_L, toList_L, w64 (by omega) (by omega)]
      exact if_pos g
    · rw [if_pos (by simp [g])]
      have := ih (i + 1) (acc ++ [T[i]]) (by omega) (by omega) (by rw [List.length_append]; simp; omega)
      rw [List.append_assoc] at this
      refine Ev.step (fun k => ?_) this
      simp only [graftbedref02_Drop.l0]
      rw [if_pos (by rw [len_D]; omega), if_pos (by omega), rd_D hi, toList_L, toList_L, w64 (by omega) (by omega), if_pos (show (acc.map D).length < 4398046511104 by rw [len_D]; omega)]
      have e2 : acc.map D ++ [(⟨(D T[i]).f0, (D T[i]).f1⟩ : S24)] = (acc ++ ([T[i]] : List Fl)).map D := by rw [List.map_append]; rfl
      rw [e2]
      exact if_neg g
/-- What Drop makes. -/
theorem drop_form {T : List Fl} (up : T.Pairwise (fun x y => cmpP x.1 y.1 < 0)) (p : ByteArray) :
    ((∀ y ∈ T, y.1 ≠ p) ∧ dropT T p = ([], 3)) ∨ (∃ A z B, T = A ++ z :: B ∧ z.1 = p ∧ (∀ y ∈ A, y.1 ≠ p) ∧ (∀ y ∈ B, y.1 ≠ p) ∧ dropT T p = (A ++ B, 0)) := by
  rcases at_split up p with ⟨A, B, rfl, hA, hB, e⟩ | ⟨A, z, B, rfl, hA, hz, hB, e⟩
  · refine .inl ⟨fun y hy => ?_, ?_⟩
    · rcases List.mem_append.1 hy with h | h
      · exact cmp_ne (.inl (hA y h))
      · exact cmp_ne (.inr (hB y h))
    · unfold dropT
      rw [e, if_neg (fun h => Bool.noConfusion h)]
  · refine .inr ⟨A, z, B, rfl, hz, fun y h => cmp_ne (.inl (hA y h)), fun y h => cmp_ne (.inr (hB y h)), ?_⟩
    unfold dropT dropF
    rw [e, if_pos rfl, if_pos rfl]
    simp
theorem ref_drop {T : List Fl} (hT : Tree T) (p : ByteArray) : Ev (fun k => graftbedref02_Drop.f k (T.map D) p) ((dropT T p).1.map D, (dropT T p).2) := by
  have h := ref_drop_loop T p (tree_small hT).1 T.length 0 [] (Nat.zero_le _) rfl (Nat.zero_le _)
  rw [List.drop_zero, List.nil_append] at h
  have hall : ∀ X : List Fl, (∀ y ∈ X, y.1 ≠ p) → X.filter (fun y => decide (¬ L y.1 = L p)) = X := by
    intro X hX
    rw [List.filter_eq_self]
    intro y hy
    exact decide_eq_true (fun e => hX y hy (L_inj e))
  have e : endD T.length (T.filter (fun y => decide (¬ L y.1 = L p))) = dropT T p := by
    rcases drop_form hT.up p with ⟨h1, h2⟩ | ⟨A, z, B, hE, hz, hA, hB, h2⟩
    · rw [h2, hall T h1]
      unfold endD
      rw [if_pos rfl]
    · rw [h2, hE, List.filter_append, List.filter_cons, if_neg (by simp [hz]), hall A hA, hall B hB]
      unfold endD
      rw [if_neg (by simp; omega)]
  rw [e] at h
  exact h
theorem drop_tree {T A B : List Fl} {z : Fl} (hT : Tree T) (e : T = A ++ z :: B) : Tree (A ++ B) := by
  have hm : ∀ y, y ∈ A ++ B → y ∈ T := by
    intro y hy
    rw [e]
    rcases List.mem_append.1 hy with h | h
    · exact List.mem_append_left _ h
    · exact List.mem_append_right _ (List.mem_cons_of_mem _ h)
  have hup := hT.up
  rw [e] at hup
  obtain ⟨h1, h2, h3⟩ := List.pairwise_append.1 hup
  refine ⟨fun x hx => hT.ok x (hm x hx), List.pairwise_append.2 ⟨h1, (List.pairwise_cons.1 h2).2, fun a ha b hb => h3 a ha b (List.mem_cons_of_mem _ hb)⟩, fun x hx y hy => hT.out x (hm x hx) y (hm y hy), ?_⟩
  have := hT.few
  rw [e] at this
  simp at this ⊢
  omega

end Go.Proofs.Ytmocfgghccmdgaa.Pure
