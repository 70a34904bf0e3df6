/- What the printed functions on trees come to. -/
import Derived.Test.YtmocfgghccmdgaaPureTrRef
import Derived.Test.YtmocfgghccmdgaaMpa
import Derived.Test.YtmocfgghccmdgaaMpb
import Derived.Test.YtmocfgghccmdgaaMpd
import Derived.Test.YtmocfgghccmdgaaTrPlain
namespace Go.Proofs.Ytmocfgghccmdgaa.Pure
open Go Go.RowKit Go.Proofs.Ytmocfgghccmdgaa.PTr Go.Proofs.YtmocfgghccmdgaaW.PrintWords Go.Proofs.YtmocfgghccmdgaaW.PrintLast
open Go.Proofs.Ytmocfgghccmdgaa.BytesLib Go.Proofs.Ytmocfgghccmdgaa.SplitLib Go.Proofs.Ytmocfgghccmdgaa.OrderLib Go.Proofs.Ytmocfgghccmdgaa.Elems Go.Proofs.Ytmocfgghccmdgaa.Valid Go.Proofs.Ytmocfgghccmdgaa.PathBase Go.Proofs.Ytmocfgghccmdgaa.TrLib Go.Proofs.Ytmocfgghccmdgaa.TrPut Go.Proofs.Ytmocfgghccmdgaa.TrFits Go.Proofs.Ytmocfgghccmdgaa.TrOps Go.Proofs.Ytmocfgghccmdgaa.TrMerge Go.Proofs.Ytmocfgghccmdgaa.TrPlain
set_option linter.unusedVariables false
set_option linter.unusedSimpArgs false

def D (x : Fl) : S24 := ⟨x.1, x.2⟩
def E (x : S24) : Fl := (x.f0, x.f1)
theorem DE (l : List (S24)) : (l.map E).map D = l := by
  rw [List.map_map]
  exact (List.map_congr_left (fun x _ => rfl)).trans (List.map_id l)
theorem rd_D {T : List Fl} {i : Nat} (h : i < T.length) : rd_T24 (T.map D) (i : Int) = D T[i] := by
  unfold rd_T24
  rw [Int.toNat_natCast, List.getD_eq_getElem?_getD, List.getElem?_eq_getElem (by rw [List.length_map]; exact h), List.getElem_map]
  rfl
theorem len_D (T : List Fl) : (T.map D).length = T.length := List.length_map _

/-! ### heavy -/
theorem mn_nat (a : Nat) : mn (a : Int) 1048576 = ((min a 1048576 : Nat) : Int) := by
  unfold mn
  split <;> omega
theorem heavy_loop (l : List Fl) (hl : l.length ≤ 80) : ∀ (d i n : Nat), i ≤ l.length → l.length - i = d → n ≤ 16384 + 2097152 →
    ∃ b, Ev (fun k => graftbedlaw02_heavy.l0 k (l.map D) (n : Int) (i : Int)) b ∧ (b = false → n ≤ 16384 ∧ ∀ x ∈ l.drop i, x.1.size ≤ 16384 ∧ x.2.size ≤ 16384)
  | 0, i, n, h1, h2, h3 => by
    have e : ¬ ((i : Int) < ((l.map D).length : Int)) := by rw [len_D]; omega
    refine ⟨decide ((n : Int) > 16384), Ev.step (f := fun _ => some (decide ((n : Int) > 16384))) (fun k => by simp only [graftbedlaw02_heavy.l0]; rw [if_neg e]) (Ev.now _), fun hb => ⟨by have := of_decide_eq_false hb; omega, fun x hx => ?_⟩⟩
    rw [List.drop_of_length_le (by omega)] at hx
    cases hx
  | d + 1, i, n, h1, h2, h3 => by
    have hi : i < l.length := by omega
    have e : (i : Int) < ((l.map D).length : Int) := by rw [len_D]; omega
    by_cases g : (n : Int) ≤ 16384
    · have hm1 := Nat.min_le_right l[i].1.size 1048576
      have hm2 := Nat.min_le_right l[i].2.size 1048576
      obtain ⟨b, hb, hb2⟩ := heavy_loop l hl d (i + 1) (n + (min l[i].1.size 1048576 + min l[i].2.size 1048576)) (by omega) (by omega) (by omega)
      refine ⟨b, Ev.step (fun k => ?_) hb, fun h0 => ?_⟩
      · simp only [graftbedlaw02_heavy.l0]
        rw [if_pos e, if_pos g, if_pos (by omega), rd_D hi]
        show graftbedlaw02_heavy.l0 k (l.map D) (wrap64 ((n : Int) + (mn (l[i].1.size : Int) 1048576 + mn (l[i].2.size : Int) 1048576))) (wrap64 ((i : Int) + 1)) = _
        rw [mn_nat, mn_nat, w64 (by omega) (by omega), w64 (by omega) (by omega)]
        have e1 : (n : Int) + (((min l[i].1.size 1048576 : Nat) : Int) + ((min l[i].2.size 1048576 : Nat) : Int)) = ((n + (min l[i].1.size 1048576 + min l[i].2.size 1048576) : Nat) : Int) := by omega
        rw [e1]; rfl
      · obtain ⟨g1, g2⟩ := hb2 h0
        refine ⟨by omega, fun x hx => ?_⟩
        rw [List.drop_eq_getElem_cons hi] at hx
        rcases List.mem_cons.1 hx with rfl | hx
        · omega
        · exact g2 x hx
    · refine ⟨true, Ev.step (f := fun _ => some true) (fun k => ?_) (Ev.now _), fun h => by cases h⟩
      simp only [graftbedlaw02_heavy.l0]
      rw [if_pos e, if_neg g, decide_eq_true (by omega)]
theorem heavy_ev (l : List Fl) : ∃ b, Ev (fun k => graftbedlaw02_heavy.f k (l.map D)) b ∧ (b = false → l.length ≤ 80 ∧ ∀ x ∈ l, x.1.size ≤ 16384 ∧ x.2.size ≤ 16384) := by
  unfold graftbedlaw02_heavy.f
  by_cases g : ((l.map D).length : Int) > 80
  · simp only [if_pos g]
    exact ⟨true, Ev.now _, fun h => by cases h⟩
  · simp only [if_neg g]
    rw [mn_nat, len_D]
    rw [len_D] at g
    obtain ⟨b, hb, hb2⟩ := heavy_loop l (by omega) l.length 0 (min l.length 1048576) (Nat.zero_le _) rfl (by omega)
    refine ⟨b, hb, fun h => ⟨by omega, ?_⟩⟩
    have := (hb2 h).2
    rw [List.drop_zero] at this
    exact this

/-! ### The program's functions, as printed -/
def Small (T : List Fl) : Prop := T.length ≤ 1000000 ∧ ∀ x ∈ T, x.1.size ≤ 1099511627776
theorem put_ok {T : List Fl} (h : Small T) : tree_Put.ok (T.map D) = true := by
  unfold tree_Put.ok
  rw [len_D, decide_eq_true h.1, Bool.true_and, List.all_eq_true]
  intro x hx
  obtain ⟨y, hy, rfl⟩ := List.mem_map.1 hx
  exact decide_eq_true (h.2 y hy)
theorem put_f {T : List Fl} (h : Small T) {x : Fl} (hx : x.1.size ≤ 1099511627776) : tree_Put.f (T.map D) x.1 x.2 = some ((putT T x).1.map D, (putT T x).2) := by
  unfold tree_Put.f
  rw [if_pos ⟨put_ok h, hx⟩]
  have e : (T.map D).map tree_Put.enc = T := by
    rw [List.map_map]; exact (List.map_congr_left (fun x _ => rfl)).trans (List.map_id T)
  rw [e]; rfl
theorem tree_small {T : List Fl} (h : Tree T) : Small T := ⟨by have := h.few; omega, fun x hx => by have := (valid_tells (h.ok x hx).1).2.1; omega⟩
theorem tree_nil : Tree [] := ⟨(fun _ h => nomatch h), List.Pairwise.nil, (fun _ h => nomatch h), Nat.zero_le _⟩

theorem wrong_zero {x : Fl} : wrongF x = 0 ↔ valid x.1 = true ∧ x.2.size ≤ 4000 := by
  unfold wrongF
  by_cases h : valid x.1 = true
  · rw [if_pos h]
    by_cases g : (x.2.size : Int) > 4000
    · rw [if_pos g]; simp; omega
    · rw [if_neg g]; simp [h]; omega
  · rw [if_neg h]; simp [h]

theorem inside_self {p : ByteArray} (h1 : L p ≠ []) (h2 : L p ≠ [46]) : insideF p p = false := by
  cases e : insideF p p with
  | false => rfl
  | true => have := inside_lt h1 h2 e; rw [cmp_self] at this; omega

/-- What put does with a tree, if it does it. -/
theorem put_zero {T : List Fl} (hT : Tree T) {x : Fl} (h : (putT T x).2 = 0) :
    putT T x = (putF T x, 0) ∧ Tree (putF T x) ∧ valid x.1 = true ∧ x.2.size ≤ 4000 ∧ (∀ y ∈ T, insideF y.1 x.1 = false ∧ insideF x.1 y.1 = false) := by
  unfold putT at h ⊢
  by_cases g1 : wrongF x = 0
  · rw [if_pos g1] at h ⊢
    obtain ⟨v1, v2⟩ := wrong_zero.1 g1
    by_cases g2 : fitsF T x.1 = true
    · rw [if_pos g2] at h ⊢
      have hf := (fits_iff hT v1).1 g2
      by_cases g3 : ((putF T x).length : Int) > 60
      · rw [if_pos g3] at h; exact absurd h (by decide)
      · rw [if_neg g3]
        have hm := put_mem hT.up x
        refine ⟨rfl, ⟨?_, put_up hT.up x, ?_, by omega⟩, v1, v2, hf⟩
        · intro y hy
          rcases (hm y).1 hy with rfl | ⟨h1, _⟩
          · exact ⟨v1, v2⟩
          · exact hT.ok y h1
        · intro y hy z hz
          rcases (hm y).1 hy with rfl | ⟨h1, _⟩
          · rcases (hm z).1 hz with rfl | ⟨h2, _⟩
            · exact inside_self (valid_not_here v1).1 (valid_not_here v1).2
            · exact (hf z h2).2
          · rcases (hm z).1 hz with rfl | ⟨h2, _⟩
            · exact (hf y h1).1
            · exact hT.out y h1 z h2
    · rw [if_neg g2] at h; exact absurd h (by decide)
  · rw [if_neg g1] at h; exact absurd h g1
/-- When it does it. -/
theorem put_can {T : List Fl} (hT : Tree T) {x : Fl} (v1 : valid x.1 = true) (v2 : x.2.size ≤ 4000) (hf : ∀ y ∈ T, insideF y.1 x.1 = false ∧ insideF x.1 y.1 = false) :
    putT T x = if ((putF T x).length : Int) > 60 then ([], 2) else (putF T x, 0) := by
  unfold putT
  rw [if_pos (wrong_zero.2 ⟨v1, v2⟩), if_pos ((fits_iff hT v1).2 hf)]

/-! ### shown -/
def fAB : Fl := (⟨#[97, 47, 98]⟩, ⟨#[120]⟩)
theorem valid_ab : valid ⟨#[97, 47, 98]⟩ = true := by
  rw [valid_in (by rw [toList_L]; decide) (by decide), elems_list]
  decide +kernel
theorem put_ab : putT [] fAB = ([fAB], 0) := by
  rw [put_can tree_nil valid_ab (by decide) (fun _ h => nomatch h)]
  rfl
theorem shown_f : graftbedlaw02_shown.f = some true := by
  unfold graftbedlaw02_shown.f
  have h := put_f (T := []) (x := fAB) (tree_small tree_nil) (by decide)
  rw [put_ab] at h
  have h2 : tree_Put.f ([] : List (S24)) (⟨#[97, 47, 98]⟩ : ByteArray) (⟨#[120]⟩ : ByteArray) = some ([D fAB], 0) := h
  rw [h2, Option.bind_some]
  have e0 : rd_T24 ([D fAB], (0 : Int)).1 0 = D fAB := rfl
  rw [e0, toList_L, toList_L]
  rfl

/-! ### The reference's Put -/
def confF (x : Fl) (y : Fl) : Bool := insideF y.1 x.1 || insideF x.1 y.1
def goP (x : Fl) : List Fl → Bool → List Fl
  | [], done => if done = true then [] else [x]
  | y :: r, done => (if done = false ∧ 0 ≤ cmpP y.1 x.1 then [x] else []) ++ ((if L y.1 = L x.1 then [] else [y]) ++ goP x r (done || decide (0 ≤ cmpP y.1 x.1)))
def endP (o : List Fl) : List Fl × Int := if (o.length : Int) > 60 then ([], 2) else (o, 0)
theorem ref_put_loop (T : List Fl) (x : Fl) (hT : T.length ≤ 1000000) (hTs : ∀ y ∈ T, y.1.size ≤ 1099511627776) (hx : x.1.size ≤ 1099511627776) : ∀ (d i : Nat) (acc : List Fl) (done : Bool), i ≤ T.length → T.length - i = d → acc.length ≤ 2 * i →
    Ev (fun k => graftbedref02_Put.l0 k (T.map D) (acc.map D) done (i : Int) x.1 x.2) (let r := if (T.drop i).any (confF x) = true then (([] : List Fl), (4 : Int)) else endP (acc ++ goP x (T.drop i) done); (r.1.map D, r.2)) := by
  intro d
  induction d with
  | zero =>
    intro i acc done h1 h2 h3
    obtain rfl : i = T.length := by omega
    rw [List.drop_length]
    refine Ev.step (f := fun _ => some ((endP (acc ++ goP x [] done)).1.map D, (endP (acc ++ goP x [] done)).2)) (fun k => ?_) (Ev.now _)
    simp only [graftbedref02_Put.l0]
    rw [if_neg (by rw [len_D]; omega)]
    unfold endP goP
    cases done with
    | true =>
      rw [if_pos rfl, if_pos rfl, List.append_nil, len_D]
      by_cases g : (acc.length : Int) > 60
      · rw [if_pos g, if_pos g]; rfl
      · rw [if_neg g, if_neg g]
    | false =>
      simp only [Bool.false_eq_true, if_false]
      rw [if_pos (by rw [len_D]; omega), Option.bind_some]
      have e : acc.map D ++ [(⟨x.1, x.2⟩ : S24)] = (acc ++ [x]).map D := by rw [List.map_append]; rfl
      rw [e, len_D]
      by_cases g : (((acc ++ [x]).length : Nat) : Int) > 60
      · rw [if_pos g, if_pos g]; rfl
      · rw [if_neg g, if_neg g]
  | succ d ih =>
    intro i acc done h1 h2 h3
    have hi : i < T.length := by omega
    have hlt : (i : Int) < ((T.map D).length : Int) := by rw [len_D]; omega
    have hy := hTs T[i] (List.getElem_mem hi)
    rw [List.drop_eq_getElem_cons hi, List.any_cons]
    -- behind the tests
    have next : ∀ (acc2 : List Fl) (done2 : Bool), acc2.length ≤ 2 * i + 1 → Ev (fun k => if L T[i].1 = L x.1 then (graftbedref02_Put.l0 k (T.map D) (acc2.map D) done2 ((i + 1 : Nat) : Int) x.1 x.2) else (graftbedref02_Put.l0 k (T.map D) ((acc2 ++ [T[i]]).map D) done2 ((i + 1 : Nat) : Int) x.1 x.2))
        (let r := if (T.drop (i + 1)).any (confF x) = true then (([] : List Fl), (4 : Int)) else endP (acc2 ++ ((if L T[i].1 = L x.1 then [] else [T[i]]) ++ goP x (T.drop (i + 1)) done2)); (r.1.map D, r.2)) := by
      intro acc2 done2 hl
      by_cases g : L T[i].1 = L x.1
      · simp only [if_pos g]
        exact ih (i + 1) acc2 done2 (by omega) (by omega) (by omega)
      · simp only [if_neg g]
        have := ih (i + 1) (acc2 ++ [T[i]]) done2 (by omega) (by omega) (by rw [List.length_append]; simp; omega)
        rw [List.append_assoc] at this
        exact this
    have j2 : ∀ b : Bool, b = decide (done = false ∧ 0 ≤ cmpP T[i].1 x.1) → Ev (fun k => graftbedref02_Put.j2 k (T.map D) (acc.map D) done (i : Int) b x.1 x.2)
        (let r := if (T.drop (i + 1)).any (confF x) = true then (([] : List Fl), (4 : Int)) else endP (acc ++ goP x (T[i] :: T.drop (i + 1)) done); (r.1.map D, r.2)) := by
      intro b hb
      rw [goP]
      by_cases g : done = false ∧ 0 ≤ cmpP T[i].1 x.1
      · rw [decide_eq_true g] at hb
        subst hb
        rw [if_pos g]
        have hn := next (acc ++ [x]) true (by rw [List.length_append]; simp; omega)
        rw [← List.append_assoc acc [x]]
        have ed : (done || decide (0 ≤ cmpP T[i].1 x.1)) = true := by rw [decide_eq_true g.2, Bool.or_true]
        rw [ed]
        refine Ev.step (fun k => ?_) hn
        simp only [graftbedref02_Put.j2, if_true]
        have e : acc.map D ++ [(⟨x.1, x.2⟩ : S24)] = (acc ++ [x]).map D := by rw [List.map_append]; rfl
        have e2 : (acc ++ [x]).map D ++ [(⟨(D T[i]).f0, (D T[i]).f1⟩ : S24)] = ((acc ++ [x]) ++ [T[i]]).map D := by rw [List.map_append (l₁ := acc ++ [x])]; rfl
        rw [if_pos (by rw [len_D]; omega), Option.bind_some, if_pos (by omega), if_pos hlt, rd_D hi, e, w64 (by omega) (by omega), e2]
        show (if T[i].1.toList = x.1.toList then _ else _) = _
        rw [toList_L, toList_L, if_pos (show ((acc ++ [x]).map D).length < 4398046511104 by rw [len_D, List.length_append]; simp; omega)]
        rfl
      · rw [decide_eq_false g] at hb
        subst hb
        rw [if_neg g, List.nil_append]
        have ed : (done || decide (0 ≤ cmpP T[i].1 x.1)) = done := by
          cases done with
          | true => rfl
          | false => rw [decide_eq_false (fun h => g ⟨rfl, h⟩)]; rfl
        rw [ed]
        refine Ev.step (fun k => ?_) (next acc done (by omega))
        simp only [graftbedref02_Put.j2, Bool.false_eq_true, if_false]
        have e2 : acc.map D ++ [(⟨(D T[i]).f0, (D T[i]).f1⟩ : S24)] = (acc ++ [T[i]]).map D := by rw [List.map_append]; rfl
        rw [if_pos (by omega), if_pos hlt, rd_D hi, w64 (by omega) (by omega), e2]
        show (if T[i].1.toList = x.1.toList then _ else _) = _
        rw [toList_L, toList_L, if_pos (show (acc.map D).length < 4398046511104 by rw [len_D]; omega)]
        rfl
    have j1 : ∀ b : Bool, b = confF x T[i] → Ev (fun k => graftbedref02_Put.j1 k (T.map D) (acc.map D) done (i : Int) b x.1 x.2)
        (let r := if (confF x T[i] || (T.drop (i + 1)).any (confF x)) = true then (([] : List Fl), (4 : Int)) else endP (acc ++ goP x (T[i] :: T.drop (i + 1)) done); (r.1.map D, r.2)) := by
      intro b hb
      cases hc : confF x T[i] with
      | true =>
        rw [hb, hc, Bool.true_or, if_pos rfl]
        exact Ev.step (f := fun _ => some ([], 4)) (fun k => by simp only [graftbedref02_Put.j1, if_true]) (Ev.now _)
      | false =>
        rw [hb, hc, Bool.false_or]
        cases hd : done with
        | true =>
          have := j2 false (by rw [hd]; rfl)
          rw [hd] at this
          exact Ev.step (fun k => by simp only [graftbedref02_Put.j1, Bool.false_eq_true, if_false, if_true]) this
        | false =>
          have h := j2 (decide (cmpP T[i].1 x.1 ≥ 0)) (by rw [hd]; simp)
          rw [hd] at h
          refine Ev.step (f := fun k => (graftbedref01_Compare.f k T[i].1 x.1).bind fun t => graftbedref02_Put.j2 k (T.map D) (acc.map D) false (i : Int) (decide (t ≥ 0)) x.1 x.2) (fun k => ?_) ?_
          · simp only [graftbedref02_Put.j1, Bool.false_eq_true, if_false]
            rw [if_pos (by omega), if_pos hlt, rd_D hi]
            rfl
          · exact Ev.bind (ref_cmp _ _ hy hx) h
    refine Ev.step (f := fun k => (graftbedref02_inside.f k T[i].1 x.1).bind fun t => (if t = true then (graftbedref02_Put.j1 k (T.map D) (acc.map D) done (i : Int) true x.1 x.2) else ((graftbedref02_inside.f k x.1 T[i].1).bind fun t2 => (graftbedref02_Put.j1 k (T.map D) (acc.map D) done (i : Int) t2 x.1 x.2)))) (fun k => ?_) ?_
    · simp only [graftbedref02_Put.l0]
      rw [if_pos hlt, if_pos (by omega), rd_D hi]
      rfl
    · refine Ev.bind (ref_inside _ _ hx hy) ?_
      cases hc : insideF T[i].1 x.1 with
      | true =>
        simp only [if_true]
        exact j1 true (by unfold confF; rw [hc]; rfl)
      | false =>
        simp only [Bool.false_eq_true, if_false]
        refine Ev.bind (ref_inside _ _ hy hx) ?_
        exact j1 _ (by unfold confF; rw [hc]; rfl)

theorem goP_done (x : Fl) : ∀ B : List Fl, (∀ y ∈ B, 0 < cmpP y.1 x.1) → goP x B true = B
  | [], _ => rfl
  | y :: B, h => by
    have hy := h y List.mem_cons_self
    rw [goP, if_neg (by rintro ⟨h, _⟩; cases h), if_neg (fun e => cmp_ne (.inr hy) (L_inj e)), Bool.true_or, goP_done x B (fun z hz => h z (List.mem_cons_of_mem _ hz))]
    rfl
theorem goP_form {x : Fl} : ∀ {A B : List Fl}, (∀ y ∈ A, cmpP y.1 x.1 < 0) → (∀ y ∈ B, 0 < cmpP y.1 x.1) → goP x (A ++ B) false = A ++ x :: B ∧ ∀ z : Fl, z.1 = x.1 → goP x (A ++ z :: B) false = A ++ x :: B
  | [], B, _, hB => by
    refine ⟨?_, fun z hz => ?_⟩
    · cases B with
      | nil => rfl
      | cons y B =>
        have hy := hB y List.mem_cons_self
        rw [List.nil_append, goP, if_pos ⟨rfl, Int.le_of_lt hy⟩, if_neg (fun e => cmp_ne (.inr hy) (L_inj e)), decide_eq_true (Int.le_of_lt hy), Bool.false_or, goP_done x B (fun z hz => hB z (List.mem_cons_of_mem _ hz))]
        rfl
    · rw [List.nil_append, goP, if_pos ⟨rfl, by rw [hz, cmp_self]; exact Int.le_refl _⟩, if_pos (by rw [hz]), decide_eq_true (by rw [hz, cmp_self]; exact Int.le_refl _), Bool.false_or, goP_done x B hB]
      rfl
  | a :: A, B, hA, hB => by
    have ha := hA a List.mem_cons_self
    obtain ⟨h1, h2⟩ := goP_form (A := A) (fun y hy => hA y (List.mem_cons_of_mem _ hy)) hB
    have e : ∀ R, goP x (a :: R) false = a :: goP x R false := by
      intro R
      rw [goP, if_neg (by rintro ⟨_, h⟩; omega), if_neg (fun e => cmp_ne (.inl ha) (L_inj e)), decide_eq_false (by omega)]
      rfl
    refine ⟨by rw [List.cons_append, e, h1]; rfl, fun z hz => by rw [List.cons_append, e, h2 z hz]; rfl⟩

theorem goP_put {T : List Fl} (up : T.Pairwise (fun x y => cmpP x.1 y.1 < 0)) (x : Fl) : goP x T false = putF T x := by
  rcases put_form up x with ⟨A, B, rfl, hA, hB, e⟩ | ⟨A, z, B, rfl, hA, hz, hB, e⟩
  · rw [e, (goP_form hA hB).1]
  · rw [e, (goP_form hA hB).2 z hz]

theorem ref_put {T : List Fl} (hT : Tree T) (x : Fl) (hx : x.1.size ≤ 1099511627776) : Ev (fun k => graftbedref02_Put.f k (T.map D) x.1 x.2) ((putT T x).1.map D, (putT T x).2) := by
  unfold graftbedref02_Put.f
  refine Ev.bind (ref_valid x.1 hx) ?_
  unfold putT wrongF
  cases hv : valid x.1 with
  | false =>
    simp only [Bool.false_eq_true, if_false]
    exact Ev.now _
  | true =>
    simp only [if_true]
    by_cases g : (x.2.size : Int) > 4000
    · simp only [if_pos g]
      exact Ev.now _
    · simp only [if_neg g, if_true]
      have h := ref_put_loop T x (tree_small hT).1 (tree_small hT).2 hx T.length 0 [] false (Nat.zero_le _) rfl (Nat.zero_le _)
      rw [List.drop_zero, goP_put hT.up, List.nil_append] at h
      by_cases f : fitsF T x.1 = true
      · have ha : ¬ T.any (confF x) = true := by
          intro ha
          obtain ⟨y, hy, hc⟩ := List.any_eq_true.1 ha
          obtain ⟨h1, h2⟩ := (fits_iff hT hv).1 f y hy
          unfold confF at hc
          rw [h1, h2] at hc
          cases hc
        rw [if_neg ha] at h
        rw [if_pos f]
        exact h
      · have ha : T.any (confF x) = true := by
          cases e : T.any (confF x) with
          | true => rfl
          | false =>
            exfalso
            apply f
            refine (fits_iff hT hv).2 (fun y hy => ?_)
            have := List.any_eq_false.1 e y hy
            unfold confF at this
            rw [Bool.or_eq_true, not_or, Bool.not_eq_true, Bool.not_eq_true] at this
            exact this
        rw [if_pos ha] at h
        rw [if_neg f]
        exact h

/-! ### grown, Same -/
def grow : List Fl → List Fl → List Fl
  | T, [] => T
  | T, x :: r => grow (if (putT T x).2 = 0 then (putT T x).1 else T) r
theorem grow_tree : ∀ (l T : List Fl), Tree T → Tree (grow T l)
  | [], T, h => h
  | x :: r, T, h => by
    rw [grow]
    refine grow_tree r _ ?_
    split
    · rename_i g
      rw [(put_zero h g).1]
      exact (put_zero h g).2.1
    · exact h
theorem grown_loop (l : List Fl) (hl : l.length ≤ 1000000) (hs : ∀ y ∈ l, y.1.size ≤ 1099511627776) : ∀ (d i : Nat) (T : List Fl), Tree T → i ≤ l.length → l.length - i = d →
    Ev (fun k => graftbedlaw02_grown.l0 k (l.map D) (T.map D) (i : Int)) ((grow T (l.drop i)).map D) := by
  intro d
  induction d with
  | zero =>
    intro i T hT h1 h2
    rw [List.drop_of_length_le (by omega), grow]
    refine Ev.step (f := fun _ => some (T.map D)) (fun k => ?_) (Ev.now _)
    simp only [graftbedlaw02_grown.l0]
    rw [if_neg (by rw [len_D]; omega)]
  | succ d ih =>
    intro i T hT h1 h2
    have hi : i < l.length := by omega
    rw [List.drop_eq_getElem_cons hi, grow]
    refine Ev.step (f := fun k => (graftbedref02_Put.f k (T.map D) l[i].1 l[i].2).bind fun t => (if t.2 = 0 then (graftbedlaw02_grown.l0 k (l.map D) t.1 ((i + 1 : Nat) : Int)) else (graftbedlaw02_grown.l0 k (l.map D) (T.map D) ((i + 1 : Nat) : Int)))) (fun k => ?_) ?_
    · simp only [graftbedlaw02_grown.l0]
      rw [if_pos (by rw [len_D]; omega), if_pos (by omega), rd_D hi, w64 (by omega) (by omega)]
      rfl
    · refine Ev.bind (ref_put hT l[i] (hs _ (List.getElem_mem hi))) ?_
      by_cases g : (putT T l[i]).2 = 0
      · simp only [if_pos g]
        refine ih (i + 1) _ ?_ (by omega) (by omega)
        rw [(put_zero hT g).1]
        exact (put_zero hT g).2.1
      · simp only [if_neg g]
        exact ih (i + 1) _ hT (by omega) (by omega)
theorem grown_ev (l : List Fl) (hl : l.length ≤ 1000000) (hs : ∀ y ∈ l, y.1.size ≤ 1099511627776) : Ev (fun k => graftbedlaw02_grown.f k (l.map D)) ((grow [] l).map D) := by
  have := grown_loop l hl hs l.length 0 [] tree_nil (Nat.zero_le _) rfl
  rw [List.drop_zero] at this
  exact this

end Go.Proofs.Ytmocfgghccmdgaa.Pure

