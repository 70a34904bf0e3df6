/- That the reference's Match answers, with the error that it should. -/
import Derived.Test.YtjcopbgbmokfmaaPAllx5
import Derived.Test.YtjcopbgbmokfmaaPAllx6
import Derived.Test.YtjcopbgbmokfmaaPAllx7
import Derived.Test.YtjcopbgbmokfmaaPAllx8
import Derived.Test.YtjcopbgbmokfmaaPAllx9
import Derived.Test.YtjcopbgbmokfmaaPureGlobRef
import Derived.Test.YtjcopbgbmokfmaaGlobIn
namespace Go.Proofs.Ytjcopbgbmokfmaa.Pure
open Go.RowKit Go.Proofs.Ytjcopbgbmokfmaa.PAll Go.Proofs.YtjcopbgbmokfmaaW.PrintWords Go.Proofs.YtjcopbgbmokfmaaW.PrintLast
open Go.Proofs.Ytjcopbgbmokfmaa.BytesLib Go.Proofs.Ytjcopbgbmokfmaa.GlobLib Go.Proofs.Ytjcopbgbmokfmaa.GlobNext Go.Proofs.Ytjcopbgbmokfmaa.GlobClass Go.Proofs.Ytjcopbgbmokfmaa.GlobPieces Go.Proofs.Ytjcopbgbmokfmaa.GlobMain
set_option linter.unusedVariables false

/-- What may stand between a class's brackets. -/
inductive Cls : List UInt8 → Prop
  | nil : Cls []
  | one {u u1 : List UInt8} {lo : UInt8} (h : nextB [45, 93] u = some (lo, u1)) (h1 : u1.head? ≠ some 45) (h2 : Cls u1) : Cls u
  | two {u u1 u2 : List UInt8} {lo hi : UInt8} (h : nextB [45, 93] u = some (lo, 45 :: u1)) (h1 : nextB [45, 93] u1 = some (hi, u2)) (h2 : Cls u2) : Cls u

theorem nextB_two {b l : List UInt8} {c : UInt8} {r : List UInt8} (h : nextB b l = some (c, r)) : ∃ x, l = x ++ r ∧ ∀ t, nextB b (x ++ t) = some (c, t) := by
  rcases nextB_split h with ⟨rfl, h1, h2⟩ | ⟨rfl, h1⟩
  · exact ⟨[c], rfl, fun t => nextB_plain t h1 h2⟩
  · exact ⟨[92, c], rfl, fun t => nextB_back c t h1⟩

theorem rng_shape : ∀ (n : Nat) (many : Bool) (tab : Nat → Bool) (l : List UInt8) {t : Nat → Bool} {r : List UInt8}, rng n many tab l = some (t, r) → ∃ u, l = u ++ 93 :: r ∧ Cls u
  | 0, _, _, _, _, _, h => by cases h
  | n + 1, many, tab, l, t, r, h => by
    rw [rng] at h
    by_cases h0 : many = true ∧ l.head? = some 93
    · rw [if_pos h0] at h
      cases l with
      | nil => cases h0.2
      | cons x l =>
        obtain rfl := Option.some.inj h0.2
        cases h
        exact ⟨[], rfl, .nil⟩
    · rw [if_neg h0] at h
      cases hx : nextB [45, 93] l with
      | none => rw [hx] at h; cases h
      | some q =>
        obtain ⟨lo, l1⟩ := q
        rw [hx] at h
        dsimp only at h
        obtain ⟨x, hx1, hx3⟩ := nextB_two hx
        by_cases h45 : l1.head? = some 45
        · rw [if_pos h45] at h
          cases l1 with
          | nil => cases h45
          | cons z l1 =>
            obtain rfl := Option.some.inj h45
            cases hy : nextB [45, 93] l1 with
            | none => rw [show ((45 : UInt8) :: l1).tail = l1 from rfl, hy] at h; cases h
            | some q =>
              obtain ⟨hi, l2⟩ := q
              rw [show ((45 : UInt8) :: l1).tail = l1 from rfl, hy] at h
              dsimp only at h
              by_cases hlt : hi < lo
              · rw [if_pos hlt] at h; cases h
              · rw [if_neg hlt] at h
                obtain ⟨u, hu, hc⟩ := rng_shape n _ _ _ h
                obtain ⟨y, hy1, hy3⟩ := nextB_two hy
                exact ⟨x ++ 45 :: (y ++ u), by rw [hx1, hy1, hu]; simp, .two (hx3 _) (hy3 _) hc⟩
        · rw [if_neg h45] at h
          obtain ⟨u, hu, hc⟩ := rng_shape n _ _ _ h
          refine ⟨x ++ u, by rw [hx1, hu]; simp, .one (hx3 _) (fun e => h45 ?_) hc⟩
          rw [hu]
          cases u with
          | nil => cases e
          | cons a u => exact e

theorem inL_cls {u : List UInt8} (hc : Cls u) : ∀ (c : Int) (is : Bool) (n : Nat), u.length < n → ∃ b, GlobIn.inL n u c is = some b := by
  induction hc with
  | nil =>
    intro c is n hn
    obtain ⟨n, rfl⟩ : ∃ n', n = n' + 1 := ⟨n - 1, by omega⟩
    exact ⟨is, by rw [GlobIn.inL, if_pos rfl]⟩
  | @one u u1 lo h h1 h2 ih =>
    intro c is n hn
    obtain ⟨n, rfl⟩ : ∃ n', n = n' + 1 := ⟨n - 1, by omega⟩
    have hl := (GlobIn.drop_of h).1
    obtain ⟨b, hb⟩ := ih c (GlobIn.pick is (lo.toNat : Int) c (lo.toNat : Int)) n (by omega)
    refine ⟨b, ?_⟩
    rw [GlobIn.inL, if_neg (fun e => by rw [e] at hl; simp at hl), h]
    dsimp only
    rw [if_neg h1]
    exact hb
  | @two u u1 u2 lo hi h h1 h2 ih =>
    intro c is n hn
    obtain ⟨n, rfl⟩ : ∃ n', n = n' + 1 := ⟨n - 1, by omega⟩
    have hl := (GlobIn.drop_of h).1
    have hl2 := (GlobIn.drop_of h1).1
    simp only [List.length_cons] at hl
    obtain ⟨b, hb⟩ := ih c (GlobIn.pick is (lo.toNat : Int) c (hi.toNat : Int)) n (by omega)
    refine ⟨b, ?_⟩
    rw [GlobIn.inL, if_neg (fun e => by rw [e] at hl; simp at hl), h]
    dsimp only
    rw [if_pos (show ((45 : UInt8) :: u1).head? = some 45 from rfl), show ((45 : UInt8) :: u1).tail = u1 from rfl, h1]
    exact hb
/-- in answers of what may stand between brackets. -/
theorem ref_in {v : List UInt8} (hv : (∃ u, v = 94 :: u ∧ Cls u) ∨ (v.head? ≠ some 94 ∧ Cls v)) (c : Int) (hz : v.length ≤ 1099511627776) : ∃ b, graftbedref15_in.f (ofL v) c = some b := by
  unfold graftbedref15_in.f GlobIn.inF
  rw [if_pos (by rw [size_ofL]; exact hz), L_ofL]
  rcases hv with ⟨u, rfl, hc⟩ | ⟨hh, hc⟩
  · obtain ⟨b, hb⟩ := inL_cls hc c false ((94 :: u).length + 1) (by simp only [List.length_cons]; omega)
    exact ⟨b != true, by rw [if_pos (show ((94 : UInt8) :: u).head? = some 94 from rfl), show ((94 : UInt8) :: u).tail = u from rfl, hb]; rfl⟩
  · obtain ⟨b, hb⟩ := inL_cls hc c false (v.length + 1) (Nat.lt_succ_self _)
    exact ⟨b != false, by rw [if_neg hh, hb]; rfl⟩

theorem bt0 (x : UInt8) (u : List UInt8) : bt (ofL (x :: u)) 0 = (x.toNat : Int) := by
  have hb := bt_nat (s := ofL (x :: u)) (i := 0) (by rw [L_ofL]; simp)
  rw [show (L (ofL (x :: u)))[0]'(by rw [L_ofL]; simp) = x from by simp [L_ofL]] at hb
  exact hb
theorem class_shape {l : List UInt8} {p : Pc} {r : List UInt8} (h : classL l = some (p, r)) : ∃ v, l = v ++ 93 :: r ∧ ((∃ u, v = 94 :: u ∧ Cls u) ∨ (v.head? ≠ some 94 ∧ Cls v)) := by
  unfold classL at h
  by_cases h94 : l.head? = some 94
  · rw [if_pos h94] at h
    cases l with
    | nil => cases h94
    | cons x l =>
      obtain rfl := Option.some.inj h94
      rw [show ((94 : UInt8) :: l).tail = l from rfl] at h
      cases hr : rng (l.length + 1) false (fun _ => false) l with
      | none => rw [hr] at h; cases h
      | some q =>
        obtain ⟨t, r'⟩ := q
        rw [hr] at h
        cases h
        obtain ⟨u, hu, hc⟩ := rng_shape _ _ _ _ hr
        exact ⟨94 :: u, by rw [hu]; rfl, .inl ⟨u, rfl, hc⟩⟩
  · rw [if_neg h94] at h
    cases hr : rng (l.length + 1) false (fun _ => false) l with
    | none => rw [hr] at h; cases h
    | some q =>
      obtain ⟨t, r'⟩ := q
      rw [hr] at h
      cases h
      obtain ⟨u, hu, hc⟩ := rng_shape _ _ _ _ hr
      refine ⟨u, hu, .inr ⟨fun e => h94 ?_, hc⟩⟩
      rw [hu]
      cases u with
      | nil => cases e
      | cons a u => exact e

/-- fits answers of a piece's own text. -/
theorem ref_fits {l : List UInt8} {p : Pc} {r : List UInt8} (h : first l = some (p, r)) (hz : l.length ≤ 1099511627776) (c : Int) : ∃ b, graftbedref15_fits.f (ofL (l.take (l.length - r.length))) c = some b := by
  cases l with
  | nil => cases h
  | cons x l =>
    have h : (if x = 42 then some (Pc.star, l) else if x = 63 then some (.any, l) else if x = 91 then classL l else match nextB [] (x :: l) with | none => none | some (b, r') => some (.byte b, r')) = some (p, r) := h
    have simple : ∀ d : Nat, 0 < d → x ≠ 63 → x ≠ 91 → x ≠ 92 → ∃ b, graftbedref15_fits.f (ofL ((x :: l).take d)) c = some b := by
      intro d hd h1 h2 h3
      obtain ⟨d, rfl⟩ : ∃ d', d = d' + 1 := ⟨d - 1, by omega⟩
      refine ⟨(x.toNat : Int) == c, ?_⟩
      have n1 : ¬ ((x.toNat : Int) = 63) := fun e => h1 (UInt8.toNat_inj.1 (by show x.toNat = 63; omega))
      have n2 : ¬ ((x.toNat : Int) = 91) := fun e => h2 (UInt8.toNat_inj.1 (by show x.toNat = 91; omega))
      have n3 : ¬ ((x.toNat : Int) = 92) := fun e => h3 (UInt8.toNat_inj.1 (by show x.toNat = 92; omega))
      unfold graftbedref15_fits.f
      rw [List.take_succ_cons, bt0, if_pos (by rw [size_ofL, List.length_cons]; omega), if_neg n1, if_neg n2, if_neg n3]
    by_cases h42 : x = 42
    · subst h42
      rw [if_pos rfl] at h
      cases h
      exact simple _ (by simp only [List.length_cons]; omega) (by decide) (by decide) (by decide)
    · rw [if_neg h42] at h
      by_cases h63 : x = 63
      · subst h63
        rw [if_pos rfl] at h
        cases h
        refine ⟨c != 47, ?_⟩
        unfold graftbedref15_fits.f
        rw [show (63 :: r).length - r.length = 0 + 1 from by simp only [List.length_cons]; omega, List.take_succ_cons, bt0, if_pos (by rw [size_ofL]; simp), if_pos (by decide)]
      · rw [if_neg h63] at h
        by_cases h91 : x = 91
        · subst h91
          rw [if_pos rfl] at h
          obtain ⟨v, hv, hc⟩ := class_shape h
          have hlen : (91 :: l).length - r.length = v.length + 2 := by rw [hv]; simp only [List.length_cons, List.length_append]; omega
          have htake : (91 :: l).take (v.length + 2) = 91 :: (v ++ [93]) := by
            rw [hv, List.take_succ_cons, show v ++ 93 :: r = (v ++ [93]) ++ r from by simp, show v.length + 1 = (v ++ [93]).length from by simp, List.take_left]
          have hzv : v.length ≤ 1099511627776 := by
            have := congrArg List.length hv
            simp only [List.length_cons, List.length_append] at this hz
            omega
          by_cases h47 : c = 47
          · refine ⟨false, ?_⟩
            unfold graftbedref15_fits.f
            rw [hlen, htake, bt0, if_pos (by rw [size_ofL, List.length_cons]; omega), if_neg (by decide), if_pos (by decide), if_pos h47]
          · obtain ⟨b, hb⟩ := ref_in hc c hzv
            refine ⟨b, ?_⟩
            have hw : wrap64 (((ofL (91 :: (v ++ [93]))).size : Int) - 1) = ((v.length + 1 : Nat) : Int) := by
              rw [size_ofL]; simp only [List.length_cons, List.length_append, List.length_nil]; unfold wrap64; omega
            have hx : (ofL (91 :: (v ++ [93]))).extract 1 (v.length + 1) = ofL v := L_inj (by
              rw [L_extract, L_ofL, L_ofL, List.drop_succ_cons, List.drop_zero, Nat.add_sub_cancel, List.take_left])
            unfold graftbedref15_fits.f
            rw [hlen, htake, bt0, if_pos (by rw [size_ofL, List.length_cons]; omega), if_neg (by decide), if_pos (by decide), if_neg h47, hw, if_pos (by omega), if_pos (by rw [size_ofL]; simp only [List.length_cons, List.length_append, List.length_nil]; omega), Int.toNat_natCast, hx]
            show (graftbedref15_in.f (ofL v) c).bind (fun t => some t) = some b
            rw [hb]; rfl
        · rw [if_neg h91] at h
          cases hx : nextB [] (x :: l) with
          | none => rw [hx] at h; cases h
          | some q =>
            obtain ⟨d, r'⟩ := q
            rw [hx] at h
            cases h
            rcases nextB_split hx with ⟨e, _, h92⟩ | ⟨e, _⟩
            · cases e
              exact simple _ (by simp only [List.length_cons]; omega) h63 h91 h92
            · cases e
              refine ⟨(d.toNat : Int) == c, ?_⟩
              have hb1 : bt (ofL [92, d]) 1 = (d.toNat : Int) := by
                have hb := bt_nat (s := ofL [92, d]) (i := 1) (by rw [L_ofL]; simp)
                rw [show (L (ofL [92, d]))[1]'(by rw [L_ofL]; simp) = d from by simp [L_ofL]] at hb
                exact hb
              unfold graftbedref15_fits.f
              rw [show (92 :: d :: r).length - r.length = 2 from by simp only [List.length_cons]; omega, show (92 :: d :: r).take 2 = [92, d] from rfl, bt0, if_pos (by rw [size_ofL]; simp), if_neg (by decide), if_neg (by decide), if_pos (by decide), if_pos (by rw [size_ofL]; simp), hb1]

theorem set_len (out : List Bool) (i : Nat) (b : Bool) : (out.set i b).length = out.length := List.length_set

/-- The places of a text, from the last one on. -/
theorem ref_places (p s : ByteArray) (hs : s.size ≤ 1099511627776) (hp : p.size ≤ 1099511627776) (pc : Pc) (r : List UInt8) (hf : first (L p) = some (pc, r)) (rest : List Bool) (hr : rest.length = s.size + 1) :
    ∀ (i : Nat), i ≤ s.size + 1 → ∀ out : List Bool, out.length = s.size + 1 → ∃ out' : List Bool, out'.length = s.size + 1 ∧ Ev (fun k => graftbedref15_matches.l0 k p s out (((L p).length - r.length : Nat) : Int) rest ((i : Int) - 1)) out' := by
  have hl := L_length p
  have hrl := first_len hf
  intro i
  induction i with
  | zero =>
    intro _ out ho
    refine ⟨out, ho, 1, fun k hk => ?_⟩
    dsimp only
    obtain ⟨k, rfl⟩ : ∃ k', k = k' + 1 := ⟨k - 1, by omega⟩
    rw [graftbedref15_matches.l0, if_neg (by omega)]
  | succ i ih =>
    intro hi out ho
    have e0 : ((i + 1 : Nat) : Int) - 1 = (i : Int) := by omega
    have hw : wrap64 ((i : Int) - 1) = (i : Int) - 1 := by unfold wrap64; omega
    have hw1 : wrap64 ((i : Int) + 1) = ((i + 1 : Nat) : Int) := by unfold wrap64; omega
    have step : ∀ b : Bool, ∃ out' : List Bool, out'.length = s.size + 1 ∧ Ev (fun k => graftbedref15_matches.l0 k p s (out.set i b) (((L p).length - r.length : Nat) : Int) rest ((i : Int) - 1)) out' := fun b => ih (by omega) (out.set i b) (by rw [set_len, ho])
    by_cases h42 : bt p 0 = 42
    · -- a star
      by_cases hrest : rdOf false rest (i : Int) = true
      · obtain ⟨o, ho2, K, hK⟩ := step true
        refine ⟨o, ho2, K + 1, fun k hk => ?_⟩
        dsimp only
        obtain ⟨k, rfl⟩ : ∃ k', k = k' + 1 := ⟨k - 1, by omega⟩
        rw [e0, graftbedref15_matches.l0, if_pos (by omega), if_pos (by omega), if_pos h42, if_pos (by omega), if_pos (by omega), if_pos hrest, if_pos (by omega), hw, Int.toNat_natCast]
        exact hK k (by omega)
      · by_cases his : i < s.size
        · by_cases h47 : bt s (i : Int) = 47
          · obtain ⟨o, ho2, K, hK⟩ := step false
            refine ⟨o, ho2, K + 1, fun k hk => ?_⟩
            dsimp only
            obtain ⟨k, rfl⟩ : ∃ k', k = k' + 1 := ⟨k - 1, by omega⟩
            rw [e0, graftbedref15_matches.l0, if_pos (by omega), if_pos (by omega), if_pos h42, if_pos (by omega), if_pos (by omega), if_neg hrest, if_pos (by omega), if_pos h47, if_pos (by omega), hw, Int.toNat_natCast]
            exact hK k (by omega)
          · obtain ⟨o, ho2, K, hK⟩ := step (rdOf false out ((i + 1 : Nat) : Int))
            refine ⟨o, ho2, K + 1, fun k hk => ?_⟩
            dsimp only
            obtain ⟨k, rfl⟩ : ∃ k', k = k' + 1 := ⟨k - 1, by omega⟩
            rw [e0, graftbedref15_matches.l0, if_pos (by omega), if_pos (by omega), if_pos h42, if_pos (by omega), if_pos (by omega), if_neg hrest, if_pos (by omega), if_neg h47, hw1, if_pos (by omega), if_pos (by omega), if_pos (by omega), hw, Int.toNat_natCast]
            exact hK k (by omega)
        · obtain ⟨o, ho2, K, hK⟩ := step false
          refine ⟨o, ho2, K + 1, fun k hk => ?_⟩
          dsimp only
          obtain ⟨k, rfl⟩ : ∃ k', k = k' + 1 := ⟨k - 1, by omega⟩
          rw [e0, graftbedref15_matches.l0, if_pos (by omega), if_pos (by omega), if_pos h42, if_pos (by omega), if_pos (by omega), if_neg hrest, if_neg (by omega), if_pos (by omega), hw, Int.toNat_natCast]
          exact hK k (by omega)
    · by_cases his : i < s.size
      · obtain ⟨b, hb⟩ := ref_fits hf (by omega) (bt s (i : Int))
        have K0 := 0
        have hx : p.extract 0 ((L p).length - r.length) = ofL ((L p).take ((L p).length - r.length)) := L_inj (by rw [L_head, L_ofL])
        cases b with
        | true =>
          obtain ⟨o, ho2, K, hK⟩ := step (rdOf false rest ((i + 1 : Nat) : Int))
          refine ⟨o, ho2, max K K0 + 1, fun k hk => ?_⟩
          dsimp only
          obtain ⟨k, rfl⟩ : ∃ k', k = k' + 1 := ⟨k - 1, by omega⟩
          have hb2 := hb
          rw [e0, graftbedref15_matches.l0, if_pos (by omega), if_pos (by omega), if_neg h42, if_pos (by omega), if_pos (by omega), if_pos (by omega), if_pos (by omega), Int.toNat_natCast, hx, hb2, Option.bind_some, if_pos rfl, hw1, if_pos (by omega), if_pos (by omega), if_pos (by omega), hw, Int.toNat_natCast]
          exact hK k (by omega)
        | false =>
          obtain ⟨o, ho2, K, hK⟩ := step false
          refine ⟨o, ho2, max K K0 + 1, fun k hk => ?_⟩
          dsimp only
          obtain ⟨k, rfl⟩ : ∃ k', k = k' + 1 := ⟨k - 1, by omega⟩
          have hb2 := hb
          rw [e0, graftbedref15_matches.l0, if_pos (by omega), if_pos (by omega), if_neg h42, if_pos (by omega), if_pos (by omega), if_pos (by omega), if_pos (by omega), Int.toNat_natCast, hx, hb2, Option.bind_some, if_neg (by decide), if_pos (by omega), hw, Int.toNat_natCast]
          exact hK k (by omega)
      · obtain ⟨o, ho2, K, hK⟩ := step false
        refine ⟨o, ho2, K + 1, fun k hk => ?_⟩
        dsimp only
        obtain ⟨k, rfl⟩ : ∃ k', k = k' + 1 := ⟨k - 1, by omega⟩
        rw [e0, graftbedref15_matches.l0, if_pos (by omega), if_pos (by omega), if_neg h42, if_neg (by omega), if_pos (by omega), if_pos (by omega), hw, Int.toNat_natCast]
        exact hK k (by omega)

theorem ref_matches (s : ByteArray) (hs : s.size ≤ 1099511627776) : ∀ (n : Nat) (p : ByteArray), p.size = n → p.size ≤ 1099511627776 → patt (L p) ≠ none → ∃ out : List Bool, out.length = s.size + 1 ∧ Ev (fun k => graftbedref15_matches.f k p s) out := by
  intro n
  induction n using Nat.strongRecOn with
  | _ n ih =>
    intro p hn hp hpat
    have hl := L_length p
    have ht := toList_L p
    have hw : wrap64 ((s.size : Int) + 1) = ((s.size + 1 : Nat) : Int) := by unfold wrap64; omega
    have hrep : (List.replicate (s.size + 1) false).length = s.size + 1 := List.length_replicate
    by_cases h0 : L p = []
    · refine ⟨(List.replicate (s.size + 1) false).set s.size true, by rw [set_len, hrep], 1, fun k hk => ?_⟩
      dsimp only
      obtain ⟨k, rfl⟩ : ∃ k', k = k' + 1 := ⟨k - 1, by omega⟩
      rw [graftbedref15_matches.f, hw, if_pos (by omega), Int.toNat_natCast, if_pos (by omega), Option.bind_some, if_pos (by rw [ht]; exact h0), if_pos (by omega), if_pos (by rw [hrep]; omega), Int.toNat_natCast]
    · have hpos : 0 < p.size := by
        have := List.length_pos_iff.2 h0
        omega
      have hpc := patt_cons h0
      cases hf : first (L p) with
      | none => rw [hf] at hpc; exact absurd hpc hpat
      | some q =>
        obtain ⟨pc, r⟩ := q
        rw [hf] at hpc
        have hr := first_len hf
        obtain ⟨u, hu⟩ := first_drop hf
        have hul : u.length + r.length = p.size := by rw [← hl, hu, List.length_append]
        have her : L (p.extract u.length p.size) = r := by rw [L_tail, hu]; simp
        have hpat2 : patt (L (p.extract u.length p.size)) ≠ none := by
          rw [her]
          intro e
          rw [hpc] at hpat
          dsimp only at hpat
          rw [e] at hpat
          exact hpat rfl
        have hes : (p.extract u.length p.size).size = p.size - u.length := by rw [ByteArray.size_extract]; omega
        obtain ⟨rest, hrest, K1, h1⟩ := ih (p.size - u.length) (by omega) (p.extract u.length p.size) hes (by omega) hpat2
        obtain ⟨out, hout, K2, h2⟩ := ref_places p s hs hp pc r hf rest hrest (s.size + 1) (Nat.le_refl _) (List.replicate (s.size + 1) false) hrep
        obtain ⟨K3, h3⟩ := ref_piece p hp hpos
        have hn3 : pieceN (L p) (first (L p)) = ((u.length : Nat) : Int) := by rw [hf]; simp only [pieceN, hl]; omega
        rw [hn3] at h3
        have en : (L p).length - r.length = u.length := by omega
        rw [en, show ((s.size + 1 : Nat) : Int) - 1 = (s.size : Int) from by omega] at h2
        refine ⟨out, hout, max (max K1 K2) K3 + 1, fun k hk => ?_⟩
        dsimp only
        obtain ⟨k, rfl⟩ : ∃ k', k = k' + 1 := ⟨k - 1, by omega⟩
        have h1' := h1 k (by omega)
        dsimp only at h1'
        have h2' := h2 k (by omega)
        dsimp only at h2'
        have h3' := h3 k (by omega)
        dsimp only at h3'
        rw [graftbedref15_matches.f, hw, if_pos (by omega), Int.toNat_natCast, if_pos (by omega), Option.bind_some, if_neg (by rw [ht]; exact h0), h3', Option.bind_some, if_pos (by omega), if_pos (by omega), Int.toNat_natCast, h1', Option.bind_some]
        exact h2'

/-- The reference's Match answers, with the program's error. -/
theorem ref_match (p s : ByteArray) (hp : p.size ≤ 1099511627776) (hs : s.size ≤ 1099511627776) : ∃ b, Ev (fun k => graftbedref15_Match.f k p s) (b, checkF (L p)) := by
  obtain ⟨K1, h1⟩ := ref_check p hp
  cases hq : patt (L p) with
  | none =>
    have e : checkF (L p) = 150 := by unfold checkF; rw [hq]
    rw [e] at h1 ⊢
    refine ⟨false, K1, fun k hk => ?_⟩
    dsimp only
    unfold graftbedref15_Match.f graftbedref15_Check.f
    have h1' := h1 k hk
    dsimp only at h1'
    rw [h1', Option.bind_some, if_neg (by decide)]
  | some l =>
    have e : checkF (L p) = 0 := by unfold checkF; rw [hq]
    rw [e] at h1 ⊢
    obtain ⟨out, ho, K2, h2⟩ := ref_matches s hs p.size p rfl hp (by rw [hq]; simp)
    refine ⟨rdOf false out 0, max K1 K2, fun k hk => ?_⟩
    dsimp only
    unfold graftbedref15_Match.f graftbedref15_Check.f
    have h1' := h1 k (by omega)
    have h2' := h2 k (by omega)
    dsimp only at h1' h2'
    rw [h1', Option.bind_some, if_pos rfl, h2', Option.bind_some, if_pos (by omega)]

end Go.Proofs.Ytjcopbgbmokfmaa.Pure
