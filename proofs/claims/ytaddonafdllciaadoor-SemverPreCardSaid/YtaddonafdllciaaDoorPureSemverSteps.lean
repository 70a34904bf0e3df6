/- SemverSteps, as a statement over numbers and lists: one place higher is higher; with something ahead of it a version is lower; what is behind '+' counts nothing. No condition but the machine's own. -/
import Derived.Test.YtaddonafdllciaaDoorMpa
import Derived.Test.YtaddonafdllciaaDoorMpb
import Derived.Test.YtaddonafdllciaaDoorPureSemDigits
import Derived.DataShut
namespace Go.Proofs.YtaddonafdllciaaDoor.Pure
open Go.RowKit Go.Proofs.YtaddonafdllciaaDoor.PAll Go.Proofs.YtaddonafdllciaaDoorW.PrintWords Go.Proofs.YtaddonafdllciaaDoorW.PrintLast
open Go.Proofs.YtaddonafdllciaaDoor.BytesLib Go.Proofs.YtaddonafdllciaaDoor.SemParts Go.Proofs.YtaddonafdllciaaDoor.SemNum Go.Proofs.YtaddonafdllciaaDoor.SemParse Go.Proofs.YtaddonafdllciaaDoor.SemOrder Go.Proofs.YtaddonafdllciaaDoor.SemSplit Go.Proofs.YtaddonafdllciaaDoor.SemCmp Go.Proofs.YtaddonafdllciaaDoor.SemList
set_option linter.unusedVariables false
set_option linter.unusedSimpArgs false

theorem VC_ok {x y : ByteArray} (hx : (parseF x).2.2.2.2.2 = 0) (hy : (parseF y).2.2.2.2.2 = 0) :
    VC x y = orI (cmpI (parseF x).1 (parseF y).1) (orI (cmpI (parseF x).2.1 (parseF y).2.1) (orI (cmpI (parseF x).2.2.1 (parseF y).2.2.1) (preC (parseF x).2.2.2.1 (parseF y).2.2.2.1))) := by
  unfold VC cmpP ek
  rw [if_pos hx, if_pos hy, cmpI_cmp.self]
  rfl
theorem orI_0 (x : Int) : orI 0 x = x := rfl
theorem orI_neg (x : Int) : orI (-1) x = -1 := rfl
theorem cmpI_lt {a b : Int} (h : a < b) : cmpI a b = -1 := by unfold cmpI; rw [if_pos h]

theorem parse_plus {s : ByteArray} {a b c : Nat} (ha : a < 1000000000) (hb : b < 1000000000) (hc : c < 1000000000) (hs : L s = 118 :: (nt a b c ++ [43, 109])) :
    (parseF s).2.2.2.2.2 = 0 ∧ (parseF s).1 = a ∧ (parseF s).2.1 = b ∧ (parseF s).2.2.1 = c ∧ (parseF s).2.2.2.1 = ⟨#[]⟩ := by
  have hr : L (s.extract 1 s.size) = nt a b c ++ 43 :: [109] := by rw [L_tail, hs]; rfl
  obtain ⟨h1, h2, h3, h4⟩ := nums_nt ha hb hc (rest_nt hs (.inr (.inl rfl)))
  have hsz : s.size ≤ 60 := by rw [← L_length, hs]; have := nt_len ha hb hc; simp only [List.length_cons, List.length_append, List.length_nil]; omega
  have hcut : L (cutA 43 (s.extract 1 s.size)) = nt a b c := by
    rw [L_cutA, hr]; exact takeWhile_split _ (nt_no a b c (by decide) (by decide))
  have hp : hasPre (s.extract 1 s.size) = false := by
    cases h : hasPre (s.extract 1 s.size) with
    | false => rfl
    | true =>
      have := (cutF_mem 45 _).1 h
      rw [hcut] at this
      exact absurd this (nt_no a b c (by decide) (by decide))
  have hm : L (metaOf (s.extract 1 s.size)) = [109] := L_cutB hr (nt_no a b c (by decide) (by decide))
  have h5 : ok4 (s.extract 1 s.size) = true := by
    unfold ok4 ok3
    rw [h1, hp, show preB false = (fun _ => true) from rfl, split_list 46 (metaOf _), hm]
    rw [show (splitL 46 [109]).map ofL = [ofL [109]] from rfl]
    rw [show [ofL [109]].all (metaB (hasMeta (s.extract 1 s.size))) = true from by
      cases hasMeta (s.extract 1 s.size) <;> decide]
    simp
  unfold parseF
  rw [if_pos ⟨by rw [hs]; rfl, hsz, h5⟩]
  exact ⟨rfl, h2, h3, h4, cutB_none hp⟩

theorem SemverSteps : graftbedlaw03_SemverSteps.Pure := by
  intro a0 b0 c0 pre wa wb wc hpre
  by_cases hbig : pre.size > 100
  · refine ⟨1, ?_⟩
    unfold graftbedlaw03_SemverSteps.f
    rw [if_pos (by omega)]
  · have num : ∀ x : Int, (Lit.int .u16 x).wf = true → ∃ n : Nat, x = n ∧ n < 65536 := fun x h => by
      have h1 : (0 : Int) ≤ x := ((Lit.wf_int_iff .u16 x).1 h).1
      have h2 : x ≤ 65535 := ((Lit.wf_int_iff .u16 x).1 h).2
      exact ⟨x.toNat, by omega, by omega⟩
    obtain ⟨a, rfl, ha⟩ := num a0 wa
    obtain ⟨b, rfl, hb⟩ := num b0 wb
    obtain ⟨c, rfl, hc⟩ := num c0 wc
    clear num wa wb wc
    have dsz : ∀ n, n < 1000000 → (D n).size ≤ 6 := fun n h => by rw [D_size]; exact dL_len 5 n (by simpa using h)
    have za := dsz a (by omega)
    have zb := dsz b (by omega)
    have zc := dsz c (by omega)
    have za1 := dsz (a + 1) (by omega)
    have zb1 := dsz (b + 1) (by omega)
    have zc1 := dsz (c + 1) (by omega)
    have l1 : ∀ x : UInt8, (⟨#[x]⟩ : ByteArray).size = 1 := fun _ => rfl
    have l2 : (⟨#[46, 48]⟩ : ByteArray).size = 2 := rfl
    have l3 : (⟨#[46, 48, 46, 48]⟩ : ByteArray).size = 4 := rfl
    have l4 : (⟨#[43, 109]⟩ : ByteArray).size = 2 := rfl
    have L1 : ∀ x : UInt8, L (⟨#[x]⟩ : ByteArray) = [x] := fun _ => rfl
    have LD : ∀ n, L (D n) = dL n := fun n => L_ofL _
    have d0 : dL 0 = [48] := by rw [dL_small (by omega)]; rfl
    obtain ⟨S, hS⟩ : ∃ S, ((((((⟨#[118]⟩ : ByteArray) ++ D a) ++ (⟨#[46]⟩ : ByteArray)) ++ D b) ++ (⟨#[46]⟩ : ByteArray)) ++ D c) = S := ⟨_, rfl⟩
    obtain ⟨U, hU⟩ : ∃ U, ((((((⟨#[118]⟩ : ByteArray) ++ D a) ++ (⟨#[46]⟩ : ByteArray)) ++ D b) ++ (⟨#[46]⟩ : ByteArray)) ++ D (c + 1)) = U := ⟨_, rfl⟩
    obtain ⟨M, hM⟩ : ∃ M, (((((⟨#[118]⟩ : ByteArray) ++ D a) ++ (⟨#[46]⟩ : ByteArray)) ++ D (b + 1)) ++ (⟨#[46, 48]⟩ : ByteArray)) = M := ⟨_, rfl⟩
    obtain ⟨T, hT⟩ : ∃ T, (((⟨#[118]⟩ : ByteArray) ++ D (a + 1)) ++ (⟨#[46, 48, 46, 48]⟩ : ByteArray)) = T := ⟨_, rfl⟩
    have sS : S.size ≤ 21 := by rw [← hS]; simp only [size_append, l1]; omega
    have sU : U.size ≤ 21 := by rw [← hU]; simp only [size_append, l1]; omega
    have sM : M.size ≤ 21 := by rw [← hM]; simp only [size_append, l1, l2]; omega
    have sT : T.size ≤ 21 := by rw [← hT]; simp only [size_append, l1, l3]; omega
    have LS : L S = 118 :: nt a b c := by rw [← hS]; simp only [L_append, L1, LD]; unfold nt; simp
    have LU : L U = 118 :: nt a b (c + 1) := by rw [← hU]; simp only [L_append, L1, LD]; unfold nt; simp
    have LM : L M = 118 :: nt a (b + 1) 0 := by
      rw [← hM]; simp only [L_append, L1, LD]; unfold nt
      rw [d0, show L (⟨#[46, 48]⟩ : ByteArray) = [46, 48] from rfl]; simp
    have LT : L T = 118 :: nt (a + 1) 0 0 := by
      rw [← hT]; simp only [L_append, L1, LD]; unfold nt
      rw [d0, show L (⟨#[46, 48, 46, 48]⟩ : ByteArray) = [46, 48, 46, 48] from rfl]; simp
    have pS := parse_bare (by omega) (by omega) (by omega) LS
    have pU := parse_bare (by omega) (by omega) (by omega) LU
    have pM := parse_bare (by omega) (by omega) (by omega) LM
    have pT := parse_bare (by omega) (by omega) (by omega) LT
    have LSm : L (S ++ (⟨#[43, 109]⟩ : ByteArray)) = 118 :: (nt a b c ++ [43, 109]) := by rw [L_append, LS]; rfl
    obtain ⟨q1, q2, q3, q4, q5⟩ := parse_plus (by omega) (by omega) (by omega) LSm
    have v1 : VC S U = -1 := by
      rw [VC_ok (by rw [pS]) (by rw [pU]), pS, pU]
      show orI (cmpI a a) (orI (cmpI b b) (orI (cmpI c ((c + 1 : Nat) : Int)) _)) = -1
      rw [cmpI_cmp.self, cmpI_cmp.self, cmpI_lt (by omega)]; rfl
    have v2 : VC U M = -1 := by
      rw [VC_ok (by rw [pU]) (by rw [pM]), pU, pM]
      show orI (cmpI a a) (orI (cmpI b ((b + 1 : Nat) : Int)) _) = -1
      rw [cmpI_cmp.self, cmpI_lt (by omega)]; rfl
    have v3 : VC M T = -1 := by
      rw [VC_ok (by rw [pM]) (by rw [pT]), pM, pT]
      show orI (cmpI a ((a + 1 : Nat) : Int)) _ = -1
      rw [cmpI_lt (by omega)]; rfl
    have v4 : VC S (S ++ (⟨#[43, 109]⟩ : ByteArray)) = 0 := by
      rw [VC_zero (by rw [pS]) q1, pS, q2, q3, q4, q5]
      exact ⟨rfl, rfl, rfl, rfl⟩
    have sW : ((U ++ (⟨#[45]⟩ : ByteArray)) ++ pre).size ≤ 200 := by simp only [size_append, l1]; omega
    have LW : L ((U ++ (⟨#[45]⟩ : ByteArray)) ++ pre) = 118 :: (nt a b (c + 1) ++ 45 :: L pre) := by rw [L_append, L_append, LU]; simp [L1]
    obtain ⟨W, hW⟩ : ∃ W, ((U ++ (⟨#[45]⟩ : ByteArray)) ++ pre) = W := ⟨_, rfl⟩
    have hc2 := fun x y (hx : x.size ≤ 200) (hy : y.size ≤ 200) (k : Nat) (hk : 10 ≤ k) => prog_compare x y (by omega) (by omega) k hk
    refine ⟨100 + 1, ?_⟩
    have hJ : graftbedlaw03_SemverSteps.j0 (100 + 1) pre S U false = some true := by
      simp only [graftbedlaw03_SemverSteps.j0]
      rw [if_neg (by decide), if_pos (by omega), if_pos (by simp only [size_append, l1]; omega), hW]
      rw [hW] at sW LW
      unfold semver_Parse.f graftbedref03_Parse.f
      rw [if_pos (by omega), Option.bind_some, Option.bind_some, if_pos rfl]
      by_cases h : (parseF W).2.2.2.2.2 = 0
      · obtain ⟨r1, r2, r3, r4, r5⟩ := parse_pre (by omega) (by omega) (by omega) LW h
        have hne : (parseF W).2.2.2.1.toList ≠ [] := by rw [toList_L, r4]; exact r5
        have w1 : VC W U = -1 := by
          rw [VC_ok h (by rw [pU]), pU, r1, r2, r3]
          show orI (cmpI a a) (orI (cmpI b b) (orI (cmpI ((c + 1 : Nat) : Int) ((c + 1 : Nat) : Int)) (preC _ ⟨#[]⟩))) = -1
          rw [cmpI_cmp.self, cmpI_cmp.self, cmpI_cmp.self]
          unfold preC pk
          rw [if_neg hne, if_pos (toList_nil.2 rfl)]; rfl
        have w2 : VC S W = -1 := by
          rw [VC_ok (by rw [pS]) h, pS, r1, r2, r3]
          show orI (cmpI a a) (orI (cmpI b b) (orI (cmpI c ((c + 1 : Nat) : Int)) _)) = -1
          rw [cmpI_cmp.self, cmpI_cmp.self, cmpI_lt (by omega)]; rfl
        rw [if_pos h, hc2 W U (by omega) (by omega) 100 (by omega), Option.bind_some, w1, if_pos rfl, hc2 S W (by omega) (by omega) 100 (by omega), Option.bind_some, w2]
        rfl
      · rw [if_neg h]
    have rD := fun n (h : n < 1000000) => ref_Digits n (by omega) (100 + 1) (by omega)
    unfold graftbedlaw03_SemverSteps.f
    rw [if_neg (by omega), w64 (x := (a : Int)) (by omega) (by omega), w64 (x := (b : Int)) (by omega) (by omega), w64 (x := (c : Int)) (by omega) (by omega)]
    rw [w64 (x := (a : Int) + 1) (by omega) (by omega), w64 (x := (b : Int) + 1) (by omega) (by omega), w64 (x := (c : Int) + 1) (by omega) (by omega)]
    rw [rD a (by omega), rD b (by omega), rD c (by omega), show (a : Int) + 1 = ((a + 1 : Nat) : Int) from rfl, show (b : Int) + 1 = ((b + 1 : Nat) : Int) from rfl, show (c : Int) + 1 = ((c + 1 : Nat) : Int) from rfl, rD (a + 1) (by omega), rD (b + 1) (by omega), rD (c + 1) (by omega)]
    simp only [Option.bind_some]
    rw [hS, hU, hM, hT]
    rw [hc2 S U (by omega) (by omega) (100 + 1) (by omega), hc2 U M (by omega) (by omega) (100 + 1) (by omega), hc2 M T (by omega) (by omega) (100 + 1) (by omega), hc2 S (S ++ (⟨#[43, 109]⟩ : ByteArray)) (by omega) (by rw [size_append, l4]; omega) (100 + 1) (by omega)]
    simp only [Option.bind_some]
    rw [v1, v2, v3, v4]
    simp only [size_append, l1]
    iterate 12 rw [if_pos (by omega)]
    rw [if_pos trivial, if_pos trivial, if_pos trivial, if_pos (by omega)]
    exact hJ

end Go.Proofs.YtaddonafdllciaaDoor.Pure
