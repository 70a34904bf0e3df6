/- SemverPseudo, as a statement over numbers and lists: which texts are pseudo-versions is the reference's; what is made as one is one. No condition but the machine's own. -/
import Derived.Test.YtaddonafdllciaaDoorMpa
import Derived.Test.YtaddonafdllciaaDoorPureSemDigits
import Derived.DataShut
import Derived.Test.YtaddonafdllciaaDoorSemPseudo
namespace Go.Proofs.YtaddonafdllciaaDoor.Pure
open Go.RowKit Go.Proofs.YtaddonafdllciaaDoor.PPs Go.Proofs.YtaddonafdllciaaDoorW.PrintWords Go.Proofs.YtaddonafdllciaaDoorW.PrintLast
open Go.Proofs.YtaddonafdllciaaDoor.BytesLib Go.Proofs.YtaddonafdllciaaDoor.SemParts Go.Proofs.YtaddonafdllciaaDoor.SemNum Go.Proofs.YtaddonafdllciaaDoor.SemParse Go.Proofs.YtaddonafdllciaaDoor.SemOrder Go.Proofs.YtaddonafdllciaaDoor.SemSplit Go.Proofs.YtaddonafdllciaaDoor.SemCmp Go.Proofs.YtaddonafdllciaaDoor.SemList Go.Proofs.YtaddonafdllciaaDoor.SemPseudo
set_option linter.unusedVariables false
set_option linter.unusedSimpArgs false

/-- With identifiers behind a '-' that may be there. -/
theorem parse_pre_ok {s : ByteArray} {a b c : Nat} {P : List UInt8} (ha : a < 1000000000) (hb : b < 1000000000) (hc : c < 1000000000) (hs : L s = 118 :: (nt a b c ++ 45 :: P)) (hP : (43 : UInt8) ∉ P) (hz : s.size ≤ 60)
    (hi : ((splitL 46 P).map ofL).all (preB true) = true) : parseF s = ((a : Int), (b : Int), (c : Int), ofL P, (⟨#[]⟩ : ByteArray), (0 : Int)) := by
  have hr : L (s.extract 1 s.size) = nt a b c ++ 45 :: P := by rw [L_tail, hs]; rfl
  obtain ⟨h1, h2, h3, h4⟩ := nums_nt ha hb hc (rest_nt hs (.inr (.inr rfl)))
  have h43 : (43 : UInt8) ∉ nt a b c ++ 45 :: P := by
    intro h
    rcases List.mem_append.1 h with h | h
    · exact absurd h (nt_no a b c (by decide) (by decide))
    · rcases List.mem_cons.1 h with h | h
      · exact absurd h (by decide)
      · exact hP h
  have hcut : L (cutA 43 (s.extract 1 s.size)) = nt a b c ++ 45 :: P := by rw [L_cutA, hr, takeWhile_none h43]
  have hpre : L (preOf (s.extract 1 s.size)) = P := L_cutB hcut (nt_no a b c (by decide) (by decide))
  have hhas : hasPre (s.extract 1 s.size) = true := (cutF_mem 45 _).2 (by rw [hcut]; simp)
  have hm : hasMeta (s.extract 1 s.size) = false := by
    cases h : hasMeta (s.extract 1 s.size) with
    | false => rfl
    | true =>
      have := (cutF_mem 43 _).1 h
      rw [hr] at this
      exact absurd this h43
  have h5 : ok4 (s.extract 1 s.size) = true := by
    unfold ok4 ok3
    rw [h1, hm, hhas, show metaB false = (fun _ => true) from rfl, split_list 46 (preOf _), hpre, hi]
    simp
  unfold parseF
  rw [if_pos ⟨by rw [hs]; rfl, hz, h5⟩, h2, h3, h4, show metaOf (s.extract 1 s.size) = ⟨#[]⟩ from cutB_none hm, show preOf (s.extract 1 s.size) = ofL P from L_inj (by rw [hpre, L_ofL])]

/-! ### a time, a revision -/
theorem hex_facts : ∀ n : Fin 256, (hexaB (UInt8.ofNat n.val) = true → signB (UInt8.ofNat n.val) = true) ∧ (digB (UInt8.ofNat n.val) = true → signB (UInt8.ofNat n.val) = true) ∧ (hexaB (UInt8.ofNat n.val) = true → UInt8.ofNat n.val ≠ 43 ∧ UInt8.ofNat n.val ≠ 46 ∧ UInt8.ofNat n.val ≠ 45) := by decide +kernel
theorem u8_of (c : UInt8) : UInt8.ofNat (⟨c.toNat, c.toNat_lt⟩ : Fin 256).val = c := UInt8.ofNat_toNat
theorem hex_sign {c : UInt8} (h : hexaB c = true) : signB c = true := by have := (hex_facts ⟨c.toNat, c.toNat_lt⟩).1; rw [u8_of] at this; exact this h
theorem dig_hex {c : UInt8} (h : digB c = true) : hexaB c = true := by unfold hexaB; rw [h]; rfl
theorem hex_ne {c : UInt8} (h : hexaB c = true) : c ≠ 43 ∧ c ≠ 46 ∧ c ≠ 45 := by have := (hex_facts ⟨c.toNat, c.toNat_lt⟩).2.2; rw [u8_of] at this; exact this h
theorem no_of_hex {l : List UInt8} (h : l.all hexaB = true) : (43 : UInt8) ∉ l ∧ (46 : UInt8) ∉ l ∧ (45 : UInt8) ∉ l :=
  ⟨fun e => (hex_ne (List.all_eq_true.1 h _ e)).1 rfl, fun e => (hex_ne (List.all_eq_true.1 h _ e)).2.1 rfl, fun e => (hex_ne (List.all_eq_true.1 h _ e)).2.2 rfl⟩
theorem all_hex {l : List UInt8} (h : l.all digB = true) : l.all hexaB = true := List.all_eq_true.2 fun x hx => dig_hex (List.all_eq_true.1 h x hx)

/-- The last identifier of what is made. -/
theorem last_ok {T R : List UInt8} (hT : T.all digB = true) (hR : R.all hexaB = true) : preB true (ofL (T ++ 45 :: R)) = true := by
  have hs : (T ++ 45 :: R).all signB = true := by
    rw [List.all_append, List.all_cons, List.all_eq_true.2 fun x hx => hex_sign (List.all_eq_true.1 (all_hex hT) x hx), List.all_eq_true.2 fun x hx => hex_sign (List.all_eq_true.1 hR x hx)]; rfl
  have hd : (T ++ 45 :: R).all digB = false := by
    rw [List.all_append, List.all_cons, show digB 45 = false from rfl]; simp
  have hne : ((T ++ 45 :: R) != []) = true := by cases T <;> rfl
  unfold preB noughtB everyB
  rw [L_ofL, hs, hd]
  simp

theorem psP_made {P : ByteArray} {H T R : List UInt8} (hl : L P = H ++ (T ++ 45 :: R)) (hT : T.length = 14) (hR : R.length = 12) (dT : T.all digB = true) (dR : R.all hexaB = true) (hH : headB (ofL H) = true) :
    psP P = (ofL T, ofL R, true) := by
  have hz : P.size = H.length + 27 := by rw [← L_length, hl]; simp; omega
  have hn : P.size - 27 = H.length := by omega
  have e1 : P.extract (P.size - 27) P.size = ofL (T ++ 45 :: R) := L_inj (by rw [L_tail, hn, hl, List.drop_left, L_ofL])
  have e2 : P.extract 0 (P.size - 27) = ofL H := L_inj (by rw [L_head, hn, hl, List.take_left, L_ofL])
  have n45 := (no_of_hex (all_hex dT)).2.2
  have hA : cutA 45 (ofL (T ++ 45 :: R)) = ofL T := L_inj (by rw [L_cutA, L_ofL, L_ofL, takeWhile_split R n45])
  have hB : cutB 45 (ofL (T ++ 45 :: R)) = ofL R := L_inj (by rw [L_cutB (L_ofL _) n45, L_ofL])
  have hF : cutF 45 (ofL (T ++ 45 :: R)) = true := (cutF_mem 45 _).2 (by rw [L_ofL]; simp)
  have hE : ∀ (p : UInt8 → Bool) (l : List UInt8), l.all p = true → l ≠ [] → everyB p (ofL l) = true := fun p l h1 h2 => by
    unfold everyB
    rw [L_ofL, h1]
    cases l with
    | nil => exact absurd rfl h2
    | cons x l => rfl
  unfold psP tailB
  rw [e1, e2, hA, hB, hF, hH, if_pos ⟨by omega, by rw [size_ofL, hT, hE _ T dT (fun e => by rw [e] at hT; cases hT), hE _ R dR (fun e => by rw [e] at hR; cases hR)]; rfl, rfl⟩]

theorem psF_made {s : ByteArray} {a b c : Nat} {H T R : List UInt8} (ha : a < 1000000000) (hb : b < 1000000000) (hc : c < 1000000000) (hs : L s = 118 :: (nt a b c ++ 45 :: (H ++ (T ++ 45 :: R)))) (hz : s.size ≤ 60)
    (hT : T.length = 14) (hR : R.length = 12) (dT : T.all digB = true) (dR : R.all hexaB = true) (hH : headB (ofL H) = true) (h43 : (43 : UInt8) ∉ H) (hi : ((splitL 46 (H ++ (T ++ 45 :: R))).map ofL).all (preB true) = true) :
    psF s = (ofL T, ofL R, true) := by
  have hP : (43 : UInt8) ∉ H ++ (T ++ 45 :: R) := by
    intro h
    rcases List.mem_append.1 h with h | h
    · exact h43 h
    · rcases List.mem_append.1 h with h | h
      · exact (no_of_hex (all_hex dT)).1 h
      · rcases List.mem_cons.1 h with h | h
        · exact absurd h (by decide)
        · exact (no_of_hex dR).1 h
  have hp := parse_pre_ok ha hb hc hs hP hz hi
  unfold psF
  rw [hp, if_pos rfl]
  exact psP_made (L_ofL _) hT hR dT dR hH

/-- The three beginnings. -/
theorem made (T R : ByteArray) (hT : T.size = 14) (hR : R.size = 12) (dT : (L T).all digB = true) (dR : (L R).all hexaB = true) :
    psF (((⟨#[118, 48, 46, 48, 46, 48, 45]⟩ : ByteArray) ++ T) ++ (⟨#[45]⟩ : ByteArray) ++ R) = (T, R, true) ∧
    psF (((⟨#[118, 49, 46, 50, 46, 51, 45, 48, 46]⟩ : ByteArray) ++ T) ++ (⟨#[45]⟩ : ByteArray) ++ R) = (T, R, true) ∧
    psF (((⟨#[118, 49, 46, 50, 46, 51, 45, 114, 99, 46, 49, 46, 48, 46]⟩ : ByteArray) ++ T) ++ (⟨#[45]⟩ : ByteArray) ++ R) = (T, R, true) := by
  have lT : (L T).length = 14 := by rw [L_length, hT]
  have lR : (L R).length = 12 := by rw [L_length, hR]
  have l1 : L (⟨#[45]⟩ : ByteArray) = [45] := rfl
  have n0 : nt 0 0 0 = [48, 46, 48, 46, 48] := by unfold nt; rw [dL_small (by omega)]; rfl
  have n1 : nt 1 2 3 = [49, 46, 50, 46, 51] := by unfold nt; rw [dL_small (by omega), dL_small (n := 2) (by omega), dL_small (n := 3) (by omega)]; rfl
  have h46 : (46 : UInt8) ∉ L T ++ 45 :: L R := by
    intro h
    rcases List.mem_append.1 h with h | h
    · exact (no_of_hex (all_hex dT)).2.1 h
    · rcases List.mem_cons.1 h with h | h
      · exact absurd h (by decide)
      · exact (no_of_hex dR).2.1 h
  have hlast := last_ok dT dR
  have eT := ofL_L T
  have eR := ofL_L R
  refine ⟨?_, ?_, ?_⟩
  · have := psF_made (s := ((⟨#[118, 48, 46, 48, 46, 48, 45]⟩ : ByteArray) ++ T) ++ (⟨#[45]⟩ : ByteArray) ++ R) (a := 0) (b := 0) (c := 0) (H := []) (T := L T) (R := L R) (by omega) (by omega) (by omega)
      (by rw [L_append, L_append, L_append, n0, l1, show L (⟨#[118, 48, 46, 48, 46, 48, 45]⟩ : ByteArray) = [118, 48, 46, 48, 46, 48, 45] from rfl]; simp)
      (by simp only [size_append, hT, hR, show (⟨#[118, 48, 46, 48, 46, 48, 45]⟩ : ByteArray).size = 7 from rfl, show (⟨#[45]⟩ : ByteArray).size = 1 from rfl]; omega) lT lR dT dR (by unfold headB; rw [toList_L, L_ofL]; rfl) (by simp)
      (by rw [List.nil_append, splitL_none h46, List.map_cons, List.map_nil, List.all_cons, hlast]; rfl)
    rw [eT, eR] at this; exact this
  · have := psF_made (s := ((⟨#[118, 49, 46, 50, 46, 51, 45, 48, 46]⟩ : ByteArray) ++ T) ++ (⟨#[45]⟩ : ByteArray) ++ R) (a := 1) (b := 2) (c := 3) (H := [48, 46]) (T := L T) (R := L R) (by omega) (by omega) (by omega)
      (by rw [L_append, L_append, L_append, n1, l1, show L (⟨#[118, 49, 46, 50, 46, 51, 45, 48, 46]⟩ : ByteArray) = [118, 49, 46, 50, 46, 51, 45, 48, 46] from rfl]; simp)
      (by simp only [size_append, hT, hR, show (⟨#[118, 49, 46, 50, 46, 51, 45, 48, 46]⟩ : ByteArray).size = 9 from rfl, show (⟨#[45]⟩ : ByteArray).size = 1 from rfl]; omega) lT lR dT dR (by unfold headB; rw [toList_L, L_ofL, size_ofL]; decide) (by decide)
      (by rw [show [48, 46] ++ (L T ++ 45 :: L R) = [48] ++ 46 :: (L T ++ 45 :: L R) from rfl, splitL_join, splitL_none h46, List.map_append, List.all_append, List.map_cons, List.map_nil, List.all_cons, hlast]; decide)
    rw [eT, eR] at this; exact this
  · have := psF_made (s := ((⟨#[118, 49, 46, 50, 46, 51, 45, 114, 99, 46, 49, 46, 48, 46]⟩ : ByteArray) ++ T) ++ (⟨#[45]⟩ : ByteArray) ++ R) (a := 1) (b := 2) (c := 3) (H := [114, 99, 46, 49, 46, 48, 46]) (T := L T) (R := L R) (by omega) (by omega) (by omega)
      (by rw [L_append, L_append, L_append, n1, l1, show L (⟨#[118, 49, 46, 50, 46, 51, 45, 114, 99, 46, 49, 46, 48, 46]⟩ : ByteArray) = [118, 49, 46, 50, 46, 51, 45, 114, 99, 46, 49, 46, 48, 46] from rfl]; simp)
      (by simp only [size_append, hT, hR, show (⟨#[118, 49, 46, 50, 46, 51, 45, 114, 99, 46, 49, 46, 48, 46]⟩ : ByteArray).size = 14 from rfl, show (⟨#[45]⟩ : ByteArray).size = 1 from rfl]; omega) lT lR dT dR (by unfold headB; rw [toList_L, L_ofL, size_ofL]; decide) (by decide)
      (by rw [show [114, 99, 46, 49, 46, 48, 46] ++ (L T ++ 45 :: L R) = [114, 99, 46, 49, 46, 48] ++ 46 :: (L T ++ 45 :: L R) from rfl, splitL_join, splitL_none h46, List.map_append, List.all_append, List.map_cons (l := []), List.map_nil, List.all_cons (l := []), hlast]; decide)
    rw [eT, eR] at this; exact this

/-! ### the two loops -/
def hx (m : Nat) : UInt8 := if m < 10 then UInt8.ofNat (48 + m) else UInt8.ofNat (87 + m)
theorem sign16 {m : Nat} (h : m < 16) : (⟨#[48, 49, 50, 51, 52, 53, 54, 55, 56, 57, 97, 98, 99, 100, 101, 102]⟩ : ByteArray).extract m (m + 1) = ofL [hx m] ∧ hexaB (hx m) = true := by
  have h1 : ∀ k : Fin 16, ((L (⟨#[48, 49, 50, 51, 52, 53, 54, 55, 56, 57, 97, 98, 99, 100, 101, 102]⟩ : ByteArray)).drop k.val).take 1 = [hx k.val] ∧ hexaB (hx k.val) = true := by decide +kernel
  exact ⟨L_inj (by rw [L_extract, L_ofL, Nat.add_sub_cancel_left]; exact (h1 ⟨m, h⟩).1), (h1 ⟨m, h⟩).2⟩

theorem law_l0 (x2 x3 : Int) (r : ByteArray) (d : Nat) : ∀ (i k v : Nat) (t : ByteArray), i + d = 14 → t.size = i → (L t).all digB = true → v < 18446744073709551616 →
    ∃ t' : ByteArray, t'.size = 14 ∧ (L t').all digB = true ∧ graftbedlaw03_SemverPseudo.l0 (k + d + 1) (v : Int) x2 x3 t r (i : Int) = graftbedlaw03_SemverPseudo.l1 k x2 x3 t' r 0 := by
  induction d with
  | zero =>
    intro i k v t h1 h2 h3 h4
    refine ⟨t, by omega, h3, ?_⟩
    rw [Nat.add_zero]
    conv => lhs; unfold graftbedlaw03_SemverPseudo.l0
    rw [if_neg (by omega)]
  | succ d ih =>
    intro i k v t h1 h2 h3 h4
    have m1 : Int.tmod (v : Int) 10 = ((v % 10 : Nat) : Int) := by rw [Int.tmod_eq_emod_of_nonneg (by omega)]; rfl
    have m2 : Int.tdiv (v : Int) 10 = ((v / 10 : Nat) : Int) := by rw [Int.tdiv_eq_ediv_of_nonneg (by omega)]; rfl
    have hxx := sign_extract (m := v % 10) (by omega)
    have u1 : IntKind.u64.wrap (((v % 10 : Nat) : Int) + 1) = ((v % 10 + 1 : Nat) : Int) := by rw [IntKind.wrap_u64]; omega
    have u2 : IntKind.u64.wrap (((v / 10 : Nat) : Int)) = ((v / 10 : Nat) : Int) := by rw [IntKind.wrap_u64]; omega
    have s1 : (ofL [dg (v % 10)] ++ t).size = i + 1 := by rw [size_append, size_ofL, h2]; simp; omega
    obtain ⟨t', g1, g2, g3⟩ := ih (i + 1) k (v / 10) (ofL [dg (v % 10)] ++ t) (by omega) s1 (by rw [L_append, L_ofL, List.all_append, h3, List.all_cons, digB_dg]; rfl) (by omega)
    refine ⟨t', g1, g2, ?_⟩
    rw [show k + (d + 1) + 1 = (k + d + 1) + 1 from by omega]
    conv => lhs; unfold graftbedlaw03_SemverPseudo.l0
    rw [if_pos (by omega), m1, m2, u1, u2, if_pos (by omega), if_pos (by omega), if_pos (by omega), Int.toNat_natCast, Int.toNat_natCast, hxx, if_pos (by rw [size_ofL]; simp; omega), w64 (by omega) (by omega)]
    exact g3

theorem law_l1 (x3 : Int) (t : ByteArray) (d : Nat) : ∀ (i k v : Nat) (r : ByteArray), i + d = 12 → r.size = i → (L r).all hexaB = true → v < 18446744073709551616 →
    ∃ r' : ByteArray, r'.size = 12 ∧ (L r').all hexaB = true ∧ graftbedlaw03_SemverPseudo.l1 (k + d + 1) (v : Int) x3 t r (i : Int) = graftbedlaw03_SemverPseudo.l1 (k + 1) 0 x3 t r' 12 := by
  induction d with
  | zero =>
    intro i k v r h1 h2 h3 h4
    refine ⟨r, by omega, h3, ?_⟩
    obtain rfl : i = 12 := by omega
    rw [Nat.add_zero]
    conv => lhs; unfold graftbedlaw03_SemverPseudo.l1
    conv => rhs; unfold graftbedlaw03_SemverPseudo.l1
    rw [if_neg (by omega), if_neg (by omega)]
  | succ d ih =>
    intro i k v r h1 h2 h3 h4
    have m1 : Int.tmod (v : Int) 16 = ((v % 16 : Nat) : Int) := by rw [Int.tmod_eq_emod_of_nonneg (by omega)]; rfl
    have m2 : Int.tdiv (v : Int) 16 = ((v / 16 : Nat) : Int) := by rw [Int.tdiv_eq_ediv_of_nonneg (by omega)]; rfl
    obtain ⟨hxx, hh⟩ := sign16 (m := v % 16) (by omega)
    have u1 : IntKind.u64.wrap (((v % 16 : Nat) : Int) + 1) = ((v % 16 + 1 : Nat) : Int) := by rw [IntKind.wrap_u64]; omega
    have u2 : IntKind.u64.wrap (((v / 16 : Nat) : Int)) = ((v / 16 : Nat) : Int) := by rw [IntKind.wrap_u64]; omega
    have s1 : (ofL [hx (v % 16)] ++ r).size = i + 1 := by rw [size_append, size_ofL, h2]; simp; omega
    obtain ⟨r', g1, g2, g3⟩ := ih (i + 1) k (v / 16) (ofL [hx (v % 16)] ++ r) (by omega) s1 (by rw [L_append, L_ofL, List.all_append, h3, List.all_cons, hh]; rfl) (by omega)
    refine ⟨r', g1, g2, ?_⟩
    rw [show k + (d + 1) + 1 = (k + d + 1) + 1 from by omega]
    conv => lhs; unfold graftbedlaw03_SemverPseudo.l1
    rw [if_pos (by omega), m1, m2, u1, u2, if_pos (by omega), if_pos (by omega), if_pos (by omega), Int.toNat_natCast, Int.toNat_natCast, hxx, if_pos (by rw [size_ofL]; simp; omega), w64 (by omega) (by omega)]
    exact g3

theorem law_end (n : Nat) (hn : n < 256) (t r : ByteArray) (k : Nat) (ht : t.size = 14) (hr : r.size = 12) (dT : (L t).all digB = true) (dR : (L r).all hexaB = true) : graftbedlaw03_SemverPseudo.l1 (k + 1) 0 (n : Int) t r 12 = some true := by
  obtain ⟨p1, p2, p3⟩ := made t r ht hr dT dR
  have m1 : Int.tmod (wrap64 (n : Int)) 3 = ((n % 3 : Nat) : Int) := by rw [w64 (by omega) (by omega), Int.tmod_eq_emod_of_nonneg (by omega)]; rfl
  have l1 : (⟨#[45]⟩ : ByteArray).size = 1 := rfl
  have fin : ∀ H : ByteArray, H.size ≤ 14 → psF (((H ++ t) ++ (⟨#[45]⟩ : ByteArray)) ++ r) = (t, r, true) →
      (if H.size + t.size ≤ 9223372036854775807 then (if (H ++ t).size + 1 ≤ 9223372036854775807 then (if ((H ++ t) ++ (⟨#[45]⟩ : ByteArray)).size + r.size ≤ 9223372036854775807 then ((semver_Pseudo.f (((H ++ t) ++ (⟨#[45]⟩ : ByteArray)) ++ r)).bind fun bt121 => (if bt121.2.2 = true then (if bt121.1.toList = t.toList then (some (bt121.2.1.toList == r.toList)) else (some false)) else (some false))) else (none)) else (none)) else (none)) = some true := by
    intro H hH hp
    unfold semver_Pseudo.f
    rw [if_pos (by omega), if_pos (by rw [size_append]; omega), if_pos (by simp only [size_append, l1]; omega), if_pos (by simp only [size_append, l1]; omega), Option.bind_some, hp, if_pos rfl, if_pos rfl, beq_self_eq_true]
  unfold graftbedlaw03_SemverPseudo.l1
  rw [if_neg (by omega), Option.bind_some, m1, if_pos (by omega), if_pos (by show ((n % 3 : Nat) : Int) < 3; omega)]
  have h3 : n % 3 = 0 ∨ n % 3 = 1 ∨ n % 3 = 2 := by omega
  rcases h3 with h | h | h
  · rw [h]; exact fin _ (by decide) p1
  · rw [h]; exact fin _ (by decide) p2
  · rw [h]; exact fin _ (by decide) p3

theorem SemverPseudo : graftbedlaw03_SemverPseudo.Pure := by
  intro s x1 x2 x3 hs w1 w2 w3
  by_cases hbig : s.size > 1024
  · refine ⟨1, ?_⟩
    unfold graftbedlaw03_SemverPseudo.f
    rw [if_pos (by omega)]
  · obtain ⟨a, rfl, ha⟩ : ∃ n : Nat, x1 = n ∧ n < 18446744073709551616 := by
      have h1 : (0 : Int) ≤ x1 := ((Lit.wf_int_iff .u64 x1).1 w1).1
      have h2 : x1 ≤ 18446744073709551615 := ((Lit.wf_int_iff .u64 x1).1 w1).2
      exact ⟨x1.toNat, by omega, by omega⟩
    obtain ⟨b, rfl, hb⟩ : ∃ n : Nat, x2 = n ∧ n < 18446744073709551616 := by
      have h1 : (0 : Int) ≤ x2 := ((Lit.wf_int_iff .u64 x2).1 w2).1
      have h2 : x2 ≤ 18446744073709551615 := ((Lit.wf_int_iff .u64 x2).1 w2).2
      exact ⟨x2.toNat, by omega, by omega⟩
    obtain ⟨n, rfl, hn⟩ : ∃ n : Nat, x3 = n ∧ n < 256 := by
      have h1 : (0 : Int) ≤ x3 := ((Lit.wf_int_iff .u8 x3).1 w3).1
      have h2 : x3 ≤ 255 := ((Lit.wf_int_iff .u8 x3).1 w3).2
      exact ⟨x3.toNat, by omega, by omega⟩
    clear w1 w2 w3
    obtain ⟨t, t1, t2, t3⟩ := law_l0 (b : Int) (n : Int) ⟨#[]⟩ 14 0 13 a ⟨#[]⟩ rfl rfl rfl ha
    obtain ⟨r, r1, r2, r3⟩ := law_l1 (n : Int) t 12 0 0 b ⟨#[]⟩ rfl rfl rfl hb
    have e := law_end n hn t r 0 t1 r1 t2 r2
    refine ⟨29, ?_⟩
    have hJ : graftbedlaw03_SemverPseudo.j0 29 (a : Int) (b : Int) (n : Int) false = some true := by
      show graftbedlaw03_SemverPseudo.j0 (28 + 1) (a : Int) (b : Int) (n : Int) false = some true
      rw [graftbedlaw03_SemverPseudo.j0, if_neg (by decide)]
      exact t3.trans (r3.trans e)
    unfold graftbedlaw03_SemverPseudo.f semver_Pseudo.f graftbedref03_Pseudo.f
    rw [if_neg (by omega), if_pos hs, Option.bind_some, Option.bind_some, if_pos rfl, if_pos rfl, bne_self_eq_false]
    exact hJ

end Go.Proofs.YtaddonafdllciaaDoor.Pure
