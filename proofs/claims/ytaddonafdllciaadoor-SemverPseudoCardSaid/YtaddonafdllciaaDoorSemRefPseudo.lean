/- Pseudo-versions: the reference's walk. -/
import Derived.Test.YtaddonafdllciaaDoorSemPseudo
import Derived.Test.YtaddonafdllciaaDoorSemRefParse
import Derived.Test.YtaddonafdllciaaDoorSemList
namespace Go.Proofs.YtaddonafdllciaaDoor.SemRefPseudo
open Go.RowKit Go.Shelf Go.Proofs.YtaddonafdllciaaDoor.Iter Go.Proofs.YtaddonafdllciaaDoor.BytesLib Go.Proofs.YtaddonafdllciaaDoor.SemParts Go.Proofs.YtaddonafdllciaaDoor.SemNum Go.Proofs.YtaddonafdllciaaDoor.SemParse Go.Proofs.YtaddonafdllciaaDoor.SemSplit Go.Proofs.YtaddonafdllciaaDoor.SemList Go.Proofs.YtaddonafdllciaaDoor.SemPseudo Go.Proofs.YtaddonafdllciaaDoorW.PrintWords
set_option linter.unusedVariables false
set_option linter.unusedSimpArgs false
attribute [local go_sem] Oper.semAt_some

theorem rdigit_calls (c : UInt8) (w : World) : Calls Tryd.prog 46 #[.int .u8 (c.toNat : Int)] w fun e w' => e = .returned (.bool (digB c)) ∧ Drawn0 w w' :=
  BRef.graftbedref03_digit.calls _ _ w (SemRefB.ref_digit c)
theorem rdigits_calls (s : ByteArray) (hs : s.size ≤ 1099511627776) (w : World) : Calls Tryd.prog 45 #[.string s] w fun e w' => e = .returned (.bool (everyB digB s)) ∧ Drawn0 w w' :=
  BRef.graftbedref03_digits.calls (s.size + 1) s _ w (SemRefB.ref_digits s hs _ (Nat.lt_succ_self _))

/-- What is known of the call of Parse. -/
def PC2 (s : ByteArray) (a b c : Int) (p m : ByteArray) (er : Int) (w : World) : Prop := Aside0 (Calls Tryd.prog 12 #[.string s] w fun e w' => e = .returned (.tuple #[.agg #[.int .i64 a, .int .i64 b, .int .i64 c, .string p, .string m], .int .i64 er]) ∧ Below w.heap.size w w')
/-- What is to be shown: the call comes to this. -/
def RC2 (s x y : ByteArray) (is : Bool) (w : World) : Prop := Calls Tryd.prog 16 #[.string s] w fun e w' => e = .returned (.tuple #[.string x, .string y, .bool is]) ∧ Below w.heap.size w w'

set_option maxRecDepth 100000 in
set_option maxHeartbeats 8000000 in
theorem ref_bad (s : ByteArray) (a b c : Int) (p m : ByteArray) (er : Int) (w : World) (HP : PC2 s a b c p m er w) (he : (er != 0) = true) :
    RC2 s ⟨#[]⟩ ⟨#[]⟩ false w := by
  unfold RC2
  unfold PC2 at HP
  go_enter Tryd.func16, Tryd.ntmps16
  go_wp2_with fail
  refine HP.out.mono ?_
  rintro e w1 ⟨rfl, hb1⟩
  have HB := Aside0.mk hb1
  clear hb1
  go_wp2_with fail
  go_ret3
  exact ⟨rfl, by repeat (first | exact HB.out | apply below_alloc | apply pw_below_drewN | apply below_drew1)⟩

set_option maxRecDepth 100000 in
set_option maxHeartbeats 8000000 in
theorem ref_short (s : ByteArray) (a b c : Int) (p m : ByteArray) (er : Int) (w : World) (HP : PC2 s a b c p m er w) (hp : p.size < 27) (he : (er != 0) = false) :
    RC2 s ⟨#[]⟩ ⟨#[]⟩ false w := by
  have hw : decide (wrap64 ((p.size : Int) - 27) < 0) = true := by rw [decide_eq_true_eq]; unfold wrap64; omega
  clear hp
  unfold RC2
  unfold PC2 at HP
  go_enter Tryd.func16, Tryd.ntmps16
  go_wp2_with fail
  refine HP.out.mono ?_
  rintro e w1 ⟨rfl, hb1⟩
  have HB := Aside0.mk hb1
  clear hb1
  go_wp2_with fail
  go_ret3
  exact ⟨rfl, by repeat (first | exact HB.out | apply below_alloc | apply pw_below_drewN | apply below_drew1)⟩

set_option maxRecDepth 100000 in
set_option maxHeartbeats 8000000 in
theorem ref_c (s : ByteArray) (a b c : Int) (p m : ByteArray) (er : Int) (w : World) (HP : PC2 s a b c p m er w) (he : (er != 0) = false) (n m14 m15 : Nat) (hn : n ≤ p.size) (hw : wrap64 ((p.size : Int) - 27) = (n : Int)) (hn0 : decide ((n : Int) < 0) = false) (hw14 : wrap64 ((n : Int) + 14) = (m14 : Int)) (hw15 : wrap64 ((n : Int) + 15) = (m15 : Int)) (h14 : m14 < p.size) (h14n : n ≤ m14) (h15 : m15 ≤ p.size)
    (t rv hd : ByteArray) (ht : p.extract n m14 = t) (hr : p.extract m15 p.size = rv) (hh : p.extract 0 n = hd) (HD : ∀ W : World, Aside0 (Calls Tryd.prog 45 #[.string t] W fun e w1 => e = .returned (.bool (everyB digB t)) ∧ Drawn0 W w1)) (F1 : Aside0 (everyB digB t = false)) :
    RC2 s ⟨#[]⟩ ⟨#[]⟩ false w := by
  unfold RC2
  unfold PC2 at HP
  go_enter Tryd.func16, Tryd.ntmps16
  go_wp2_with fail
  refine HP.out.mono ?_
  rintro e w1 ⟨rfl, hb1⟩
  have HB := Aside0.mk hb1
  clear hb1
  go_wp2_with fail
  refine (HD _).out.mono ?_
  rintro e w3 ⟨he3, ⟨ndHD, rfl⟩⟩
  rw [F1.out] at he3
  subst he3
  go_wp2_with fail
  go_ret3
  exact ⟨rfl, by repeat (first | exact HB.out | apply below_alloc | apply pw_below_drewN | apply below_drew1)⟩

set_option maxRecDepth 100000 in
set_option maxHeartbeats 8000000 in
theorem ref_d (s : ByteArray) (a b c : Int) (p m : ByteArray) (er : Int) (w : World) (HP : PC2 s a b c p m er w) (he : (er != 0) = false) (n m14 m15 : Nat) (hn : n ≤ p.size) (hw : wrap64 ((p.size : Int) - 27) = (n : Int)) (hn0 : decide ((n : Int) < 0) = false) (hw14 : wrap64 ((n : Int) + 14) = (m14 : Int)) (hw15 : wrap64 ((n : Int) + 15) = (m15 : Int)) (h14 : m14 < p.size) (h14n : n ≤ m14) (h15 : m15 ≤ p.size)
    (t rv hd : ByteArray) (ht : p.extract n m14 = t) (hr : p.extract m15 p.size = rv) (hh : p.extract 0 n = hd) (HD : ∀ W : World, Aside0 (Calls Tryd.prog 45 #[.string t] W fun e w1 => e = .returned (.bool (everyB digB t)) ∧ Drawn0 W w1)) (F1 : Aside0 (everyB digB t = true)) (hb : ((p[m14].toNat : Int) != 45) = true) :
    RC2 s ⟨#[]⟩ ⟨#[]⟩ false w := by
  unfold RC2
  unfold PC2 at HP
  go_enter Tryd.func16, Tryd.ntmps16
  go_wp2_with fail
  refine HP.out.mono ?_
  rintro e w1 ⟨rfl, hb1⟩
  have HB := Aside0.mk hb1
  clear hb1
  go_wp2_with fail
  refine (HD _).out.mono ?_
  rintro e w3 ⟨he3, ⟨ndHD, rfl⟩⟩
  rw [F1.out] at he3
  subst he3
  go_wp2_with fail
  go_ret3
  exact ⟨rfl, by repeat (first | exact HB.out | apply below_alloc | apply pw_below_drewN | apply below_drew1)⟩

theorem not_all {rv : ByteArray} {i : Nat} {hlt : i < rv.size} (h : hexaB rv[i] = false) : ¬ (L rv).all hexaB = true := fun e => by
  have h2 := List.all_eq_true.1 e (rv[i]) (by
    have : (L rv)[i]'(by rw [L_length]; exact hlt) = rv[i] := rfl
    rw [← this]; exact List.getElem_mem _)
  rw [h] at h2; cases h2

set_option maxRecDepth 100000 in
set_option maxHeartbeats 8000000 in
theorem ref_x (s : ByteArray) (a b c : Int) (p m : ByteArray) (er : Int) (w : World) (HP : PC2 s a b c p m er w) (he : (er != 0) = false) (n m14 m15 : Nat) (hn : n ≤ p.size) (hw : wrap64 ((p.size : Int) - 27) = (n : Int)) (hn0 : decide ((n : Int) < 0) = false) (hw14 : wrap64 ((n : Int) + 14) = (m14 : Int)) (hw15 : wrap64 ((n : Int) + 15) = (m15 : Int)) (h14 : m14 < p.size) (h14n : n ≤ m14) (h15 : m15 ≤ p.size)
    (t rv hd : ByteArray) (ht : p.extract n m14 = t) (hr : p.extract m15 p.size = rv) (hh : p.extract 0 n = hd) (HD : ∀ W : World, Aside0 (Calls Tryd.prog 45 #[.string t] W fun e w1 => e = .returned (.bool (everyB digB t)) ∧ Drawn0 W w1)) (F1 : Aside0 (everyB digB t = true)) (hb : ((p[m14].toNat : Int) != 45) = false) (hz : rv.size ≤ 140737488351232) (HG : Aside0 ((L rv).all hexaB = false)) :
    RC2 s ⟨#[]⟩ ⟨#[]⟩ false w := by
  unfold RC2
  unfold PC2 at HP
  go_enter Tryd.func16, Tryd.ntmps16
  go_wp2_with fail
  refine HP.out.mono ?_
  rintro e w1 ⟨rfl, hb1⟩
  have HB := Aside0.mk hb1
  clear hb1
  go_wp2_with fail
  refine (HD _).out.mono ?_
  rintro e w3 ⟨he3, ⟨ndHD, rfl⟩⟩
  rw [F1.out] at he3
  subst he3
  go_wp2_with fail
  rw [hw14]
  go_loopw [10] (fun vi wr => ∃ i q : Nat, vi = .int .i64 i ∧ wr = ((w1.alloc (Obj.cells #[.int .i64 a, .int .i64 b, .int .i64 c, .string p, .string m] 27)).drewN q) ∧ i ≤ rv.size ∧ Aside0 (((L rv).take i).all hexaB = true)) (fun vi _ => rv.size - (intOf vi).toNat)
  case atStart => exact ⟨0, _, rfl, rfl, Nat.zero_le _, ⟨rfl⟩⟩
  case round =>
    obtain ⟨i, q, rfl, rfl, hi, HA⟩ := hrel
    by_cases hlt : i < rv.size
    · have HC := fun W => Aside0.mk (rdigit_calls rv[i] W)
      have hnext : hexaB rv[i] = true → ((L rv).take (i + 1)).all hexaB = true := fun h => by
        have hlL : i < (L rv).length := by rw [L_length]; exact hlt
        rw [List.take_succ_eq_append_getElem hlL, List.all_append, HA.out]
        simp only [List.all_cons, List.all_nil, Bool.and_true, Bool.true_and]
        exact h
      have HN := Aside0.mk hnext
      clear hnext
      cases hd1 : digB rv[i] with
      | true =>
        have hx : hexaB rv[i] = true := by unfold hexaB; rw [hd1]; rfl
        have HX := Aside0.mk hx
        have HP1 := Aside0.mk hd1
        clear hx hd1
        go_wp2_with fail
        refine (HC _).out.mono ?_
        rintro e w' ⟨he, ⟨nd, rfl⟩⟩
        rw [HP1.out] at he
        subst he
        go_wp2_with fail
        go_roundw
        case rel => first | exact ⟨i + 1, q + nd, by go_num, rfl, by omega, ⟨HN.out HX.out⟩⟩ | ((repeat apply Exists.intro); exact ⟨⟨i + 1, _, by go_num, rfl, by omega, ⟨HN.out HX.out⟩⟩, rfl⟩)
        case measure => simp [intOf]; omega
      | false =>
        by_cases h97 : (rv[i].toNat : Int) < 97
        · have hx : hexaB rv[i] = false := by unfold hexaB; rw [hd1, decide_eq_false (show ¬ 97 ≤ rv[i].toNat by omega)]; rfl
          have HX := Aside0.mk hx
          have HP1 := Aside0.mk hd1
          have g97 : decide ((rv[i].toNat : Int) < 97) = true := decide_eq_true h97
          clear hx hd1 h97
          go_wp2_with fail
          refine (HC _).out.mono ?_
          rintro e w' ⟨he, ⟨nd, rfl⟩⟩
          rw [HP1.out] at he
          subst he
          go_wp2_with fail
          go_ret3
          exact ⟨rfl, by repeat (first | exact HB.out | apply below_alloc | apply pw_below_drewN | apply below_drew1)⟩
        · have g97 : decide ((rv[i].toNat : Int) < 97) = false := decide_eq_false h97
          by_cases h102 : (rv[i].toNat : Int) > 102
          · have hx : hexaB rv[i] = false := by unfold hexaB; rw [hd1, decide_eq_false (show ¬ rv[i].toNat ≤ 102 by omega)]; simp
            have HX := Aside0.mk hx
            have HP1 := Aside0.mk hd1
            have g102 : decide (102 < (rv[i].toNat : Int)) = true := decide_eq_true h102
            clear hx hd1 h97 h102
            go_wp2_with fail
            refine (HC _).out.mono ?_
            rintro e w' ⟨he, ⟨nd, rfl⟩⟩
            rw [HP1.out] at he
            subst he
            go_wp2_with fail
            go_ret3
            exact ⟨rfl, by repeat (first | exact HB.out | apply below_alloc | apply pw_below_drewN | apply below_drew1)⟩
          · have hx : hexaB rv[i] = true := by unfold hexaB; rw [hd1, decide_eq_true (show 97 ≤ rv[i].toNat by omega), decide_eq_true (show rv[i].toNat ≤ 102 by omega)]; rfl
            have HX := Aside0.mk hx
            have HP1 := Aside0.mk hd1
            have g102 : decide (102 < (rv[i].toNat : Int)) = false := decide_eq_false (by omega)
            clear hx hd1 h97 h102
            go_wp2_with fail
            refine (HC _).out.mono ?_
            rintro e w' ⟨he, ⟨nd, rfl⟩⟩
            rw [HP1.out] at he
            subst he
            go_wp2_with fail
            go_roundw
            case rel => first | exact ⟨i + 1, q + nd, by go_num, rfl, by omega, ⟨HN.out HX.out⟩⟩ | ((repeat apply Exists.intro); exact ⟨⟨i + 1, _, by go_num, rfl, by omega, ⟨HN.out HX.out⟩⟩, rfl⟩)
            case measure => simp [intOf]; omega
    · obtain rfl : i = rv.size := by omega
      exact absurd HA.out (by rw [List.take_of_length_le (by rw [L_length]; exact Nat.le_refl _), HG.out]; decide)

set_option maxRecDepth 100000 in
set_option maxHeartbeats 8000000 in
theorem ref_e (s : ByteArray) (a b c : Int) (p m : ByteArray) (er : Int) (w : World) (HP : PC2 s a b c p m er w) (he : (er != 0) = false) (n m14 m15 : Nat) (hn : n ≤ p.size) (hw : wrap64 ((p.size : Int) - 27) = (n : Int)) (hn0 : decide ((n : Int) < 0) = false) (hw14 : wrap64 ((n : Int) + 14) = (m14 : Int)) (hw15 : wrap64 ((n : Int) + 15) = (m15 : Int)) (h14 : m14 < p.size) (h14n : n ≤ m14) (h15 : m15 ≤ p.size)
    (t rv hd : ByteArray) (ht : p.extract n m14 = t) (hr : p.extract m15 p.size = rv) (hh : p.extract 0 n = hd) (HD : ∀ W : World, Aside0 (Calls Tryd.prog 45 #[.string t] W fun e w1 => e = .returned (.bool (everyB digB t)) ∧ Drawn0 W w1)) (F1 : Aside0 (everyB digB t = true)) (hb : ((p[m14].toNat : Int) != 45) = false) (hz : rv.size ≤ 140737488351232) (HG : Aside0 ((L rv).all hexaB = true)) (h1 : hd.toList.isEmpty = true) :
    RC2 s t rv true w := by
  unfold RC2
  unfold PC2 at HP
  go_enter Tryd.func16, Tryd.ntmps16
  go_wp2_with fail
  refine HP.out.mono ?_
  rintro e w1 ⟨rfl, hb1⟩
  have HB := Aside0.mk hb1
  clear hb1
  go_wp2_with fail
  refine (HD _).out.mono ?_
  rintro e w3 ⟨he3, ⟨ndHD, rfl⟩⟩
  rw [F1.out] at he3
  subst he3
  go_wp2_with fail
  rw [hw14]
  go_loopw [10] (fun vi wr => ∃ i q : Nat, vi = .int .i64 i ∧ wr = ((w1.alloc (Obj.cells #[.int .i64 a, .int .i64 b, .int .i64 c, .string p, .string m] 27)).drewN q) ∧ i ≤ rv.size ∧ Aside0 (((L rv).take i).all hexaB = true)) (fun vi _ => rv.size - (intOf vi).toNat)
  case atStart => exact ⟨0, _, rfl, rfl, Nat.zero_le _, ⟨rfl⟩⟩
  case round =>
    obtain ⟨i, q, rfl, rfl, hi, HA⟩ := hrel
    by_cases hlt : i < rv.size
    · have HC := fun W => Aside0.mk (rdigit_calls rv[i] W)
      have hnext : hexaB rv[i] = true → ((L rv).take (i + 1)).all hexaB = true := fun h => by
        have hlL : i < (L rv).length := by rw [L_length]; exact hlt
        rw [List.take_succ_eq_append_getElem hlL, List.all_append, HA.out]
        simp only [List.all_cons, List.all_nil, Bool.and_true, Bool.true_and]
        exact h
      have HN := Aside0.mk hnext
      clear hnext
      cases hd1 : digB rv[i] with
      | true =>
        have hx : hexaB rv[i] = true := by unfold hexaB; rw [hd1]; rfl
        have HX := Aside0.mk hx
        have HP1 := Aside0.mk hd1
        clear hx hd1
        go_wp2_with fail
        refine (HC _).out.mono ?_
        rintro e w' ⟨he, ⟨nd, rfl⟩⟩
        rw [HP1.out] at he
        subst he
        go_wp2_with fail
        go_roundw
        case rel => first | exact ⟨i + 1, q + nd, by go_num, rfl, by omega, ⟨HN.out HX.out⟩⟩ | ((repeat apply Exists.intro); exact ⟨⟨i + 1, _, by go_num, rfl, by omega, ⟨HN.out HX.out⟩⟩, rfl⟩)
        case measure => simp [intOf]; omega
      | false =>
        by_cases h97 : (rv[i].toNat : Int) < 97
        · have hx : hexaB rv[i] = false := by unfold hexaB; rw [hd1, decide_eq_false (show ¬ 97 ≤ rv[i].toNat by omega)]; rfl
          have HX := Aside0.mk hx
          have HP1 := Aside0.mk hd1
          have g97 : decide ((rv[i].toNat : Int) < 97) = true := decide_eq_true h97
          clear hx hd1 h97
          go_wp2_with fail
          refine (HC _).out.mono ?_
          rintro e w' ⟨he, ⟨nd, rfl⟩⟩
          rw [HP1.out] at he
          subst he
          go_wp2_with fail
          exact absurd HG.out (not_all HX.out)
        · have g97 : decide ((rv[i].toNat : Int) < 97) = false := decide_eq_false h97
          by_cases h102 : (rv[i].toNat : Int) > 102
          · have hx : hexaB rv[i] = false := by unfold hexaB; rw [hd1, decide_eq_false (show ¬ rv[i].toNat ≤ 102 by omega)]; simp
            have HX := Aside0.mk hx
            have HP1 := Aside0.mk hd1
            have g102 : decide (102 < (rv[i].toNat : Int)) = true := decide_eq_true h102
            clear hx hd1 h97 h102
            go_wp2_with fail
            refine (HC _).out.mono ?_
            rintro e w' ⟨he, ⟨nd, rfl⟩⟩
            rw [HP1.out] at he
            subst he
            go_wp2_with fail
            exact absurd HG.out (not_all HX.out)
          · have hx : hexaB rv[i] = true := by unfold hexaB; rw [hd1, decide_eq_true (show 97 ≤ rv[i].toNat by omega), decide_eq_true (show rv[i].toNat ≤ 102 by omega)]; rfl
            have HX := Aside0.mk hx
            have HP1 := Aside0.mk hd1
            have g102 : decide (102 < (rv[i].toNat : Int)) = false := decide_eq_false (by omega)
            clear hx hd1 h97 h102
            go_wp2_with fail
            refine (HC _).out.mono ?_
            rintro e w' ⟨he, ⟨nd, rfl⟩⟩
            rw [HP1.out] at he
            subst he
            go_wp2_with fail
            go_roundw
            case rel => first | exact ⟨i + 1, q + nd, by go_num, rfl, by omega, ⟨HN.out HX.out⟩⟩ | ((repeat apply Exists.intro); exact ⟨⟨i + 1, _, by go_num, rfl, by omega, ⟨HN.out HX.out⟩⟩, rfl⟩)
            case measure => simp [intOf]; omega
    · obtain rfl : i = rv.size := by omega
      go_wp2_with fail
      go_ret3
      exact ⟨rfl, by repeat (first | exact HB.out | apply below_alloc | apply pw_below_drewN | apply below_drew1)⟩

set_option maxRecDepth 100000 in
set_option maxHeartbeats 8000000 in
theorem ref_f (s : ByteArray) (a b c : Int) (p m : ByteArray) (er : Int) (w : World) (HP : PC2 s a b c p m er w) (he : (er != 0) = false) (n m14 m15 : Nat) (hn : n ≤ p.size) (hw : wrap64 ((p.size : Int) - 27) = (n : Int)) (hn0 : decide ((n : Int) < 0) = false) (hw14 : wrap64 ((n : Int) + 14) = (m14 : Int)) (hw15 : wrap64 ((n : Int) + 15) = (m15 : Int)) (h14 : m14 < p.size) (h14n : n ≤ m14) (h15 : m15 ≤ p.size)
    (t rv hd : ByteArray) (ht : p.extract n m14 = t) (hr : p.extract m15 p.size = rv) (hh : p.extract 0 n = hd) (HD : ∀ W : World, Aside0 (Calls Tryd.prog 45 #[.string t] W fun e w1 => e = .returned (.bool (everyB digB t)) ∧ Drawn0 W w1)) (F1 : Aside0 (everyB digB t = true)) (hb : ((p[m14].toNat : Int) != 45) = false) (hz : rv.size ≤ 140737488351232) (HG : Aside0 ((L rv).all hexaB = true)) (h1 : hd.toList.isEmpty = false) (h2 : hd.toList = [48, 46]) :
    RC2 s t rv true w := by
  unfold RC2
  unfold PC2 at HP
  go_enter Tryd.func16, Tryd.ntmps16
  go_wp2_with fail
  refine HP.out.mono ?_
  rintro e w1 ⟨rfl, hb1⟩
  have HB := Aside0.mk hb1
  clear hb1
  go_wp2_with fail
  refine (HD _).out.mono ?_
  rintro e w3 ⟨he3, ⟨ndHD, rfl⟩⟩
  rw [F1.out] at he3
  subst he3
  go_wp2_with fail
  rw [hw14]
  go_loopw [10] (fun vi wr => ∃ i q : Nat, vi = .int .i64 i ∧ wr = ((w1.alloc (Obj.cells #[.int .i64 a, .int .i64 b, .int .i64 c, .string p, .string m] 27)).drewN q) ∧ i ≤ rv.size ∧ Aside0 (((L rv).take i).all hexaB = true)) (fun vi _ => rv.size - (intOf vi).toNat)
  case atStart => exact ⟨0, _, rfl, rfl, Nat.zero_le _, ⟨rfl⟩⟩
  case round =>
    obtain ⟨i, q, rfl, rfl, hi, HA⟩ := hrel
    by_cases hlt : i < rv.size
    · have HC := fun W => Aside0.mk (rdigit_calls rv[i] W)
      have hnext : hexaB rv[i] = true → ((L rv).take (i + 1)).all hexaB = true := fun h => by
        have hlL : i < (L rv).length := by rw [L_length]; exact hlt
        rw [List.take_succ_eq_append_getElem hlL, List.all_append, HA.out]
        simp only [List.all_cons, List.all_nil, Bool.and_true, Bool.true_and]
        exact h
      have HN := Aside0.mk hnext
      clear hnext
      cases hd1 : digB rv[i] with
      | true =>
        have hx : hexaB rv[i] = true := by unfold hexaB; rw [hd1]; rfl
        have HX := Aside0.mk hx
        have HP1 := Aside0.mk hd1
        clear hx hd1
        go_wp2_with fail
        refine (HC _).out.mono ?_
        rintro e w' ⟨he, ⟨nd, rfl⟩⟩
        rw [HP1.out] at he
        subst he
        go_wp2_with fail
        go_roundw
        case rel => first | exact ⟨i + 1, q + nd, by go_num, rfl, by omega, ⟨HN.out HX.out⟩⟩ | ((repeat apply Exists.intro); exact ⟨⟨i + 1, _, by go_num, rfl, by omega, ⟨HN.out HX.out⟩⟩, rfl⟩)
        case measure => simp [intOf]; omega
      | false =>
        by_cases h97 : (rv[i].toNat : Int) < 97
        · have hx : hexaB rv[i] = false := by unfold hexaB; rw [hd1, decide_eq_false (show ¬ 97 ≤ rv[i].toNat by omega)]; rfl
          have HX := Aside0.mk hx
          have HP1 := Aside0.mk hd1
          have g97 : decide ((rv[i].toNat : Int) < 97) = true := decide_eq_true h97
          clear hx hd1 h97
          go_wp2_with fail
          refine (HC _).out.mono ?_
          rintro e w' ⟨he, ⟨nd, rfl⟩⟩
          rw [HP1.out] at he
          subst he
          go_wp2_with fail
          exact absurd HG.out (not_all HX.out)
        · have g97 : decide ((rv[i].toNat : Int) < 97) = false := decide_eq_false h97
          by_cases h102 : (rv[i].toNat : Int) > 102
          · have hx : hexaB rv[i] = false := by unfold hexaB; rw [hd1, decide_eq_false (show ¬ rv[i].toNat ≤ 102 by omega)]; simp
            have HX := Aside0.mk hx
            have HP1 := Aside0.mk hd1
            have g102 : decide (102 < (rv[i].toNat : Int)) = true := decide_eq_true h102
            clear hx hd1 h97 h102
            go_wp2_with fail
            refine (HC _).out.mono ?_
            rintro e w' ⟨he, ⟨nd, rfl⟩⟩
            rw [HP1.out] at he
            subst he
            go_wp2_with fail
            exact absurd HG.out (not_all HX.out)
          · have hx : hexaB rv[i] = true := by unfold hexaB; rw [hd1, decide_eq_true (show 97 ≤ rv[i].toNat by omega), decide_eq_true (show rv[i].toNat ≤ 102 by omega)]; rfl
            have HX := Aside0.mk hx
            have HP1 := Aside0.mk hd1
            have g102 : decide (102 < (rv[i].toNat : Int)) = false := decide_eq_false (by omega)
            clear hx hd1 h97 h102
            go_wp2_with fail
            refine (HC _).out.mono ?_
            rintro e w' ⟨he, ⟨nd, rfl⟩⟩
            rw [HP1.out] at he
            subst he
            go_wp2_with fail
            go_roundw
            case rel => first | exact ⟨i + 1, q + nd, by go_num, rfl, by omega, ⟨HN.out HX.out⟩⟩ | ((repeat apply Exists.intro); exact ⟨⟨i + 1, _, by go_num, rfl, by omega, ⟨HN.out HX.out⟩⟩, rfl⟩)
            case measure => simp [intOf]; omega
    · obtain rfl : i = rv.size := by omega
      go_wp2_with fail
      go_ret3
      exact ⟨rfl, by repeat (first | exact HB.out | apply below_alloc | apply pw_below_drewN | apply below_drew1)⟩

set_option maxRecDepth 100000 in
set_option maxHeartbeats 8000000 in
theorem ref_g (s : ByteArray) (a b c : Int) (p m : ByteArray) (er : Int) (w : World) (HP : PC2 s a b c p m er w) (he : (er != 0) = false) (n m14 m15 : Nat) (hn : n ≤ p.size) (hw : wrap64 ((p.size : Int) - 27) = (n : Int)) (hn0 : decide ((n : Int) < 0) = false) (hw14 : wrap64 ((n : Int) + 14) = (m14 : Int)) (hw15 : wrap64 ((n : Int) + 15) = (m15 : Int)) (h14 : m14 < p.size) (h14n : n ≤ m14) (h15 : m15 ≤ p.size)
    (t rv hd : ByteArray) (ht : p.extract n m14 = t) (hr : p.extract m15 p.size = rv) (hh : p.extract 0 n = hd) (HD : ∀ W : World, Aside0 (Calls Tryd.prog 45 #[.string t] W fun e w1 => e = .returned (.bool (everyB digB t)) ∧ Drawn0 W w1)) (F1 : Aside0 (everyB digB t = true)) (hb : ((p[m14].toNat : Int) != 45) = false) (hz : rv.size ≤ 140737488351232) (HG : Aside0 ((L rv).all hexaB = true)) (h1 : hd.toList.isEmpty = false) (h2 : ¬ hd.toList = [48, 46]) (h2b : (hd.toList == [48, 46]) = false) (h3 : decide (3 < (hd.size : Int)) = false) :
    RC2 s ⟨#[]⟩ ⟨#[]⟩ false w := by
  unfold RC2
  unfold PC2 at HP
  go_enter Tryd.func16, Tryd.ntmps16
  go_wp2_with fail
  refine HP.out.mono ?_
  rintro e w1 ⟨rfl, hb1⟩
  have HB := Aside0.mk hb1
  clear hb1
  go_wp2_with fail
  refine (HD _).out.mono ?_
  rintro e w3 ⟨he3, ⟨ndHD, rfl⟩⟩
  rw [F1.out] at he3
  subst he3
  go_wp2_with fail
  rw [hw14]
  go_loopw [10] (fun vi wr => ∃ i q : Nat, vi = .int .i64 i ∧ wr = ((w1.alloc (Obj.cells #[.int .i64 a, .int .i64 b, .int .i64 c, .string p, .string m] 27)).drewN q) ∧ i ≤ rv.size ∧ Aside0 (((L rv).take i).all hexaB = true)) (fun vi _ => rv.size - (intOf vi).toNat)
  case atStart => exact ⟨0, _, rfl, rfl, Nat.zero_le _, ⟨rfl⟩⟩
  case round =>
    obtain ⟨i, q, rfl, rfl, hi, HA⟩ := hrel
    by_cases hlt : i < rv.size
    · have HC := fun W => Aside0.mk (rdigit_calls rv[i] W)
      have hnext : hexaB rv[i] = true → ((L rv).take (i + 1)).all hexaB = true := fun h => by
        have hlL : i < (L rv).length := by rw [L_length]; exact hlt
        rw [List.take_succ_eq_append_getElem hlL, List.all_append, HA.out]
        simp only [List.all_cons, List.all_nil, Bool.and_true, Bool.true_and]
        exact h
      have HN := Aside0.mk hnext
      clear hnext
      cases hd1 : digB rv[i] with
      | true =>
        have hx : hexaB rv[i] = true := by unfold hexaB; rw [hd1]; rfl
        have HX := Aside0.mk hx
        have HP1 := Aside0.mk hd1
        clear hx hd1
        go_wp2_with fail
        refine (HC _).out.mono ?_
        rintro e w' ⟨he, ⟨nd, rfl⟩⟩
        rw [HP1.out] at he
        subst he
        go_wp2_with fail
        go_roundw
        case rel => first | exact ⟨i + 1, q + nd, by go_num, rfl, by omega, ⟨HN.out HX.out⟩⟩ | ((repeat apply Exists.intro); exact ⟨⟨i + 1, _, by go_num, rfl, by omega, ⟨HN.out HX.out⟩⟩, rfl⟩)
        case measure => simp [intOf]; omega
      | false =>
        by_cases h97 : (rv[i].toNat : Int) < 97
        · have hx : hexaB rv[i] = false := by unfold hexaB; rw [hd1, decide_eq_false (show ¬ 97 ≤ rv[i].toNat by omega)]; rfl
          have HX := Aside0.mk hx
          have HP1 := Aside0.mk hd1
          have g97 : decide ((rv[i].toNat : Int) < 97) = true := decide_eq_true h97
          clear hx hd1 h97
          go_wp2_with fail
          refine (HC _).out.mono ?_
          rintro e w' ⟨he, ⟨nd, rfl⟩⟩
          rw [HP1.out] at he
          subst he
          go_wp2_with fail
          exact absurd HG.out (not_all HX.out)
        · have g97 : decide ((rv[i].toNat : Int) < 97) = false := decide_eq_false h97
          by_cases h102 : (rv[i].toNat : Int) > 102
          · have hx : hexaB rv[i] = false := by unfold hexaB; rw [hd1, decide_eq_false (show ¬ rv[i].toNat ≤ 102 by omega)]; simp
            have HX := Aside0.mk hx
            have HP1 := Aside0.mk hd1
            have g102 : decide (102 < (rv[i].toNat : Int)) = true := decide_eq_true h102
            clear hx hd1 h97 h102
            go_wp2_with fail
            refine (HC _).out.mono ?_
            rintro e w' ⟨he, ⟨nd, rfl⟩⟩
            rw [HP1.out] at he
            subst he
            go_wp2_with fail
            exact absurd HG.out (not_all HX.out)
          · have hx : hexaB rv[i] = true := by unfold hexaB; rw [hd1, decide_eq_true (show 97 ≤ rv[i].toNat by omega), decide_eq_true (show rv[i].toNat ≤ 102 by omega)]; rfl
            have HX := Aside0.mk hx
            have HP1 := Aside0.mk hd1
            have g102 : decide (102 < (rv[i].toNat : Int)) = false := decide_eq_false (by omega)
            clear hx hd1 h97 h102
            go_wp2_with fail
            refine (HC _).out.mono ?_
            rintro e w' ⟨he, ⟨nd, rfl⟩⟩
            rw [HP1.out] at he
            subst he
            go_wp2_with fail
            go_roundw
            case rel => first | exact ⟨i + 1, q + nd, by go_num, rfl, by omega, ⟨HN.out HX.out⟩⟩ | ((repeat apply Exists.intro); exact ⟨⟨i + 1, _, by go_num, rfl, by omega, ⟨HN.out HX.out⟩⟩, rfl⟩)
            case measure => simp [intOf]; omega
    · obtain rfl : i = rv.size := by omega
      go_wp2_with fail
      go_ret3
      exact ⟨rfl, by repeat (first | exact HB.out | apply below_alloc | apply pw_below_drewN | apply below_drew1)⟩

set_option maxRecDepth 100000 in
set_option maxHeartbeats 8000000 in
theorem ref_h (s : ByteArray) (a b c : Int) (p m : ByteArray) (er : Int) (w : World) (HP : PC2 s a b c p m er w) (he : (er != 0) = false) (n m14 m15 : Nat) (hn : n ≤ p.size) (hw : wrap64 ((p.size : Int) - 27) = (n : Int)) (hn0 : decide ((n : Int) < 0) = false) (hw14 : wrap64 ((n : Int) + 14) = (m14 : Int)) (hw15 : wrap64 ((n : Int) + 15) = (m15 : Int)) (h14 : m14 < p.size) (h14n : n ≤ m14) (h15 : m15 ≤ p.size)
    (t rv hd : ByteArray) (ht : p.extract n m14 = t) (hr : p.extract m15 p.size = rv) (hh : p.extract 0 n = hd) (HD : ∀ W : World, Aside0 (Calls Tryd.prog 45 #[.string t] W fun e w1 => e = .returned (.bool (everyB digB t)) ∧ Drawn0 W w1)) (F1 : Aside0 (everyB digB t = true)) (hb : ((p[m14].toNat : Int) != 45) = false) (hz : rv.size ≤ 140737488351232) (HG : Aside0 ((L rv).all hexaB = true)) (h1 : hd.toList.isEmpty = false) (h2 : ¬ hd.toList = [48, 46]) (h2b : (hd.toList == [48, 46]) = false) (h3 : decide (3 < (hd.size : Int)) = true) (k : Nat) (hk : wrap64 ((hd.size : Int) - 3) = (k : Int)) (hk2 : k ≤ hd.size) (sx : ByteArray) (hsx : hd.extract k hd.size = sx) (h4 : ¬ sx.toList = [46, 48, 46]) (h4b : (sx.toList == [46, 48, 46]) = false) :
    RC2 s ⟨#[]⟩ ⟨#[]⟩ false w := by
  unfold RC2
  unfold PC2 at HP
  go_enter Tryd.func16, Tryd.ntmps16
  go_wp2_with fail
  refine HP.out.mono ?_
  rintro e w1 ⟨rfl, hb1⟩
  have HB := Aside0.mk hb1
  clear hb1
  go_wp2_with fail
  refine (HD _).out.mono ?_
  rintro e w3 ⟨he3, ⟨ndHD, rfl⟩⟩
  rw [F1.out] at he3
  subst he3
  go_wp2_with fail
  rw [hw14]
  go_loopw [10] (fun vi wr => ∃ i q : Nat, vi = .int .i64 i ∧ wr = ((w1.alloc (Obj.cells #[.int .i64 a, .int .i64 b, .int .i64 c, .string p, .string m] 27)).drewN q) ∧ i ≤ rv.size ∧ Aside0 (((L rv).take i).all hexaB = true)) (fun vi _ => rv.size - (intOf vi).toNat)
  case atStart => exact ⟨0, _, rfl, rfl, Nat.zero_le _, ⟨rfl⟩⟩
  case round =>
    obtain ⟨i, q, rfl, rfl, hi, HA⟩ := hrel
    by_cases hlt : i < rv.size
    · have HC := fun W => Aside0.mk (rdigit_calls rv[i] W)
      have hnext : hexaB rv[i] = true → ((L rv).take (i + 1)).all hexaB = true := fun h => by
        have hlL : i < (L rv).length := by rw [L_length]; exact hlt
        rw [List.take_succ_eq_append_getElem hlL, List.all_append, HA.out]
        simp only [List.all_cons, List.all_nil, Bool.and_true, Bool.true_and]
        exact h
      have HN := Aside0.mk hnext
      clear hnext
      cases hd1 : digB rv[i] with
      | true =>
        have hx : hexaB rv[i] = true := by unfold hexaB; rw [hd1]; rfl
        have HX := Aside0.mk hx
        have HP1 := Aside0.mk hd1
        clear hx hd1
        go_wp2_with fail
        refine (HC _).out.mono ?_
        rintro e w' ⟨he, ⟨nd, rfl⟩⟩
        rw [HP1.out] at he
        subst he
        go_wp2_with fail
        go_roundw
        case rel => first | exact ⟨i + 1, q + nd, by go_num, rfl, by omega, ⟨HN.out HX.out⟩⟩ | ((repeat apply Exists.intro); exact ⟨⟨i + 1, _, by go_num, rfl, by omega, ⟨HN.out HX.out⟩⟩, rfl⟩)
        case measure => simp [intOf]; omega
      | false =>
        by_cases h97 : (rv[i].toNat : Int) < 97
        · have hx : hexaB rv[i] = false := by unfold hexaB; rw [hd1, decide_eq_false (show ¬ 97 ≤ rv[i].toNat by omega)]; rfl
          have HX := Aside0.mk hx
          have HP1 := Aside0.mk hd1
          have g97 : decide ((rv[i].toNat : Int) < 97) = true := decide_eq_true h97
          clear hx hd1 h97
          go_wp2_with fail
          refine (HC _).out.mono ?_
          rintro e w' ⟨he, ⟨nd, rfl⟩⟩
          rw [HP1.out] at he
          subst he
          go_wp2_with fail
          exact absurd HG.out (not_all HX.out)
        · have g97 : decide ((rv[i].toNat : Int) < 97) = false := decide_eq_false h97
          by_cases h102 : (rv[i].toNat : Int) > 102
          · have hx : hexaB rv[i] = false := by unfold hexaB; rw [hd1, decide_eq_false (show ¬ rv[i].toNat ≤ 102 by omega)]; simp
            have HX := Aside0.mk hx
            have HP1 := Aside0.mk hd1
            have g102 : decide (102 < (rv[i].toNat : Int)) = true := decide_eq_true h102
            clear hx hd1 h97 h102
            go_wp2_with fail
            refine (HC _).out.mono ?_
            rintro e w' ⟨he, ⟨nd, rfl⟩⟩
            rw [HP1.out] at he
            subst he
            go_wp2_with fail
            exact absurd HG.out (not_all HX.out)
          · have hx : hexaB rv[i] = true := by unfold hexaB; rw [hd1, decide_eq_true (show 97 ≤ rv[i].toNat by omega), decide_eq_true (show rv[i].toNat ≤ 102 by omega)]; rfl
            have HX := Aside0.mk hx
            have HP1 := Aside0.mk hd1
            have g102 : decide (102 < (rv[i].toNat : Int)) = false := decide_eq_false (by omega)
            clear hx hd1 h97 h102
            go_wp2_with fail
            refine (HC _).out.mono ?_
            rintro e w' ⟨he, ⟨nd, rfl⟩⟩
            rw [HP1.out] at he
            subst he
            go_wp2_with fail
            go_roundw
            case rel => first | exact ⟨i + 1, q + nd, by go_num, rfl, by omega, ⟨HN.out HX.out⟩⟩ | ((repeat apply Exists.intro); exact ⟨⟨i + 1, _, by go_num, rfl, by omega, ⟨HN.out HX.out⟩⟩, rfl⟩)
            case measure => simp [intOf]; omega
    · obtain rfl : i = rv.size := by omega
      go_wp2_with fail
      go_ret3
      exact ⟨rfl, by repeat (first | exact HB.out | apply below_alloc | apply pw_below_drewN | apply below_drew1)⟩

set_option maxRecDepth 100000 in
set_option maxHeartbeats 8000000 in
theorem ref_i (s : ByteArray) (a b c : Int) (p m : ByteArray) (er : Int) (w : World) (HP : PC2 s a b c p m er w) (he : (er != 0) = false) (n m14 m15 : Nat) (hn : n ≤ p.size) (hw : wrap64 ((p.size : Int) - 27) = (n : Int)) (hn0 : decide ((n : Int) < 0) = false) (hw14 : wrap64 ((n : Int) + 14) = (m14 : Int)) (hw15 : wrap64 ((n : Int) + 15) = (m15 : Int)) (h14 : m14 < p.size) (h14n : n ≤ m14) (h15 : m15 ≤ p.size)
    (t rv hd : ByteArray) (ht : p.extract n m14 = t) (hr : p.extract m15 p.size = rv) (hh : p.extract 0 n = hd) (HD : ∀ W : World, Aside0 (Calls Tryd.prog 45 #[.string t] W fun e w1 => e = .returned (.bool (everyB digB t)) ∧ Drawn0 W w1)) (F1 : Aside0 (everyB digB t = true)) (hb : ((p[m14].toNat : Int) != 45) = false) (hz : rv.size ≤ 140737488351232) (HG : Aside0 ((L rv).all hexaB = true)) (h1 : hd.toList.isEmpty = false) (h2 : ¬ hd.toList = [48, 46]) (h2b : (hd.toList == [48, 46]) = false) (h3 : decide (3 < (hd.size : Int)) = true) (k : Nat) (hk : wrap64 ((hd.size : Int) - 3) = (k : Int)) (hk2 : k ≤ hd.size) (sx : ByteArray) (hsx : hd.extract k hd.size = sx) (h4 : sx.toList = [46, 48, 46]) :
    RC2 s t rv true w := by
  unfold RC2
  unfold PC2 at HP
  go_enter Tryd.func16, Tryd.ntmps16
  go_wp2_with fail
  refine HP.out.mono ?_
  rintro e w1 ⟨rfl, hb1⟩
  have HB := Aside0.mk hb1
  clear hb1
  go_wp2_with fail
  refine (HD _).out.mono ?_
  rintro e w3 ⟨he3, ⟨ndHD, rfl⟩⟩
  rw [F1.out] at he3
  subst he3
  go_wp2_with fail
  rw [hw14]
  go_loopw [10] (fun vi wr => ∃ i q : Nat, vi = .int .i64 i ∧ wr = ((w1.alloc (Obj.cells #[.int .i64 a, .int .i64 b, .int .i64 c, .string p, .string m] 27)).drewN q) ∧ i ≤ rv.size ∧ Aside0 (((L rv).take i).all hexaB = true)) (fun vi _ => rv.size - (intOf vi).toNat)
  case atStart => exact ⟨0, _, rfl, rfl, Nat.zero_le _, ⟨rfl⟩⟩
  case round =>
    obtain ⟨i, q, rfl, rfl, hi, HA⟩ := hrel
    by_cases hlt : i < rv.size
    · have HC := fun W => Aside0.mk (rdigit_calls rv[i] W)
      have hnext : hexaB rv[i] = true → ((L rv).take (i + 1)).all hexaB = true := fun h => by
        have hlL : i < (L rv).length := by rw [L_length]; exact hlt
        rw [List.take_succ_eq_append_getElem hlL, List.all_append, HA.out]
        simp only [List.all_cons, List.all_nil, Bool.and_true, Bool.true_and]
        exact h
      have HN := Aside0.mk hnext
      clear hnext
      cases hd1 : digB rv[i] with
      | true =>
        have hx : hexaB rv[i] = true := by unfold hexaB; rw [hd1]; rfl
        have HX := Aside0.mk hx
        have HP1 := Aside0.mk hd1
        clear hx hd1
        go_wp2_with fail
        refine (HC _).out.mono ?_
        rintro e w' ⟨he, ⟨nd, rfl⟩⟩
        rw [HP1.out] at he
        subst he
        go_wp2_with fail
        go_roundw
        case rel => first | exact ⟨i + 1, q + nd, by go_num, rfl, by omega, ⟨HN.out HX.out⟩⟩ | ((repeat apply Exists.intro); exact ⟨⟨i + 1, _, by go_num, rfl, by omega, ⟨HN.out HX.out⟩⟩, rfl⟩)
        case measure => simp [intOf]; omega
      | false =>
        by_cases h97 : (rv[i].toNat : Int) < 97
        · have hx : hexaB rv[i] = false := by unfold hexaB; rw [hd1, decide_eq_false (show ¬ 97 ≤ rv[i].toNat by omega)]; rfl
          have HX := Aside0.mk hx
          have HP1 := Aside0.mk hd1
          have g97 : decide ((rv[i].toNat : Int) < 97) = true := decide_eq_true h97
          clear hx hd1 h97
          go_wp2_with fail
          refine (HC _).out.mono ?_
          rintro e w' ⟨he, ⟨nd, rfl⟩⟩
          rw [HP1.out] at he
          subst he
          go_wp2_with fail
          exact absurd HG.out (not_all HX.out)
        · have g97 : decide ((rv[i].toNat : Int) < 97) = false := decide_eq_false h97
          by_cases h102 : (rv[i].toNat : Int) > 102
          · have hx : hexaB rv[i] = false := by unfold hexaB; rw [hd1, decide_eq_false (show ¬ rv[i].toNat ≤ 102 by omega)]; simp
            have HX := Aside0.mk hx
            have HP1 := Aside0.mk hd1
            have g102 : decide (102 < (rv[i].toNat : Int)) = true := decide_eq_true h102
            clear hx hd1 h97 h102
            go_wp2_with fail
            refine (HC _).out.mono ?_
            rintro e w' ⟨he, ⟨nd, rfl⟩⟩
            rw [HP1.out] at he
            subst he
            go_wp2_with fail
            exact absurd HG.out (not_all HX.out)
          · have hx : hexaB rv[i] = true := by unfold hexaB; rw [hd1, decide_eq_true (show 97 ≤ rv[i].toNat by omega), decide_eq_true (show rv[i].toNat ≤ 102 by omega)]; rfl
            have HX := Aside0.mk hx
            have HP1 := Aside0.mk hd1
            have g102 : decide (102 < (rv[i].toNat : Int)) = false := decide_eq_false (by omega)
            clear hx hd1 h97 h102
            go_wp2_with fail
            refine (HC _).out.mono ?_
            rintro e w' ⟨he, ⟨nd, rfl⟩⟩
            rw [HP1.out] at he
            subst he
            go_wp2_with fail
            go_roundw
            case rel => first | exact ⟨i + 1, q + nd, by go_num, rfl, by omega, ⟨HN.out HX.out⟩⟩ | ((repeat apply Exists.intro); exact ⟨⟨i + 1, _, by go_num, rfl, by omega, ⟨HN.out HX.out⟩⟩, rfl⟩)
            case measure => simp [intOf]; omega
    · obtain rfl : i = rv.size := by omega
      go_wp2_with fail
      go_ret3
      exact ⟨rfl, by repeat (first | exact HB.out | apply below_alloc | apply pw_below_drewN | apply below_drew1)⟩

/-- The tail of 27 bytes, cut at its first dash or at its place. -/
theorem tail_is {t : ByteArray} {A R : List UInt8} {x : UInt8} (hl : L t = A ++ x :: R) (hA : A.length = 14) (hR : R.length = 12) :
    tailB t = true ↔ (everyB digB (ofL A) = true ∧ x = 45 ∧ R.all hexaB = true) := by
  have n45 : ∀ l : List UInt8, l.all digB = true → (45 : UInt8) ∉ l := fun l h e => by
    have := List.all_eq_true.1 h _ e
    exact absurd this (by decide)
  have hE : ∀ (p : UInt8 → Bool) (l : List UInt8), l ≠ [] → everyB p (ofL l) = l.all p := fun p l h2 => by
    unfold everyB
    rw [L_ofL]
    cases l with
    | nil => exact absurd rfl h2
    | cons x l => simp
  have hAn : A ≠ [] := fun e => by rw [e] at hA; cases hA
  have hRn : R ≠ [] := fun e => by rw [e] at hR; cases hR
  rw [hE digB A hAn]
  unfold tailB
  rw [Bool.and_eq_true, Bool.and_eq_true, Bool.and_eq_true, decide_eq_true_eq]
  constructor
  · rintro ⟨⟨⟨h1, h2⟩, h3⟩, h4⟩
    have hm := (cutF_mem 45 t).1 h1
    have hc : L (cutA 45 t) = (L t).takeWhile (· != 45) := L_cutA 45 t
    have hsz : (L (cutA 45 t)).length = 14 := by rw [L_length, h2]
    have hI : 0 ≤ cutI 45 t := of_decide_eq_true h1
    have hsp := (index_split 45 (L t) hI).1
    have hcB : L (cutB 45 t) = (L t).drop 15 := by
      have e : (cutI 45 t).toNat = 14 := by
        have : L (cutA 45 t) = (L t).take (cutI 45 t).toNat := by unfold cutA; rw [if_pos hI, L_head]
        rw [this, List.length_take] at hsz
        have := cutI_lt 45 t
        rw [L_length] at hsz
        omega
      unfold cutB
      rw [if_pos hI, L_tail, show (cutI 45 t + 1).toNat = 15 from by omega]
    have hcA : L (cutA 45 t) = A ∧ x = 45 := by
      by_cases ha : (45 : UInt8) ∈ A
      · exfalso
        have h6 : ((L t).takeWhile (· != 45)).length < 14 := by
          obtain ⟨p, q, e⟩ := List.append_of_mem ha
          have hp : ∀ l m : List UInt8, (l ++ 45 :: m).takeWhile (· != 45) = l.takeWhile (· != 45) := fun l m => by
            induction l with
            | nil => simp
            | cons y l ih =>
              rw [List.cons_append, List.takeWhile_cons, List.takeWhile_cons, ih]
          rw [hl, e, List.append_assoc, List.cons_append, hp]
          have h7 : (p.takeWhile (· != 45)).length ≤ p.length := by
            have := List.takeWhile_prefix (p := fun y : UInt8 => y != 45) (l := p)
            exact this.length_le
          rw [e] at hA
          simp at hA
          omega
        rw [hc] at hsz
        omega
      · by_cases hx : x = 45
        · subst hx
          rw [hc, hl, takeWhile_split R ha]
          exact ⟨rfl, rfl⟩
        · exfalso
          rw [hc, hl, show A ++ x :: R = (A ++ [x]) ++ R from by simp] at hsz
          have h8 : ∀ l m : List UInt8, (45 : UInt8) ∉ l → l.length ≤ ((l ++ m).takeWhile (· != 45)).length := fun l m h => by
            induction l with
            | nil => exact Nat.zero_le _
            | cons y l ih =>
              have hy : y ≠ 45 := fun e => h (by rw [e]; exact List.mem_cons_self)
              rw [List.cons_append, List.takeWhile_cons, if_pos (by rw [bne_iff_ne]; exact hy), List.length_cons, List.length_cons]
              have := ih (fun e => h (List.mem_cons_of_mem _ e))
              omega
          have := h8 (A ++ [x]) R (fun h => by
            rcases List.mem_append.1 h with h | h
            · exact ha h
            · exact hx (List.mem_singleton.1 h).symm)
          rw [@List.length_append _ A [x], List.length_singleton] at this
          omega
    refine ⟨?_, hcA.2, ?_⟩
    · have := h3
      unfold everyB at this
      rw [hcA.1, Bool.and_eq_true] at this
      exact this.1
    · have := h4
      unfold everyB at this
      rw [hcB, hl, Bool.and_eq_true] at this
      have e : (A ++ x :: R).drop 15 = R := by
        rw [show A ++ x :: R = (A ++ [x]) ++ R from by simp, List.drop_append, List.drop_of_length_le (by simp; omega)]
        simp [hA]
      rw [e] at this
      exact this.1
  · rintro ⟨h1, rfl, h3⟩
    have ha := n45 A h1
    have e1 : cutA 45 t = ofL A := L_inj (by rw [L_cutA, hl, L_ofL, takeWhile_split R ha])
    have e2 : cutB 45 t = ofL R := by
      have hF : 0 ≤ cutI 45 t := of_decide_eq_true ((cutF_mem 45 t).2 (by rw [hl]; simp))
      refine L_inj ?_
      have e : (cutI 45 t).toNat = 14 := by
        have h5 : L (cutA 45 t) = (L t).take (cutI 45 t).toNat := by unfold cutA; rw [if_pos hF, L_head]
        have h6 : (L (cutA 45 t)).length = 14 := by rw [e1, L_ofL, hA]
        rw [h5, List.length_take] at h6
        have := cutI_lt 45 t
        rw [L_length] at h6
        omega
      unfold cutB
      rw [if_pos hF, L_tail, show (cutI 45 t + 1).toNat = 15 from by omega, hl, L_ofL, show A ++ 45 :: R = (A ++ [45]) ++ R from by simp, List.drop_append, List.drop_of_length_le (by simp; omega)]
      simp [hA]
    refine ⟨⟨⟨(cutF_mem 45 t).2 (by rw [hl]; simp), by rw [e1, size_ofL, hA]⟩, ?_⟩, ?_⟩
    · rw [e1, hE digB A hAn]; exact h1
    · rw [e2, hE hexaB R hRn]; exact h3

theorem tail_cuts {t : ByteArray} {A R : List UInt8} (hl : L t = A ++ 45 :: R) (hA : A.length = 14) (h1 : everyB digB (ofL A) = true) : cutA 45 t = ofL A ∧ cutB 45 t = ofL R := by
  have ha : (45 : UInt8) ∉ A := fun e => by
    unfold everyB at h1
    rw [L_ofL, Bool.and_eq_true] at h1
    exact absurd (List.all_eq_true.1 h1.1 _ e) (by decide)
  have e1 : cutA 45 t = ofL A := L_inj (by rw [L_cutA, hl, L_ofL, takeWhile_split R ha])
  refine ⟨e1, L_inj ?_⟩
  have hF : 0 ≤ cutI 45 t := of_decide_eq_true ((cutF_mem 45 t).2 (by rw [hl]; simp))
  have e : (cutI 45 t).toNat = 14 := by
    have h5 : L (cutA 45 t) = (L t).take (cutI 45 t).toNat := by unfold cutA; rw [if_pos hF, L_head]
    have h6 : (L (cutA 45 t)).length = 14 := by rw [e1, L_ofL, hA]
    rw [h5, List.length_take] at h6
    have := cutI_lt 45 t
    rw [L_length] at h6
    omega
  unfold cutB
  rw [if_pos hF, L_tail, show (cutI 45 t + 1).toNat = 15 from by omega, hl, L_ofL, show A ++ 45 :: R = (A ++ [45]) ++ R from by simp, List.drop_append, List.drop_of_length_le (by simp; omega)]
  simp [hA]

theorem RefPseudo_calls (s : ByteArray) (hs : s.size ≤ 140737488351232) (w : World) :
    Calls Tryd.prog 16 #[.string s] w fun e w' => e = .returned (.tuple #[.string (psF s).1, .string (psF s).2.1, .bool (psF s).2.2]) ∧ Below w.heap.size w w' := by
  have HP0 := SemRefParse.RefParse_calls s hs w
  have hpz : (parseF s).2.2.2.1.size ≤ 60 := by
    unfold parseF
    split
    · rename_i h
      show (preOf (s.extract 1 s.size)).size ≤ 60
      have h1 := cutB_le 45 (cutA 43 (s.extract 1 s.size))
      have h2 := cutA_le 43 (s.extract 1 s.size)
      have h3 : (s.extract 1 s.size).size ≤ s.size := by rw [ByteArray.size_extract]; omega
      unfold preOf; omega
    · exact Nat.zero_le _
  unfold psF
  generalize parseF s = q at HP0 hpz ⊢
  obtain ⟨a, b, c, p, m, er⟩ := q
  have HP : PC2 s a b c p m er w := ⟨HP0⟩
  clear HP0
  show RC2 s _ _ _ w
  dsimp only at hpz ⊢
  by_cases he : er = 0
  · rw [if_pos he]
    have he1 : (er != 0) = false := by rw [he]; rfl
    by_cases h27 : 27 ≤ p.size
    · have hn : p.size - 27 ≤ p.size := by omega
      have hw : wrap64 ((p.size : Int) - 27) = ((p.size - 27 : Nat) : Int) := by unfold wrap64; omega
      have hn0 : decide ((((p.size - 27 : Nat) : Int)) < 0) = false := decide_eq_false (by omega)
      have hw14 : wrap64 (((p.size - 27 : Nat) : Int) + 14) = ((p.size - 13 : Nat) : Int) := by unfold wrap64; omega
      have hw15 : wrap64 (((p.size - 27 : Nat) : Int) + 15) = ((p.size - 12 : Nat) : Int) := by unfold wrap64; omega
      have h14 : p.size - 13 < p.size := by omega
      have HD := fun W => rdigits_calls (p.extract (p.size - 27) (p.size - 13)) (by rw [ByteArray.size_extract]; omega) W
      have z2 : (p.extract (p.size - 12) p.size).size ≤ 140737488351232 := by rw [ByteArray.size_extract]; omega
      have z3 : (p.extract 0 (p.size - 27)).size ≤ 60 := by rw [ByteArray.size_extract]; omega
      -- the tail's three parts
      have hx : ∃ A R : List UInt8, ∃ x : UInt8, L (p.extract (p.size - 27) p.size) = A ++ x :: R ∧ A.length = 14 ∧ R.length = 12 ∧ p.extract (p.size - 27) (p.size - 13) = ofL A ∧ p.extract (p.size - 12) p.size = ofL R ∧ p[p.size - 13] = x := by
        have hLp := L_length p
        refine ⟨((L p).drop (p.size - 27)).take 14, (L p).drop (p.size - 12), p[p.size - 13], ?_, ?_, ?_, ?_, ?_, rfl⟩
        · rw [L_tail]
          have e1 : (L p).drop (p.size - 12) = ((L p).drop (p.size - 27)).drop 15 := by rw [List.drop_drop]; congr 1; omega
          have e2 : ((L p).drop (p.size - 27)).drop 14 = p[p.size - 13] :: ((L p).drop (p.size - 27)).drop 15 := by
            rw [List.drop_drop, List.drop_drop, show p.size - 27 + 14 = p.size - 13 from by omega, show p.size - 27 + 15 = p.size - 13 + 1 from by omega]
            exact List.drop_eq_getElem_cons (by rw [L_length]; omega)
          rw [e1, ← e2, List.take_append_drop]
        · rw [List.length_take, List.length_drop, hLp]; omega
        · rw [List.length_drop, hLp]; omega
        · refine L_inj ?_
          rw [L_extract, L_ofL, show p.size - 13 - (p.size - 27) = 14 from by omega]
        · exact L_inj (by rw [L_tail, L_ofL])
      obtain ⟨A, R, x, hl, hA, hR, eA, eR, ex⟩ := hx
      have hti := tail_is hl hA hR
      have key : ∀ (is : Bool), is = true → True := fun _ _ => trivial
      clear key
      unfold psP
      -- one way after another
      cases hdg : everyB digB (ofL A) with
      | false =>
        rw [if_neg (fun h => by have := (hti.1 h.2.1).1; rw [hdg] at this; cases this)]
        exact ref_c s a b c p m er w HP he1 _ _ _ hn hw hn0 hw14 hw15 h14 (by omega) (by omega) _ _ _ rfl rfl rfl (fun W => ⟨HD W⟩) ⟨by rw [eA]; exact hdg⟩
      | true =>
        by_cases hx45 : x = 45
        · subst hx45
          have hb : ((p[p.size - 13].toNat : Int) != 45) = false := by rw [ex]; rfl
          cases hhx : R.all hexaB with
          | false =>
            rw [if_neg (fun h => by have := (hti.1 h.2.1).2.2; rw [hhx] at this; cases this)]
            exact ref_x s a b c p m er w HP he1 _ _ _ hn hw hn0 hw14 hw15 h14 (by omega) (by omega) _ _ _ rfl rfl rfl (fun W => ⟨HD W⟩) ⟨by rw [eA]; exact hdg⟩ hb z2 ⟨by rw [eR, L_ofL]; exact hhx⟩
          | true =>
            obtain ⟨c1, c2⟩ := tail_cuts hl hA hdg
            have ht : tailB (p.extract (p.size - 27) p.size) = true := hti.2 ⟨hdg, rfl, hhx⟩
            have G1 : Aside0 (everyB digB (p.extract (p.size - 27) (p.size - 13)) = true) := ⟨by rw [eA]; exact hdg⟩
            have G2 : Aside0 ((L (p.extract (p.size - 12) p.size)).all hexaB = true) := ⟨by rw [eR, L_ofL]; exact hhx⟩
            rw [c1, c2, ← eA, ← eR]
            unfold headB
            generalize hhd : p.extract 0 (p.size - 27) = hd at z3 ⊢
            by_cases g1 : hd.toList = []
            · rw [if_pos ⟨h27, ht, by rw [beq_iff_eq.2 g1]; rfl⟩]
              exact ref_e s a b c p m er w HP he1 _ _ _ hn hw hn0 hw14 hw15 h14 (by omega) (by omega) _ _ hd rfl rfl hhd (fun W => ⟨HD W⟩) G1 hb z2 G2 (by rw [g1]; rfl)
            · have i1 : hd.toList.isEmpty = false := by
                cases hl : hd.toList with
                | nil => exact absurd hl g1
                | cons x y => rfl
              by_cases g2 : hd.toList = [48, 46]
              · rw [if_pos ⟨h27, ht, by rw [beq_iff_eq.2 g2]; simp⟩]
                exact ref_f s a b c p m er w HP he1 _ _ _ hn hw hn0 hw14 hw15 h14 (by omega) (by omega) _ _ hd rfl rfl hhd (fun W => ⟨HD W⟩) G1 hb z2 G2 i1 g2
              · have i2 : (hd.toList == [48, 46]) = false := beq_eq_false_iff_ne.2 g2
                have i3 : (hd.toList == ([] : List UInt8)) = false := beq_eq_false_iff_ne.2 g1
                by_cases g3 : 4 ≤ hd.size
                · have hk : wrap64 ((hd.size : Int) - 3) = ((hd.size - 3 : Nat) : Int) := by unfold wrap64; omega
                  have hex : (hd.extract (hd.size - 3) hd.size).toList = (L hd).drop (hd.size - 3) := by rw [toList_L, L_tail]
                  by_cases g4 : (L hd).drop (hd.size - 3) = [46, 48, 46]
                  · rw [if_pos ⟨h27, ht, by rw [i2, i3, decide_eq_true g3, decide_eq_true g4]; rfl⟩]
                    exact ref_i s a b c p m er w HP he1 _ _ _ hn hw hn0 hw14 hw15 h14 (by omega) (by omega) _ _ hd rfl rfl hhd (fun W => ⟨HD W⟩) G1 hb z2 G2 i1 g2 i2 (decide_eq_true (by omega)) _ hk (by omega) _ rfl (by rw [hex]; exact g4)
                  · rw [if_neg (fun h => by have := h.2.2; rw [i2, i3, decide_eq_false g4] at this; simp at this)]
                    exact ref_h s a b c p m er w HP he1 _ _ _ hn hw hn0 hw14 hw15 h14 (by omega) (by omega) _ _ hd rfl rfl hhd (fun W => ⟨HD W⟩) G1 hb z2 G2 i1 g2 i2 (decide_eq_true (by omega)) _ hk (by omega) _ rfl (by rw [hex]; exact g4) (by rw [hex]; exact beq_eq_false_iff_ne.2 g4)
                · rw [if_neg (fun h => by have := h.2.2; rw [i2, i3, decide_eq_false g3] at this; simp at this)]
                  exact ref_g s a b c p m er w HP he1 _ _ _ hn hw hn0 hw14 hw15 h14 (by omega) (by omega) _ _ hd rfl rfl hhd (fun W => ⟨HD W⟩) G1 hb z2 G2 i1 g2 i2 (decide_eq_false (by omega))
        · rw [if_neg (fun h => hx45 (hti.1 h.2.1).2.1)]
          exact ref_d s a b c p m er w HP he1 _ _ _ hn hw hn0 hw14 hw15 h14 (by omega) (by omega) _ _ _ rfl rfl rfl (fun W => ⟨HD W⟩) ⟨by rw [eA]; exact hdg⟩ (by rw [bne_iff_ne, ex]; intro e; exact hx45 (UInt8.toNat_inj.1 (by simpa using Int.ofNat_inj.1 e)))
    · unfold psP
      rw [if_neg (fun h => h27 h.1)]
      exact ref_short s a b c p m er w HP (by omega) he1
  · rw [if_neg he]
    exact ref_bad s a b c p m er w HP (by rw [bne_iff_ne]; exact he)

end Go.Proofs.YtaddonafdllciaaDoor.SemRefPseudo
