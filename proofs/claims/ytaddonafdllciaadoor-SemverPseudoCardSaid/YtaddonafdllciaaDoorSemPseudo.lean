/- Pseudo-versions: the walk. -/
import Derived.Test.YtaddonafdllciaaDoorSemParse
namespace Go.Proofs.YtaddonafdllciaaDoor.SemPseudo
open Go.RowKit Go.Shelf Go.Proofs.YtaddonafdllciaaDoor.Iter Go.Proofs.YtaddonafdllciaaDoor.BytesLib Go.Proofs.YtaddonafdllciaaDoor.SemParts Go.Proofs.YtaddonafdllciaaDoor.SemNum Go.Proofs.YtaddonafdllciaaDoor.SemParse Go.Proofs.YtaddonafdllciaaDoorW.PrintWords
set_option linter.unusedVariables false
set_option linter.unusedSimpArgs false
attribute [local go_sem] Oper.semAt_some

/-- A digit of sixteen. -/
def hexaB (c : UInt8) : Bool := digB c || (decide (97 ≤ c.toNat) && decide (c.toNat ≤ 102))

set_option maxRecDepth 100000 in
set_option maxHeartbeats 2000000 in
theorem hexa_calls (c : UInt8) (w : World) : Calls Tryd.prog 42 #[.int .u8 (c.toNat : Int)] w fun e w' => e = .returned (.bool (hexaB c)) ∧ Drawn0 w w' := by
  have HD := Aside0.mk (digit_calls c w)
  have h0 : digB c = true ∨ digB c = false := by cases digB c <;> simp
  rcases h0 with hd | hd
  · have hx : hexaB c = true := by unfold hexaB; rw [hd]; rfl
    have HX := Aside0.mk hx
    have HH := Aside0.mk hd
    clear hx hd
    go_enter Tryd.func42, Tryd.ntmps42
    go_wp2_with fail
    refine HD.out.mono ?_
    rintro e w' ⟨he, ⟨nd, rfl⟩⟩
    rw [HH.out] at he
    subst he
    go_wp2_with fail
    go_ret
    exact ⟨by rw [HX.out]; rfl, ⟨nd, rfl⟩⟩
  · by_cases h1 : 97 ≤ c.toNat
    · have hx : hexaB c = decide ((c.toNat : Int) ≤ 102) := by unfold hexaB; rw [hd, decide_eq_true h1, Bool.eq_iff_iff]; simp; omega
      have g1 : decide ((97 : Int) ≤ (c.toNat : Int)) = true := by rw [decide_eq_true_eq]; omega
      have HX := Aside0.mk hx
      have HH := Aside0.mk hd
      clear hx hd
      go_enter Tryd.func42, Tryd.ntmps42
      go_wp2_with fail
      refine HD.out.mono ?_
      rintro e w' ⟨he, ⟨nd, rfl⟩⟩
      rw [HH.out] at he
      subst he
      go_wp2_with fail
      go_ret
      exact ⟨by rw [HX.out]; first | rfl | simp, ⟨nd, rfl⟩⟩
    · have hx : hexaB c = false := by unfold hexaB; rw [hd, decide_eq_false h1]; simp
      have g1 : decide ((97 : Int) ≤ (c.toNat : Int)) = false := by rw [decide_eq_false_iff_not]; omega
      have HX := Aside0.mk hx
      have HH := Aside0.mk hd
      clear hx hd
      go_enter Tryd.func42, Tryd.ntmps42
      go_wp2_with fail
      refine HD.out.mono ?_
      rintro e w' ⟨he, ⟨nd, rfl⟩⟩
      rw [HH.out] at he
      subst he
      go_wp2_with fail
      go_ret
      exact ⟨by rw [HX.out]; rfl, ⟨nd, rfl⟩⟩

set_option maxRecDepth 100000 in
set_option maxHeartbeats 2000000 in
theorem every_hexa (s : ByteArray) (hs : s.size ≤ 140737488351232) (w : World) :
    Calls Tryd.prog 34 #[.string s, .func (.func 42) #[] #[]] w fun e w' => e = .returned (.bool (everyB hexaB s)) ∧ Drawn0 w w' := by
  go_enter Tryd.func34, Tryd.ntmps34
  go_wp2_with fail
  go_loopw [8] (fun vi wr => ∃ i m : Nat, vi = .int .i64 i ∧ wr = w.drewN m ∧ i ≤ s.size ∧ Aside0 ((L s).all hexaB = ((L s).drop i).all hexaB)) (fun vi _ => s.size - (intOf vi).toNat)
  case atStart => exact ⟨0, 0, rfl, rfl, Nat.zero_le _, ⟨by rw [List.drop_zero]⟩⟩
  case round =>
    obtain ⟨i, m, rfl, rfl, hi, HA⟩ := hrel
    by_cases hlt : i < s.size
    · have hd : (L s).drop i = s[i] :: (L s).drop (i + 1) := List.drop_eq_getElem_cons (by rw [L_length]; exact hlt)
      have HC := Aside0.mk (hexa_calls s[i] (w.drewN m))
      cases hp : hexaB s[i] with
      | true =>
        have HP := Aside0.mk hp
        have HD := Aside0.mk hd
        clear hp hd
        go_wp2_with fail
        refine HC.out.mono ?_
        rintro e w' ⟨he, ⟨nd, rfl⟩⟩
        rw [HP.out] at he
        subst he
        go_wp2_with fail
        go_roundw
        case rel => exact ⟨i + 1, m + nd, by go_num, rfl, by omega, ⟨by rw [HA.out, HD.out, List.all_cons, HP.out, Bool.true_and]⟩⟩
        case measure => simp [intOf]; omega
      | false =>
        have hf : everyB hexaB s = false := by unfold everyB; rw [HA.out, hd, List.all_cons, hp, Bool.false_and, Bool.false_and]
        have HP := Aside0.mk hp
        have HF := Aside0.mk hf
        clear hp hd hf
        go_wp2_with fail
        refine HC.out.mono ?_
        rintro e w' ⟨he, ⟨nd, rfl⟩⟩
        rw [HP.out] at he
        subst he
        go_wp2_with fail
        go_ret
        exact ⟨by rw [HF.out]; rfl, ⟨m + nd, rfl⟩⟩
    · obtain rfl : i = s.size := by omega
      have hE : everyB hexaB s = (s.toList != []) := by
        unfold everyB
        rw [HA.out, List.drop_of_length_le (by rw [L_length]; exact Nat.le_refl _), toList_L]
        cases L s <;> rfl
      have HE := Aside0.mk hE
      clear hE
      go_wp2_with fail
      go_ret
      exact ⟨by rw [HE.out]; first | rfl | (cases s.toList <;> rfl), ⟨m, rfl⟩⟩


/-- What a text is as a pseudo-version: its time, its revision, and whether it is one. -/
def headB (h : ByteArray) : Bool := (h.toList == []) || (h.toList == [48, 46]) || (decide (4 ≤ h.size) && decide ((L h).drop (h.size - 3) = [46, 48, 46]))
def tailB (t : ByteArray) : Bool := cutF 45 t && decide ((cutA 45 t).size = 14) && everyB digB (cutA 45 t) && everyB hexaB (cutB 45 t)
def psP (p : ByteArray) : ByteArray × ByteArray × Bool :=
  if 27 ≤ p.size ∧ tailB (p.extract (p.size - 27) p.size) = true ∧ headB (p.extract 0 (p.size - 27)) = true then (cutA 45 (p.extract (p.size - 27) p.size), cutB 45 (p.extract (p.size - 27) p.size), true) else (⟨#[]⟩, ⟨#[]⟩, false)
def psF (s : ByteArray) : ByteArray × ByteArray × Bool := if (parseF s).2.2.2.2.2 = 0 then psP (parseF s).2.2.2.1 else (⟨#[]⟩, ⟨#[]⟩, false)

theorem suffix_calls (h : ByteArray) (w : World) (hh : h.size ≤ 140737488351232) :
    Calls Tryd.prog 44 #[.string h, .string ⟨#[46, 48, 46]⟩] w fun e w' => e = .returned (.bool (decide ((L h).drop (h.size - 3) = [46, 48, 46]))) ∧ Drawn0 w w' := by
  refine BFns.strings_HasSuffix.calls h ⟨#[46, 48, 46]⟩ _ w ?_
  unfold BFns.strings_HasSuffix.f BFns.stringslite_HasSuffix.f
  have e1 : ((⟨#[46, 48, 46]⟩ : ByteArray).size : Int) = 3 := rfl
  have e2 : ((⟨#[46, 48, 46]⟩ : ByteArray)).toList = [46, 48, 46] := (toList_L _).trans rfl
  rw [e1, e2]
  have hl := L_length h
  by_cases h3 : (h.size : Int) ≥ 3
  · have hw : wrap64 ((h.size : Int) - 3) = ((h.size - 3 : Nat) : Int) := by unfold wrap64; omega
    rw [if_pos h3, hw, if_pos (by omega), if_pos (by omega), Option.bind_some, Int.toNat_natCast, toList_L, L_tail]
    congr 1
    rw [Bool.eq_iff_iff, beq_iff_eq, decide_eq_true_eq]
  · have hn : (L h).drop (h.size - 3) ≠ [46, 48, 46] := fun e => by
      have := congrArg List.length e
      rw [List.length_drop] at this
      simp at this
      omega
    rw [if_neg h3, decide_eq_false hn]; rfl

/-- What is known of the call of Parse. -/
def PC (s : ByteArray) (a b c : Int) (p m : ByteArray) (er : Int) (w : World) : Prop := Aside0 (Calls Tryd.prog 11 #[.string s] w fun e w' => e = .returned (.tuple #[.agg #[.int .i64 a, .int .i64 b, .int .i64 c, .string p, .string m], .int .i64 er]) ∧ Below w.heap.size w w')
/-- What is to be shown: the call comes to this. -/
def RC (s x y : ByteArray) (is : Bool) (w : World) : Prop := Calls Tryd.prog 15 #[.string s] w fun e w' => e = .returned (.tuple #[.string x, .string y, .bool is]) ∧ Below w.heap.size w w'

set_option maxRecDepth 100000 in
set_option maxHeartbeats 8000000 in
theorem pseudo_bad (s : ByteArray) (a b c : Int) (p m : ByteArray) (er : Int) (w : World) (HP : PC s a b c p m er w) (he : (er != 0) = true) :
    RC s ⟨#[]⟩ ⟨#[]⟩ false w := by
  unfold RC
  unfold PC at HP
  go_enter Tryd.func15, Tryd.ntmps15
  go_wp2_with fail
  refine HP.out.mono ?_
  rintro e w1 ⟨rfl, hb1⟩
  have HB := Aside0.mk hb1
  clear hb1
  go_wp2_with fail
  go_ret3
  exact ⟨rfl, by repeat (first | exact HB.out | apply below_alloc | apply pw_below_drewN | apply below_drew1)⟩

set_option maxRecDepth 100000 in
set_option maxHeartbeats 8000000 in
theorem pseudo_short (s : ByteArray) (a b c : Int) (p m : ByteArray) (er : Int) (w : World) (HP : PC s a b c p m er w) (hp : p.size < 27) (he : (er != 0) = false) :
    RC s ⟨#[]⟩ ⟨#[]⟩ false w := by
  have hw : decide (wrap64 ((p.size : Int) - 27) < 0) = true := by rw [decide_eq_true_eq]; unfold wrap64; omega
  clear hp
  unfold RC
  unfold PC at HP
  go_enter Tryd.func15, Tryd.ntmps15
  go_wp2_with fail
  refine HP.out.mono ?_
  rintro e w1 ⟨rfl, hb1⟩
  have HB := Aside0.mk hb1
  clear hb1
  go_wp2_with fail
  go_ret3
  exact ⟨rfl, by repeat (first | exact HB.out | apply below_alloc | apply pw_below_drewN | apply below_drew1)⟩

set_option maxRecDepth 100000 in
set_option maxHeartbeats 8000000 in
theorem pseudo_a (s : ByteArray) (a b c : Int) (p m : ByteArray) (er : Int) (w : World) (HP : PC s a b c p m er w) (he : (er != 0) = false) (n : Nat) (hn : n ≤ p.size) (hw : wrap64 ((p.size : Int) - 27) = (n : Int)) (t hd tm rv : ByteArray) (ht : p.extract n p.size = t) (hh : p.extract 0 n = hd)
    (HC : ∀ W : World, Aside0 (Calls Tryd.prog 30 #[.string t, .string ⟨#[45]⟩] W fun e w1 => e = .returned (.tuple #[.string tm, .string rv, .bool false]) ∧ Drawn0 W w1)) :
    RC s ⟨#[]⟩ ⟨#[]⟩ false w := by
  unfold RC
  unfold PC at HP
  go_enter Tryd.func15, Tryd.ntmps15
  go_wp2_with fail
  refine HP.out.mono ?_
  rintro e w1 ⟨rfl, hb1⟩
  have HB := Aside0.mk hb1
  clear hb1
  go_wp2_with fail
  refine (HC _).out.mono ?_
  rintro e w2 ⟨rfl, ⟨nd, rfl⟩⟩
  go_wp2_with fail
  go_ret3
  exact ⟨rfl, by repeat (first | exact HB.out | apply below_alloc | apply pw_below_drewN | apply below_drew1)⟩

set_option maxRecDepth 100000 in
set_option maxHeartbeats 8000000 in
theorem pseudo_b (s : ByteArray) (a b c : Int) (p m : ByteArray) (er : Int) (w : World) (HP : PC s a b c p m er w) (he : (er != 0) = false) (n : Nat) (hn : n ≤ p.size) (hw : wrap64 ((p.size : Int) - 27) = (n : Int)) (t hd tm rv : ByteArray) (ht : p.extract n p.size = t) (hh : p.extract 0 n = hd)
    (HC : ∀ W : World, Aside0 (Calls Tryd.prog 30 #[.string t, .string ⟨#[45]⟩] W fun e w1 => e = .returned (.tuple #[.string tm, .string rv, .bool true]) ∧ Drawn0 W w1)) (hs : ((tm.size : Int) != 14) = true) :
    RC s ⟨#[]⟩ ⟨#[]⟩ false w := by
  unfold RC
  unfold PC at HP
  go_enter Tryd.func15, Tryd.ntmps15
  go_wp2_with fail
  refine HP.out.mono ?_
  rintro e w1 ⟨rfl, hb1⟩
  have HB := Aside0.mk hb1
  clear hb1
  go_wp2_with fail
  refine (HC _).out.mono ?_
  rintro e w2 ⟨rfl, ⟨nd, rfl⟩⟩
  go_wp2_with fail
  go_ret3
  exact ⟨rfl, by repeat (first | exact HB.out | apply below_alloc | apply pw_below_drewN | apply below_drew1)⟩

set_option maxRecDepth 100000 in
set_option maxHeartbeats 8000000 in
theorem pseudo_c (s : ByteArray) (a b c : Int) (p m : ByteArray) (er : Int) (w : World) (HP : PC s a b c p m er w) (he : (er != 0) = false) (n : Nat) (hn : n ≤ p.size) (hw : wrap64 ((p.size : Int) - 27) = (n : Int)) (t hd tm rv : ByteArray) (ht : p.extract n p.size = t) (hh : p.extract 0 n = hd)
    (HC : ∀ W : World, Aside0 (Calls Tryd.prog 30 #[.string t, .string ⟨#[45]⟩] W fun e w1 => e = .returned (.tuple #[.string tm, .string rv, .bool true]) ∧ Drawn0 W w1)) (hs : ((tm.size : Int) != 14) = false) (hz : tm.size ≤ 140737488351232) (hr : rv.size ≤ 140737488351232) (F1 : Aside0 (everyB digB tm = false)) :
    RC s ⟨#[]⟩ ⟨#[]⟩ false w := by
  have HD := fun W => Aside0.mk (every_digit tm hz W)
  have HX := fun W => Aside0.mk (every_hexa rv hr W)
  unfold RC
  unfold PC at HP
  go_enter Tryd.func15, Tryd.ntmps15
  go_wp2_with fail
  refine HP.out.mono ?_
  rintro e w1 ⟨rfl, hb1⟩
  have HB := Aside0.mk hb1
  clear hb1
  go_wp2_with fail
  refine (HC _).out.mono ?_
  rintro e w2 ⟨rfl, ⟨nd, rfl⟩⟩
  go_wp2_with fail
  refine (HD _).out.mono ?_
  rintro e w3 ⟨he3, ⟨ndHD, rfl⟩⟩
  rw [F1.out] at he3
  subst he3
  go_wp2_with fail
  go_ret3
  exact ⟨rfl, by repeat (first | exact HB.out | apply below_alloc | apply pw_below_drewN | apply below_drew1)⟩

set_option maxRecDepth 100000 in
set_option maxHeartbeats 8000000 in
theorem pseudo_d (s : ByteArray) (a b c : Int) (p m : ByteArray) (er : Int) (w : World) (HP : PC s a b c p m er w) (he : (er != 0) = false) (n : Nat) (hn : n ≤ p.size) (hw : wrap64 ((p.size : Int) - 27) = (n : Int)) (t hd tm rv : ByteArray) (ht : p.extract n p.size = t) (hh : p.extract 0 n = hd)
    (HC : ∀ W : World, Aside0 (Calls Tryd.prog 30 #[.string t, .string ⟨#[45]⟩] W fun e w1 => e = .returned (.tuple #[.string tm, .string rv, .bool true]) ∧ Drawn0 W w1)) (hs : ((tm.size : Int) != 14) = false) (hz : tm.size ≤ 140737488351232) (hr : rv.size ≤ 140737488351232) (F1 : Aside0 (everyB digB tm = true)) (F2 : Aside0 (everyB hexaB rv = false)) :
    RC s ⟨#[]⟩ ⟨#[]⟩ false w := by
  have HD := fun W => Aside0.mk (every_digit tm hz W)
  have HX := fun W => Aside0.mk (every_hexa rv hr W)
  unfold RC
  unfold PC at HP
  go_enter Tryd.func15, Tryd.ntmps15
  go_wp2_with fail
  refine HP.out.mono ?_
  rintro e w1 ⟨rfl, hb1⟩
  have HB := Aside0.mk hb1
  clear hb1
  go_wp2_with fail
  refine (HC _).out.mono ?_
  rintro e w2 ⟨rfl, ⟨nd, rfl⟩⟩
  go_wp2_with fail
  refine (HD _).out.mono ?_
  rintro e w3 ⟨he3, ⟨ndHD, rfl⟩⟩
  rw [F1.out] at he3
  subst he3
  go_wp2_with fail
  refine (HX _).out.mono ?_
  rintro e w3 ⟨he3, ⟨ndHX, rfl⟩⟩
  rw [F2.out] at he3
  subst he3
  go_wp2_with fail
  go_ret3
  exact ⟨rfl, by repeat (first | exact HB.out | apply below_alloc | apply pw_below_drewN | apply below_drew1)⟩

set_option maxRecDepth 100000 in
set_option maxHeartbeats 8000000 in
theorem pseudo_e (s : ByteArray) (a b c : Int) (p m : ByteArray) (er : Int) (w : World) (HP : PC s a b c p m er w) (he : (er != 0) = false) (n : Nat) (hn : n ≤ p.size) (hw : wrap64 ((p.size : Int) - 27) = (n : Int)) (t hd tm rv : ByteArray) (ht : p.extract n p.size = t) (hh : p.extract 0 n = hd)
    (HC : ∀ W : World, Aside0 (Calls Tryd.prog 30 #[.string t, .string ⟨#[45]⟩] W fun e w1 => e = .returned (.tuple #[.string tm, .string rv, .bool true]) ∧ Drawn0 W w1)) (hs : ((tm.size : Int) != 14) = false) (hz : tm.size ≤ 140737488351232) (hr : rv.size ≤ 140737488351232) (F1 : Aside0 (everyB digB tm = true)) (F2 : Aside0 (everyB hexaB rv = true)) (h1 : hd.toList.isEmpty = true) :
    RC s tm rv true w := by
  have HD := fun W => Aside0.mk (every_digit tm hz W)
  have HX := fun W => Aside0.mk (every_hexa rv hr W)
  unfold RC
  unfold PC at HP
  go_enter Tryd.func15, Tryd.ntmps15
  go_wp2_with fail
  refine HP.out.mono ?_
  rintro e w1 ⟨rfl, hb1⟩
  have HB := Aside0.mk hb1
  clear hb1
  go_wp2_with fail
  refine (HC _).out.mono ?_
  rintro e w2 ⟨rfl, ⟨nd, rfl⟩⟩
  go_wp2_with fail
  refine (HD _).out.mono ?_
  rintro e w3 ⟨he3, ⟨ndHD, rfl⟩⟩
  rw [F1.out] at he3
  subst he3
  go_wp2_with fail
  refine (HX _).out.mono ?_
  rintro e w3 ⟨he3, ⟨ndHX, rfl⟩⟩
  rw [F2.out] at he3
  subst he3
  go_wp2_with fail
  go_ret3
  exact ⟨rfl, by repeat (first | exact HB.out | apply below_alloc | apply pw_below_drewN | apply below_drew1)⟩

set_option maxRecDepth 100000 in
set_option maxHeartbeats 8000000 in
theorem pseudo_f (s : ByteArray) (a b c : Int) (p m : ByteArray) (er : Int) (w : World) (HP : PC s a b c p m er w) (he : (er != 0) = false) (n : Nat) (hn : n ≤ p.size) (hw : wrap64 ((p.size : Int) - 27) = (n : Int)) (t hd tm rv : ByteArray) (ht : p.extract n p.size = t) (hh : p.extract 0 n = hd)
    (HC : ∀ W : World, Aside0 (Calls Tryd.prog 30 #[.string t, .string ⟨#[45]⟩] W fun e w1 => e = .returned (.tuple #[.string tm, .string rv, .bool true]) ∧ Drawn0 W w1)) (hs : ((tm.size : Int) != 14) = false) (hz : tm.size ≤ 140737488351232) (hr : rv.size ≤ 140737488351232) (F1 : Aside0 (everyB digB tm = true)) (F2 : Aside0 (everyB hexaB rv = true)) (h1 : hd.toList.isEmpty = false) (h2 : hd.toList = [48, 46]) :
    RC s tm rv true w := by
  have HD := fun W => Aside0.mk (every_digit tm hz W)
  have HX := fun W => Aside0.mk (every_hexa rv hr W)
  unfold RC
  unfold PC at HP
  go_enter Tryd.func15, Tryd.ntmps15
  go_wp2_with fail
  refine HP.out.mono ?_
  rintro e w1 ⟨rfl, hb1⟩
  have HB := Aside0.mk hb1
  clear hb1
  go_wp2_with fail
  refine (HC _).out.mono ?_
  rintro e w2 ⟨rfl, ⟨nd, rfl⟩⟩
  go_wp2_with fail
  refine (HD _).out.mono ?_
  rintro e w3 ⟨he3, ⟨ndHD, rfl⟩⟩
  rw [F1.out] at he3
  subst he3
  go_wp2_with fail
  refine (HX _).out.mono ?_
  rintro e w3 ⟨he3, ⟨ndHX, rfl⟩⟩
  rw [F2.out] at he3
  subst he3
  go_wp2_with fail
  go_ret3
  exact ⟨rfl, by repeat (first | exact HB.out | apply below_alloc | apply pw_below_drewN | apply below_drew1)⟩

set_option maxRecDepth 100000 in
set_option maxHeartbeats 8000000 in
theorem pseudo_g (s : ByteArray) (a b c : Int) (p m : ByteArray) (er : Int) (w : World) (HP : PC s a b c p m er w) (he : (er != 0) = false) (n : Nat) (hn : n ≤ p.size) (hw : wrap64 ((p.size : Int) - 27) = (n : Int)) (t hd tm rv : ByteArray) (ht : p.extract n p.size = t) (hh : p.extract 0 n = hd)
    (HC : ∀ W : World, Aside0 (Calls Tryd.prog 30 #[.string t, .string ⟨#[45]⟩] W fun e w1 => e = .returned (.tuple #[.string tm, .string rv, .bool true]) ∧ Drawn0 W w1)) (hs : ((tm.size : Int) != 14) = false) (hz : tm.size ≤ 140737488351232) (hr : rv.size ≤ 140737488351232) (F1 : Aside0 (everyB digB tm = true)) (F2 : Aside0 (everyB hexaB rv = true)) (h1 : hd.toList.isEmpty = false) (h2 : ¬ hd.toList = [48, 46]) (h2b : (hd.toList == [48, 46]) = false) (h3 : decide ((hd.size : Int) < 4) = true) :
    RC s ⟨#[]⟩ ⟨#[]⟩ false w := by
  have HD := fun W => Aside0.mk (every_digit tm hz W)
  have HX := fun W => Aside0.mk (every_hexa rv hr W)
  unfold RC
  unfold PC at HP
  go_enter Tryd.func15, Tryd.ntmps15
  go_wp2_with fail
  refine HP.out.mono ?_
  rintro e w1 ⟨rfl, hb1⟩
  have HB := Aside0.mk hb1
  clear hb1
  go_wp2_with fail
  refine (HC _).out.mono ?_
  rintro e w2 ⟨rfl, ⟨nd, rfl⟩⟩
  go_wp2_with fail
  refine (HD _).out.mono ?_
  rintro e w3 ⟨he3, ⟨ndHD, rfl⟩⟩
  rw [F1.out] at he3
  subst he3
  go_wp2_with fail
  refine (HX _).out.mono ?_
  rintro e w3 ⟨he3, ⟨ndHX, rfl⟩⟩
  rw [F2.out] at he3
  subst he3
  go_wp2_with fail
  go_ret3
  exact ⟨rfl, by repeat (first | exact HB.out | apply below_alloc | apply pw_below_drewN | apply below_drew1)⟩

set_option maxRecDepth 100000 in
set_option maxHeartbeats 8000000 in
theorem pseudo_h (s : ByteArray) (a b c : Int) (p m : ByteArray) (er : Int) (w : World) (HP : PC s a b c p m er w) (he : (er != 0) = false) (n : Nat) (hn : n ≤ p.size) (hw : wrap64 ((p.size : Int) - 27) = (n : Int)) (t hd tm rv : ByteArray) (ht : p.extract n p.size = t) (hh : p.extract 0 n = hd)
    (HC : ∀ W : World, Aside0 (Calls Tryd.prog 30 #[.string t, .string ⟨#[45]⟩] W fun e w1 => e = .returned (.tuple #[.string tm, .string rv, .bool true]) ∧ Drawn0 W w1)) (hs : ((tm.size : Int) != 14) = false) (hz : tm.size ≤ 140737488351232) (hr : rv.size ≤ 140737488351232) (F1 : Aside0 (everyB digB tm = true)) (F2 : Aside0 (everyB hexaB rv = true)) (h1 : hd.toList.isEmpty = false) (h2 : ¬ hd.toList = [48, 46]) (h2b : (hd.toList == [48, 46]) = false) (h3 : decide ((hd.size : Int) < 4) = false) (hq : hd.size ≤ 140737488351232) (F3 : Aside0 (decide ((L hd).drop (hd.size - 3) = [46, 48, 46]) = false)) :
    RC s ⟨#[]⟩ ⟨#[]⟩ false w := by
  have HS := fun W => Aside0.mk (suffix_calls hd W hq)
  have HD := fun W => Aside0.mk (every_digit tm hz W)
  have HX := fun W => Aside0.mk (every_hexa rv hr W)
  unfold RC
  unfold PC at HP
  go_enter Tryd.func15, Tryd.ntmps15
  go_wp2_with fail
  refine HP.out.mono ?_
  rintro e w1 ⟨rfl, hb1⟩
  have HB := Aside0.mk hb1
  clear hb1
  go_wp2_with fail
  refine (HC _).out.mono ?_
  rintro e w2 ⟨rfl, ⟨nd, rfl⟩⟩
  go_wp2_with fail
  refine (HD _).out.mono ?_
  rintro e w3 ⟨he3, ⟨ndHD, rfl⟩⟩
  rw [F1.out] at he3
  subst he3
  go_wp2_with fail
  refine (HX _).out.mono ?_
  rintro e w3 ⟨he3, ⟨ndHX, rfl⟩⟩
  rw [F2.out] at he3
  subst he3
  go_wp2_with fail
  refine (HS _).out.mono ?_
  rintro e w3 ⟨he3, ⟨ndHS, rfl⟩⟩
  rw [F3.out] at he3
  subst he3
  go_wp2_with fail
  go_ret3
  exact ⟨rfl, by repeat (first | exact HB.out | apply below_alloc | apply pw_below_drewN | apply below_drew1)⟩

set_option maxRecDepth 100000 in
set_option maxHeartbeats 8000000 in
theorem pseudo_i (s : ByteArray) (a b c : Int) (p m : ByteArray) (er : Int) (w : World) (HP : PC s a b c p m er w) (he : (er != 0) = false) (n : Nat) (hn : n ≤ p.size) (hw : wrap64 ((p.size : Int) - 27) = (n : Int)) (t hd tm rv : ByteArray) (ht : p.extract n p.size = t) (hh : p.extract 0 n = hd)
    (HC : ∀ W : World, Aside0 (Calls Tryd.prog 30 #[.string t, .string ⟨#[45]⟩] W fun e w1 => e = .returned (.tuple #[.string tm, .string rv, .bool true]) ∧ Drawn0 W w1)) (hs : ((tm.size : Int) != 14) = false) (hz : tm.size ≤ 140737488351232) (hr : rv.size ≤ 140737488351232) (F1 : Aside0 (everyB digB tm = true)) (F2 : Aside0 (everyB hexaB rv = true)) (h1 : hd.toList.isEmpty = false) (h2 : ¬ hd.toList = [48, 46]) (h2b : (hd.toList == [48, 46]) = false) (h3 : decide ((hd.size : Int) < 4) = false) (hq : hd.size ≤ 140737488351232) (F3 : Aside0 (decide ((L hd).drop (hd.size - 3) = [46, 48, 46]) = true)) :
    RC s tm rv true w := by
  have HS := fun W => Aside0.mk (suffix_calls hd W hq)
  have HD := fun W => Aside0.mk (every_digit tm hz W)
  have HX := fun W => Aside0.mk (every_hexa rv hr W)
  unfold RC
  unfold PC at HP
  go_enter Tryd.func15, Tryd.ntmps15
  go_wp2_with fail
  refine HP.out.mono ?_
  rintro e w1 ⟨rfl, hb1⟩
  have HB := Aside0.mk hb1
  clear hb1
  go_wp2_with fail
  refine (HC _).out.mono ?_
  rintro e w2 ⟨rfl, ⟨nd, rfl⟩⟩
  go_wp2_with fail
  refine (HD _).out.mono ?_
  rintro e w3 ⟨he3, ⟨ndHD, rfl⟩⟩
  rw [F1.out] at he3
  subst he3
  go_wp2_with fail
  refine (HX _).out.mono ?_
  rintro e w3 ⟨he3, ⟨ndHX, rfl⟩⟩
  rw [F2.out] at he3
  subst he3
  go_wp2_with fail
  refine (HS _).out.mono ?_
  rintro e w3 ⟨he3, ⟨ndHS, rfl⟩⟩
  rw [F3.out] at he3
  subst he3
  go_wp2_with fail
  go_ret3
  exact ⟨rfl, by repeat (first | exact HB.out | apply below_alloc | apply pw_below_drewN | apply below_drew1)⟩

/-- semver.Pseudo answers so. -/
theorem Pseudo_calls (s : ByteArray) (hs : s.size ≤ 140737488351232) (w : World) :
    Calls Tryd.prog 15 #[.string s] w fun e w' => e = .returned (.tuple #[.string (psF s).1, .string (psF s).2.1, .bool (psF s).2.2]) ∧ Below w.heap.size w w' := by
  have HP0 := SemParse.Parse_calls s hs w
  have hpz : (parseF s).2.2.2.1.size ≤ s.size := by
    unfold parseF
    split
    · show (preOf (s.extract 1 s.size)).size ≤ s.size
      have h1 := cutB_le 45 (cutA 43 (s.extract 1 s.size))
      have h2 := cutA_le 43 (s.extract 1 s.size)
      have h3 : (s.extract 1 s.size).size ≤ s.size := by rw [ByteArray.size_extract]; omega
      unfold preOf; omega
    · exact Nat.zero_le _
  unfold psF
  generalize parseF s = q at HP0 hpz ⊢
  obtain ⟨a, b, c, p, m, er⟩ := q
  have HP : PC s a b c p m er w := ⟨HP0⟩
  clear HP0
  show RC s _ _ _ w
  dsimp only at hpz ⊢
  by_cases he : er = 0
  · rw [if_pos he]
    have he1 : (er != 0) = false := by rw [he]; rfl
    unfold psP
    by_cases h27 : 27 ≤ p.size
    · have hw : wrap64 ((p.size : Int) - 27) = ((p.size - 27 : Nat) : Int) := by unfold wrap64; omega
      have hn : p.size - 27 ≤ p.size := by omega
      have HC := fun W => cut_calls 45 (p.extract (p.size - 27) p.size) (by rw [ByteArray.size_extract]; omega) W
      have z1 : (cutA 45 (p.extract (p.size - 27) p.size)).size ≤ 140737488351232 := by have := cutA_le 45 (p.extract (p.size - 27) p.size); rw [ByteArray.size_extract] at this; omega
      have z2 : (cutB 45 (p.extract (p.size - 27) p.size)).size ≤ 140737488351232 := by have := cutB_le 45 (p.extract (p.size - 27) p.size); rw [ByteArray.size_extract] at this; omega
      have z3 : (p.extract 0 (p.size - 27)).size ≤ 140737488351232 := by rw [ByteArray.size_extract]; omega
      unfold tailB headB
      generalize hN : p.size - 27 = n at hw hn HC z1 z2 z3 ⊢
      obtain ⟨t, ht⟩ : ∃ t, p.extract n p.size = t := ⟨_, rfl⟩
      obtain ⟨hd, hh⟩ : ∃ hd, p.extract 0 n = hd := ⟨_, rfl⟩
      rw [ht] at HC z1 z2 ⊢
      rw [hh] at z3 ⊢
      generalize cutA 45 t = tm at HC z1 ⊢
      generalize cutB 45 t = rv at HC z2 ⊢
      generalize cutF 45 t = fl at HC ⊢
      cases fl with
      | false =>
        rw [if_neg (fun h => by cases h.2.1)]
        exact pseudo_a s a b c p m er w HP he1 n hn hw t hd tm rv ht hh (fun W => ⟨HC W⟩)
      | true =>
        have HC' : ∀ W : World, Aside0 (Calls Tryd.prog 30 #[.string t, .string ⟨#[45]⟩] W fun e w1 => e = .returned (.tuple #[.string tm, .string rv, .bool true]) ∧ Drawn0 W w1) := fun W => ⟨HC W⟩
        clear HC
        by_cases h14 : tm.size = 14
        · have hs14 : ((tm.size : Int) != 14) = false := by rw [h14]; rfl
          cases hd1 : everyB digB tm with
          | false =>
            rw [if_neg (fun h => by have := h.2.1; simp at this)]
            exact pseudo_c s a b c p m er w HP he1 n hn hw t hd tm rv ht hh HC' hs14 z1 z2 ⟨hd1⟩
          | true =>
            cases hd2 : everyB hexaB rv with
            | false =>
              rw [if_neg (fun h => by have := h.2.1; simp at this)]
              exact pseudo_d s a b c p m er w HP he1 n hn hw t hd tm rv ht hh HC' hs14 z1 z2 ⟨hd1⟩ ⟨hd2⟩
            | true =>
              by_cases g1 : hd.toList = []
              · rw [if_pos ⟨h27, by rw [decide_eq_true h14]; rfl, by rw [beq_iff_eq.2 g1]; rfl⟩]
                exact pseudo_e s a b c p m er w HP he1 n hn hw t hd tm rv ht hh HC' hs14 z1 z2 ⟨hd1⟩ ⟨hd2⟩ (by rw [g1]; rfl)
              · have i1 : hd.toList.isEmpty = false := by
                  cases hl : hd.toList with
                  | nil => exact absurd hl g1
                  | cons x y => rfl
                by_cases g2 : hd.toList = [48, 46]
                · rw [if_pos ⟨h27, by rw [decide_eq_true h14]; rfl, by rw [beq_iff_eq.2 g2]; simp⟩]
                  exact pseudo_f s a b c p m er w HP he1 n hn hw t hd tm rv ht hh HC' hs14 z1 z2 ⟨hd1⟩ ⟨hd2⟩ i1 g2
                · have i2 : (hd.toList == [48, 46]) = false := beq_eq_false_iff_ne.2 g2
                  have i3 : (hd.toList == ([] : List UInt8)) = false := beq_eq_false_iff_ne.2 g1
                  by_cases g3 : (hd.size : Int) < 4
                  · rw [if_neg (fun h => by have := h.2.2; rw [i2, i3, decide_eq_false (show ¬ 4 ≤ hd.size by omega)] at this; simp at this)]
                    exact pseudo_g s a b c p m er w HP he1 n hn hw t hd tm rv ht hh HC' hs14 z1 z2 ⟨hd1⟩ ⟨hd2⟩ i1 g2 i2 (decide_eq_true g3)
                  · cases g4 : decide ((L hd).drop (hd.size - 3) = [46, 48, 46]) with
                    | false =>
                      rw [if_neg (fun h => by have := h.2.2; rw [i2, i3] at this; simp at this)]
                      exact pseudo_h s a b c p m er w HP he1 n hn hw t hd tm rv ht hh HC' hs14 z1 z2 ⟨hd1⟩ ⟨hd2⟩ i1 g2 i2 (decide_eq_false g3) z3 ⟨g4⟩
                    | true =>
                      rw [if_pos ⟨h27, by rw [decide_eq_true h14]; rfl, by rw [i2, i3, decide_eq_true (show 4 ≤ hd.size by omega)]; rfl⟩]
                      exact pseudo_i s a b c p m er w HP he1 n hn hw t hd tm rv ht hh HC' hs14 z1 z2 ⟨hd1⟩ ⟨hd2⟩ i1 g2 i2 (decide_eq_false g3) z3 ⟨g4⟩
        · rw [if_neg (fun h => by have := h.2.1; rw [decide_eq_false h14] at this; simp at this)]
          exact pseudo_b s a b c p m er w HP he1 n hn hw t hd tm rv ht hh HC' (by rw [bne_iff_ne]; omega)
    · rw [if_neg (fun h => h27 h.1)]
      exact pseudo_short s a b c p m er w HP (by omega) he1
  · rw [if_neg he]
    exact pseudo_bad s a b c p m er w HP (by rw [bne_iff_ne]; exact he)

end Go.Proofs.YtaddonafdllciaaDoor.SemPseudo
