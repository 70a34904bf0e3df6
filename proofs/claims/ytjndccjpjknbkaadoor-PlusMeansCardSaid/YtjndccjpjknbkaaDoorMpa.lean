/- Printed parts, put together. -/
import Derived.Test.YtjndccjpjknbkaaDoorProg
import Derived.Below
import Derived.Deep.Draws
import Derived.Deep.AppendLies
import Derived.Maps.AppendAt
import Derived.OwnWalk
import Derived.Laws.BytesArg
import Derived.Laws.MakeOwn
import Derived.Laws.OwnMore
import Derived.Deep.OwnRows
import Derived.Tactics
import Derived.Lib.ConvBytes
import Derived.Laws.Slices
import Derived.WalkKit
import Derived.KernelRfl
import Derived.RowKit3
import Derived.Deep.LoopGhost
import Derived.Deep.QuietTactic
import Derived.BigQuiet
import Derived.WideLaws
import Derived.Deep.DeepCutAuto
import Derived.Deep.CutBlock
import Derived.Deep.RegionHeld3
import Derived.Laws.Rows
import Derived.Lib.AppendStr
import Derived.ArgAppend
import Derived.Laws.IdiomCopy
import Derived.OrdersHeld
import Derived.Laws.BitsLemmas
import Derived.RowKit
import Derived.Test.YtjndccjpjknbkaaDoorStrOrd
import Derived.Test.YtjndccjpjknbkaaDoorStrMore
import Derived.Test.YtjndccjpjknbkaaDoorExNode
import Derived.Test.YtjndccjpjknbkaaDoorExBoth
import Derived.Test.YtjndccjpjknbkaaDoorExLib
import Derived.Test.YtjndccjpjknbkaaDoorExCheck
import Derived.Test.YtjndccjpjknbkaaDoorPlLine
import Derived.Test.YtjndccjpjknbkaaDoorShelf
import Derived.Test.YtjndccjpjknbkaaDoorSplitW
import Derived.Test.YtjndccjpjknbkaaDoorExRun
import Derived.Test.YtjndccjpjknbkaaDoorWWords
import Derived.Test.YtjndccjpjknbkaaDoorWLast
import Derived.Test.YtjndccjpjknbkaaDoorWTab
import Derived.Test.YtjndccjpjknbkaaDoorWFour
import Derived.Test.YtjndccjpjknbkaaDoorWQPut
import Derived.Test.YtjndccjpjknbkaaDoorWApart
import Derived.Test.YtjndccjpjknbkaaDoorWArr
import Derived.Test.YtjndccjpjknbkaaDoorWZeros
import Derived.Test.YtjndccjpjknbkaaDoorWFoot
import Derived.Test.YtjndccjpjknbkaaDoorWKept
import Derived.Test.YtjndccjpjknbkaaDoorWShare
import Derived.Test.YtjndccjpjknbkaaDoorWN
import Derived.Test.YtjndccjpjknbkaaDoorWFootNe
import Derived.Test.YtjndccjpjknbkaaDoorWAt
import Derived.Test.YtjndccjpjknbkaaDoorWEqStruct
import Derived.Test.YtjndccjpjknbkaaDoorWRepsOne
import Derived.Test.YtjndccjpjknbkaaDoorWInv
import Derived.Test.YtjndccjpjknbkaaDoorWInvWords
import Derived.Test.YtjndccjpjknbkaaDoorWGuard
import Derived.Test.YtjndccjpjknbkaaDoorWNEv
import Derived.Test.YtjndccjpjknbkaaDoorWMore
-- by hprint.py (wip/): the kit's print over contracts proved by hand; a text of this session
namespace Go.Proofs.YtjndccjpjknbkaaDoor.PPl
open Go.RowKit Go.Proofs.YtjndccjpjknbkaaDoorW.PrintWords Go.Proofs.YtjndccjpjknbkaaDoorW.PrintLast Go.Proofs.YtjndccjpjknbkaaDoorW.PrintMore
attribute [local go_sem] max2_int min2_int max_two min_two max_three min_three max_four min_four   -- for this text's walks alone
set_option linter.unusedVariables false
set_option linter.unusedSimpArgs false



def errW : Option Int → Value
  | none => .nilIface
  | some c => .iface 0 (.int .i64 c)
theorem errW_none : errW none = .nilIface := rfl
theorem errW_some (c : Int) : errW (some c) = .iface 0 (.int .i64 c) := rfl

theorem info9 : (Tryd.prog.info? 9).map (fun i => (i.zero, i.size, i.bytes)) = some (some (.string ⟨#[]⟩), 1, 16) := by kernel_rfl
theorem info61 : (Tryd.prog.info? 61).map (fun i => (i.zero, i.size, i.bytes)) = some (some (.agg #[(.int .i64 0), (.string ⟨#[]⟩), (.int .i64 0), (.int .i64 0)]), 4, 40) := by kernel_rfl
-- the values' own types
/-! #### struct type 61 -/
structure S61 where
  f0 : Int
  f1 : ByteArray
  f2 : Int
  f3 : Int
def z61 : S61 := ⟨(0 : Int), (⟨#[]⟩ : ByteArray), (0 : Int), (0 : Int)⟩
def k61 : Kd S61 := Kd.iso (Kd.pair (Kd.int .i64) (Kd.pair Kd.string (Kd.pair (Kd.int .i64) (Kd.int .i64)))) (fun x : S61 => (x.f0, x.f1, x.f2, x.f3))
theorem k61_open {w : World} {x : S61} {cs : List Value} (h : k61.K w x cs) : cs = [.int .i64 x.f0, .string x.f1, .int .i64 x.f2, .int .i64 x.f3] := by
  obtain ⟨_, _, rfl, rfl, ⟨_, _, rfl, rfl, ⟨_, _, rfl, rfl, rfl⟩⟩⟩ := h
  exact rfl
theorem k61_mkM (w : World) (base : Nat) (ok : Nat → Prop) (x : S61)  : k61.M w base ok x [.int .i64 x.f0, .string x.f1, .int .i64 x.f2, .int .i64 x.f3] := ⟨[.int .i64 x.f0], [.string x.f1, .int .i64 x.f2, .int .i64 x.f3], rfl, rfl, ⟨[.string x.f1], [.int .i64 x.f2, .int .i64 x.f3], rfl, rfl, ⟨[.int .i64 x.f2], [.int .i64 x.f3], rfl, rfl, rfl⟩⟩⟩
def rd_T61 (xs : List S61) (i : Int) : S61 := xs.getD i.toNat z61
theorem at_T61 {w : World} {A : Option Addr} {n : Nat} {xs : List S61} (h : Kd.C k61 w A n xs) (i : Int) (h0 : 0 ≤ i) (h1 : i < n) : ∃ ad , A = some ad ∧ w.cell? (ad.add (i.toNat * 4)) = some (.int .i64 (rd_T61 xs i).f0) ∧ w.cell? ⟨(ad.add (i.toNat * 4)).block, (ad.add (i.toNat * 4)).off + 1, none⟩ = some (.string (rd_T61 xs i).f1) ∧ w.cell? ⟨(ad.add (i.toNat * 4)).block, (ad.add (i.toNat * 4)).off + 2, none⟩ = some (.int .i64 (rd_T61 xs i).f2) ∧ w.cell? ⟨(ad.add (i.toNat * 4)).block, (ad.add (i.toNat * 4)).off + 3, none⟩ = some (.int .i64 (rd_T61 xs i).f3) := by
  obtain ⟨ad, c, e, _, hK, hc0⟩ := Kd.C_get h z61 i h0 h1
  have hc : ∀ j u, c[j]? = some u → w.cell? (ad.add (i.toNat * 4 + j)) = some u := hc0
  obtain rfl := k61_open hK
  exact ⟨ad, e, hc 0 _ rfl, by rw [← add_field _ _ 1 (by omega)]; exact hc 1 _ rfl, by rw [← add_field _ _ 2 (by omega)]; exact hc 2 _ rfl, by rw [← add_field _ _ 3 (by omega)]; exact hc 3 _ rfl⟩

/-! #### struct type 52 -/
structure S52 where
  f0 : Int
  f1 : ByteArray
  f2 : Int
  f3 : Int
def z52 : S52 := ⟨(0 : Int), (⟨#[]⟩ : ByteArray), (0 : Int), (0 : Int)⟩
def k52 : Kd S52 := Kd.iso (Kd.pair (Kd.int .i64) (Kd.pair Kd.string (Kd.pair (Kd.int .i64) (Kd.int .i64)))) (fun x : S52 => (x.f0, x.f1, x.f2, x.f3))
theorem k52_open {w : World} {x : S52} {cs : List Value} (h : k52.K w x cs) : cs = [.int .i64 x.f0, .string x.f1, .int .i64 x.f2, .int .i64 x.f3] := by
  obtain ⟨_, _, rfl, rfl, ⟨_, _, rfl, rfl, ⟨_, _, rfl, rfl, rfl⟩⟩⟩ := h
  exact rfl
theorem k52_mkM (w : World) (base : Nat) (ok : Nat → Prop) (x : S52)  : k52.M w base ok x [.int .i64 x.f0, .string x.f1, .int .i64 x.f2, .int .i64 x.f3] := ⟨[.int .i64 x.f0], [.string x.f1, .int .i64 x.f2, .int .i64 x.f3], rfl, rfl, ⟨[.string x.f1], [.int .i64 x.f2, .int .i64 x.f3], rfl, rfl, ⟨[.int .i64 x.f2], [.int .i64 x.f3], rfl, rfl, rfl⟩⟩⟩
def rd_T52 (xs : List S52) (i : Int) : S52 := xs.getD i.toNat z52
theorem at_T52 {w : World} {A : Option Addr} {n : Nat} {xs : List S52} (h : Kd.C k52 w A n xs) (i : Int) (h0 : 0 ≤ i) (h1 : i < n) : ∃ ad , A = some ad ∧ w.cell? (ad.add (i.toNat * 4)) = some (.int .i64 (rd_T52 xs i).f0) ∧ w.cell? ⟨(ad.add (i.toNat * 4)).block, (ad.add (i.toNat * 4)).off + 1, none⟩ = some (.string (rd_T52 xs i).f1) ∧ w.cell? ⟨(ad.add (i.toNat * 4)).block, (ad.add (i.toNat * 4)).off + 2, none⟩ = some (.int .i64 (rd_T52 xs i).f2) ∧ w.cell? ⟨(ad.add (i.toNat * 4)).block, (ad.add (i.toNat * 4)).off + 3, none⟩ = some (.int .i64 (rd_T52 xs i).f3) := by
  obtain ⟨ad, c, e, _, hK, hc0⟩ := Kd.C_get h z52 i h0 h1
  have hc : ∀ j u, c[j]? = some u → w.cell? (ad.add (i.toNat * 4 + j)) = some u := hc0
  obtain rfl := k52_open hK
  exact ⟨ad, e, hc 0 _ rfl, by rw [← add_field _ _ 1 (by omega)]; exact hc 1 _ rfl, by rw [← add_field _ _ 2 (by omega)]; exact hc 2 _ rfl, by rw [← add_field _ _ 3 (by omega)]; exact hc 3 _ rfl⟩

def rd_L9 (xs : List (List Int)) (i : Int) : (List Int) := xs.getD i.toNat ([] : List Int)
theorem at_L9 {w : World} {A : Option Addr} {n : Nat} {xs : List (List Int)} (h : Kd.C (Kd.slice 5 (Kd.int .u8)) w A n xs) (i : Int) (h0 : 0 ≤ i) (h1 : i < n) : ∃ ad A0 c0, A = some ad ∧ w.cell? (ad.add i.toNat) = some (.slice A0 (rd_L9 xs i).length c0) ∧ (rd_L9 xs i).length ≤ c0 ∧ (Kd.int .u8).C w A0 (rd_L9 xs i).length (rd_L9 xs i) := by
  obtain ⟨ad, c, e, _, hK, hc0⟩ := Kd.C_get h ([] : List Int) i h0 h1
  have hc : ∀ j u, c[j]? = some u → w.cell? (ad.add (i.toNat * 1 + j)) = some u := hc0
  obtain ⟨A0, c0, rfl, l0, g0⟩ := hK
  exact ⟨ad, A0, c0, e, by have hq := hc 0 _ rfl; rwa [Nat.mul_one, Nat.add_zero] at hq, l0, g0⟩

end Go.Proofs.YtjndccjpjknbkaaDoor.PPl


-- by hprint.py (wip/): the kit's print over contracts proved by hand; a text of this session
namespace Go.Proofs.YtjndccjpjknbkaaDoor.PPl
open Go.RowKit Go.Proofs.YtjndccjpjknbkaaDoorW.PrintWords Go.Proofs.YtjndccjpjknbkaaDoorW.PrintLast Go.Proofs.YtjndccjpjknbkaaDoorW.PrintMore
attribute [local go_sem] max2_int min2_int max_two min_two max_three min_three max_four min_four   -- for this text's walks alone
set_option linter.unusedVariables false
set_option linter.unusedSimpArgs false

/-! ### graftbedref12_letter: function 71 -/
def graftbedref12_letter.f (a0 : Int) : Option (Bool) := if a0 ≥ 97 then (if a0 ≤ 122 then (some true) else (if a0 ≥ 65 then (if a0 ≤ 90 then (some true) else (if a0 ≥ 48 then (if a0 ≤ 57 then (some true) else (if a0 = 95 then (some true) else (some (a0 == 46)))) else (if a0 = 95 then (some true) else (some (a0 == 46))))) else (if a0 ≥ 48 then (if a0 ≤ 57 then (some true) else (if a0 = 95 then (some true) else (some (a0 == 46)))) else (if a0 = 95 then (some true) else (some (a0 == 46)))))) else (if a0 ≥ 65 then (if a0 ≤ 90 then (some true) else (if a0 ≥ 48 then (if a0 ≤ 57 then (some true) else (if a0 = 95 then (some true) else (some (a0 == 46)))) else (if a0 = 95 then (some true) else (some (a0 == 46))))) else (if a0 ≥ 48 then (if a0 ≤ 57 then (some true) else (if a0 = 95 then (some true) else (some (a0 == 46)))) else (if a0 = 95 then (some true) else (some (a0 == 46)))))
set_option maxHeartbeats 8000000 in
set_option maxRecDepth 100000 in
theorem graftbedref12_letter.calls (a0 : Int) (r : Bool) (w : World) (h : graftbedref12_letter.f a0 = some r) :
    Calls Tryd.prog 71 #[.int .u8 a0] w fun e w' => e = .returned (.bool r) ∧ Drawn0 w w' := by
  have H : (if a0 ≥ 97 then (if a0 ≤ 122 then (some true) else (if a0 ≥ 65 then (if a0 ≤ 90 then (some true) else (if a0 ≥ 48 then (if a0 ≤ 57 then (some true) else (if a0 = 95 then (some true) else (some (a0 == 46)))) else (if a0 = 95 then (some true) else (some (a0 == 46))))) else (if a0 ≥ 48 then (if a0 ≤ 57 then (some true) else (if a0 = 95 then (some true) else (some (a0 == 46)))) else (if a0 = 95 then (some true) else (some (a0 == 46)))))) else (if a0 ≥ 65 then (if a0 ≤ 90 then (some true) else (if a0 ≥ 48 then (if a0 ≤ 57 then (some true) else (if a0 = 95 then (some true) else (some (a0 == 46)))) else (if a0 = 95 then (some true) else (some (a0 == 46))))) else (if a0 ≥ 48 then (if a0 ≤ 57 then (some true) else (if a0 = 95 then (some true) else (some (a0 == 46)))) else (if a0 = 95 then (some true) else (some (a0 == 46)))))) = some r := h
  clear h
  by_cases c2 : a0 ≥ 97
  · rw [if_pos c2] at H
    have c2b0 : decide (97 ≤ a0) = true := decide_eq_true c2
    clear c2
    by_cases c3 : a0 ≤ 122
    · rw [if_pos c3] at H
      have c3b0 : decide (a0 ≤ 122) = true := decide_eq_true c3
      clear c3
      obtain rfl := Option.some.inj H
      go_enter Tryd.func71, Tryd.ntmps71
      go_wp2
      go_ret
      exact ⟨by first | rfl | (simp; done) | (simp [*]; done) | (have ne_ : ∀ l : List UInt8, (l != []) = !l.isEmpty := (fun l => by cases l <;> rfl); simp [ne_]; done), by repeat (first | exact Drawn0.refl _ | apply Drawn0.step)⟩
    · rw [if_neg c3] at H
      have c3b0 : decide (a0 ≤ 122) = false := decide_eq_false c3
      clear c3
      by_cases c4 : a0 ≥ 65
      · rw [if_pos c4] at H
        have c4b0 : decide (65 ≤ a0) = true := decide_eq_true c4
        clear c4
        by_cases c5 : a0 ≤ 90
        · rw [if_pos c5] at H
          have c5b0 : decide (a0 ≤ 90) = true := decide_eq_true c5
          clear c5
          obtain rfl := Option.some.inj H
          go_enter Tryd.func71, Tryd.ntmps71
          go_wp2
          go_ret
          exact ⟨by first | rfl | (simp; done) | (simp [*]; done) | (have ne_ : ∀ l : List UInt8, (l != []) = !l.isEmpty := (fun l => by cases l <;> rfl); simp [ne_]; done), by repeat (first | exact Drawn0.refl _ | apply Drawn0.step)⟩
        · rw [if_neg c5] at H
          have c5b0 : decide (a0 ≤ 90) = false := decide_eq_false c5
          clear c5
          by_cases c6 : a0 ≥ 48
          · rw [if_pos c6] at H
            have c6b0 : decide (48 ≤ a0) = true := decide_eq_true c6
            clear c6
            by_cases c7 : a0 ≤ 57
            · rw [if_pos c7] at H
              have c7b0 : decide (a0 ≤ 57) = true := decide_eq_true c7
              clear c7
              obtain rfl := Option.some.inj H
              go_enter Tryd.func71, Tryd.ntmps71
              go_wp2
              go_ret
              exact ⟨by first | rfl | (simp; done) | (simp [*]; done) | (have ne_ : ∀ l : List UInt8, (l != []) = !l.isEmpty := (fun l => by cases l <;> rfl); simp [ne_]; done), by repeat (first | exact Drawn0.refl _ | apply Drawn0.step)⟩
            · rw [if_neg c7] at H
              have c7b0 : decide (a0 ≤ 57) = false := decide_eq_false c7
              clear c7
              by_cases c8 : a0 = 95
              · rw [if_pos c8] at H
                have c8b0 : (a0 == 95) = true := beq_iff_eq.mpr c8
                have c8b1 : (a0 != 95) = false := bne_eq_false_iff_eq.mpr c8
                clear c8
                obtain rfl := Option.some.inj H
                go_enter Tryd.func71, Tryd.ntmps71
                go_wp2
                go_ret
                exact ⟨by first | rfl | (simp; done) | (simp [*]; done) | (have ne_ : ∀ l : List UInt8, (l != []) = !l.isEmpty := (fun l => by cases l <;> rfl); simp [ne_]; done), by repeat (first | exact Drawn0.refl _ | apply Drawn0.step)⟩
              · rw [if_neg c8] at H
                have c8b0 : (a0 == 95) = false := beq_eq_false_iff_ne.mpr c8
                have c8b1 : (a0 != 95) = true := bne_iff_ne.mpr c8
                obtain rfl := Option.some.inj H
                go_enter Tryd.func71, Tryd.ntmps71
                go_wp2
                go_ret
                exact ⟨by first | rfl | (simp; done) | (simp [*]; done) | (have ne_ : ∀ l : List UInt8, (l != []) = !l.isEmpty := (fun l => by cases l <;> rfl); simp [ne_]; done), by repeat (first | exact Drawn0.refl _ | apply Drawn0.step)⟩
          · rw [if_neg c6] at H
            have c6b0 : decide (48 ≤ a0) = false := decide_eq_false c6
            clear c6
            by_cases c9 : a0 = 95
            · rw [if_pos c9] at H
              have c9b0 : (a0 == 95) = true := beq_iff_eq.mpr c9
              have c9b1 : (a0 != 95) = false := bne_eq_false_iff_eq.mpr c9
              clear c9
              obtain rfl := Option.some.inj H
              go_enter Tryd.func71, Tryd.ntmps71
              go_wp2
              go_ret
              exact ⟨by first | rfl | (simp; done) | (simp [*]; done) | (have ne_ : ∀ l : List UInt8, (l != []) = !l.isEmpty := (fun l => by cases l <;> rfl); simp [ne_]; done), by repeat (first | exact Drawn0.refl _ | apply Drawn0.step)⟩
            · rw [if_neg c9] at H
              have c9b0 : (a0 == 95) = false := beq_eq_false_iff_ne.mpr c9
              have c9b1 : (a0 != 95) = true := bne_iff_ne.mpr c9
              obtain rfl := Option.some.inj H
              go_enter Tryd.func71, Tryd.ntmps71
              go_wp2
              go_ret
              exact ⟨by first | rfl | (simp; done) | (simp [*]; done) | (have ne_ : ∀ l : List UInt8, (l != []) = !l.isEmpty := (fun l => by cases l <;> rfl); simp [ne_]; done), by repeat (first | exact Drawn0.refl _ | apply Drawn0.step)⟩
      · rw [if_neg c4] at H
        have c4b0 : decide (65 ≤ a0) = false := decide_eq_false c4
        clear c4
        by_cases c10 : a0 ≥ 48
        · rw [if_pos c10] at H
          have c10b0 : decide (48 ≤ a0) = true := decide_eq_true c10
          clear c10
          by_cases c11 : a0 ≤ 57
          · rw [if_pos c11] at H
            have c11b0 : decide (a0 ≤ 57) = true := decide_eq_true c11
            clear c11
            obtain rfl := Option.some.inj H
            go_enter Tryd.func71, Tryd.ntmps71
            go_wp2
            go_ret
            exact ⟨by first | rfl | (simp; done) | (simp [*]; done) | (have ne_ : ∀ l : List UInt8, (l != []) = !l.isEmpty := (fun l => by cases l <;> rfl); simp [ne_]; done), by repeat (first | exact Drawn0.refl _ | apply Drawn0.step)⟩
          · rw [if_neg c11] at H
            have c11b0 : decide (a0 ≤ 57) = false := decide_eq_false c11
            clear c11
            by_cases c12 : a0 = 95
            · rw [if_pos c12] at H
              have c12b0 : (a0 == 95) = true := beq_iff_eq.mpr c12
              have c12b1 : (a0 != 95) = false := bne_eq_false_iff_eq.mpr c12
              clear c12
              obtain rfl := Option.some.inj H
              go_enter Tryd.func71, Tryd.ntmps71
              go_wp2
              go_ret
              exact ⟨by first | rfl | (simp; done) | (simp [*]; done) | (have ne_ : ∀ l : List UInt8, (l != []) = !l.isEmpty := (fun l => by cases l <;> rfl); simp [ne_]; done), by repeat (first | exact Drawn0.refl _ | apply Drawn0.step)⟩
            · rw [if_neg c12] at H
              have c12b0 : (a0 == 95) = false := beq_eq_false_iff_ne.mpr c12
              have c12b1 : (a0 != 95) = true := bne_iff_ne.mpr c12
              obtain rfl := Option.some.inj H
              go_enter Tryd.func71, Tryd.ntmps71
              go_wp2
              go_ret
              exact ⟨by first | rfl | (simp; done) | (simp [*]; done) | (have ne_ : ∀ l : List UInt8, (l != []) = !l.isEmpty := (fun l => by cases l <;> rfl); simp [ne_]; done), by repeat (first | exact Drawn0.refl _ | apply Drawn0.step)⟩
        · rw [if_neg c10] at H
          have c10b0 : decide (48 ≤ a0) = false := decide_eq_false c10
          clear c10
          by_cases c13 : a0 = 95
          · rw [if_pos c13] at H
            have c13b0 : (a0 == 95) = true := beq_iff_eq.mpr c13
            have c13b1 : (a0 != 95) = false := bne_eq_false_iff_eq.mpr c13
            clear c13
            obtain rfl := Option.some.inj H
            go_enter Tryd.func71, Tryd.ntmps71
            go_wp2
            go_ret
            exact ⟨by first | rfl | (simp; done) | (simp [*]; done) | (have ne_ : ∀ l : List UInt8, (l != []) = !l.isEmpty := (fun l => by cases l <;> rfl); simp [ne_]; done), by repeat (first | exact Drawn0.refl _ | apply Drawn0.step)⟩
          · rw [if_neg c13] at H
            have c13b0 : (a0 == 95) = false := beq_eq_false_iff_ne.mpr c13
            have c13b1 : (a0 != 95) = true := bne_iff_ne.mpr c13
            obtain rfl := Option.some.inj H
            go_enter Tryd.func71, Tryd.ntmps71
            go_wp2
            go_ret
            exact ⟨by first | rfl | (simp; done) | (simp [*]; done) | (have ne_ : ∀ l : List UInt8, (l != []) = !l.isEmpty := (fun l => by cases l <;> rfl); simp [ne_]; done), by repeat (first | exact Drawn0.refl _ | apply Drawn0.step)⟩
  · rw [if_neg c2] at H
    have c2b0 : decide (97 ≤ a0) = false := decide_eq_false c2
    clear c2
    by_cases c14 : a0 ≥ 65
    · rw [if_pos c14] at H
      have c14b0 : decide (65 ≤ a0) = true := decide_eq_true c14
      clear c14
      by_cases c15 : a0 ≤ 90
      · rw [if_pos c15] at H
        have c15b0 : decide (a0 ≤ 90) = true := decide_eq_true c15
        clear c15
        obtain rfl := Option.some.inj H
        go_enter Tryd.func71, Tryd.ntmps71
        go_wp2
        go_ret
        exact ⟨by first | rfl | (simp; done) | (simp [*]; done) | (have ne_ : ∀ l : List UInt8, (l != []) = !l.isEmpty := (fun l => by cases l <;> rfl); simp [ne_]; done), by repeat (first | exact Drawn0.refl _ | apply Drawn0.step)⟩
      · rw [if_neg c15] at H
        have c15b0 : decide (a0 ≤ 90) = false := decide_eq_false c15
        clear c15
        by_cases c16 : a0 ≥ 48
        · rw [if_pos c16] at H
          have c16b0 : decide (48 ≤ a0) = true := decide_eq_true c16
          clear c16
          by_cases c17 : a0 ≤ 57
          · rw [if_pos c17] at H
            have c17b0 : decide (a0 ≤ 57) = true := decide_eq_true c17
            clear c17
            obtain rfl := Option.some.inj H
            go_enter Tryd.func71, Tryd.ntmps71
            go_wp2
            go_ret
            exact ⟨by first | rfl | (simp; done) | (simp [*]; done) | (have ne_ : ∀ l : List UInt8, (l != []) = !l.isEmpty := (fun l => by cases l <;> rfl); simp [ne_]; done), by repeat (first | exact Drawn0.refl _ | apply Drawn0.step)⟩
          · rw [if_neg c17] at H
            have c17b0 : decide (a0 ≤ 57) = false := decide_eq_false c17
            clear c17
            by_cases c18 : a0 = 95
            · rw [if_pos c18] at H
              have c18b0 : (a0 == 95) = true := beq_iff_eq.mpr c18
              have c18b1 : (a0 != 95) = false := bne_eq_false_iff_eq.mpr c18
              clear c18
              obtain rfl := Option.some.inj H
              go_enter Tryd.func71, Tryd.ntmps71
              go_wp2
              go_ret
              exact ⟨by first | rfl | (simp; done) | (simp [*]; done) | (have ne_ : ∀ l : List UInt8, (l != []) = !l.isEmpty := (fun l => by cases l <;> rfl); simp [ne_]; done), by repeat (first | exact Drawn0.refl _ | apply Drawn0.step)⟩
            · rw [if_neg c18] at H
              have c18b0 : (a0 == 95) = false := beq_eq_false_iff_ne.mpr c18
              have c18b1 : (a0 != 95) = true := bne_iff_ne.mpr c18
              obtain rfl := Option.some.inj H
              go_enter Tryd.func71, Tryd.ntmps71
              go_wp2
              go_ret
              exact ⟨by first | rfl | (simp; done) | (simp [*]; done) | (have ne_ : ∀ l : List UInt8, (l != []) = !l.isEmpty := (fun l => by cases l <;> rfl); simp [ne_]; done), by repeat (first | exact Drawn0.refl _ | apply Drawn0.step)⟩
        · rw [if_neg c16] at H
          have c16b0 : decide (48 ≤ a0) = false := decide_eq_false c16
          clear c16
          by_cases c19 : a0 = 95
          · rw [if_pos c19] at H
            have c19b0 : (a0 == 95) = true := beq_iff_eq.mpr c19
            have c19b1 : (a0 != 95) = false := bne_eq_false_iff_eq.mpr c19
            clear c19
            obtain rfl := Option.some.inj H
            go_enter Tryd.func71, Tryd.ntmps71
            go_wp2
            go_ret
            exact ⟨by first | rfl | (simp; done) | (simp [*]; done) | (have ne_ : ∀ l : List UInt8, (l != []) = !l.isEmpty := (fun l => by cases l <;> rfl); simp [ne_]; done), by repeat (first | exact Drawn0.refl _ | apply Drawn0.step)⟩
          · rw [if_neg c19] at H
            have c19b0 : (a0 == 95) = false := beq_eq_false_iff_ne.mpr c19
            have c19b1 : (a0 != 95) = true := bne_iff_ne.mpr c19
            obtain rfl := Option.some.inj H
            go_enter Tryd.func71, Tryd.ntmps71
            go_wp2
            go_ret
            exact ⟨by first | rfl | (simp; done) | (simp [*]; done) | (have ne_ : ∀ l : List UInt8, (l != []) = !l.isEmpty := (fun l => by cases l <;> rfl); simp [ne_]; done), by repeat (first | exact Drawn0.refl _ | apply Drawn0.step)⟩
    · rw [if_neg c14] at H
      have c14b0 : decide (65 ≤ a0) = false := decide_eq_false c14
      clear c14
      by_cases c20 : a0 ≥ 48
      · rw [if_pos c20] at H
        have c20b0 : decide (48 ≤ a0) = true := decide_eq_true c20
        clear c20
        by_cases c21 : a0 ≤ 57
        · rw [if_pos c21] at H
          have c21b0 : decide (a0 ≤ 57) = true := decide_eq_true c21
          clear c21
          obtain rfl := Option.some.inj H
          go_enter Tryd.func71, Tryd.ntmps71
          go_wp2
          go_ret
          exact ⟨by first | rfl | (simp; done) | (simp [*]; done) | (have ne_ : ∀ l : List UInt8, (l != []) = !l.isEmpty := (fun l => by cases l <;> rfl); simp [ne_]; done), by repeat (first | exact Drawn0.refl _ | apply Drawn0.step)⟩
        · rw [if_neg c21] at H
          have c21b0 : decide (a0 ≤ 57) = false := decide_eq_false c21
          clear c21
          by_cases c22 : a0 = 95
          · rw [if_pos c22] at H
            have c22b0 : (a0 == 95) = true := beq_iff_eq.mpr c22
            have c22b1 : (a0 != 95) = false := bne_eq_false_iff_eq.mpr c22
            clear c22
            obtain rfl := Option.some.inj H
            go_enter Tryd.func71, Tryd.ntmps71
            go_wp2
            go_ret
            exact ⟨by first | rfl | (simp; done) | (simp [*]; done) | (have ne_ : ∀ l : List UInt8, (l != []) = !l.isEmpty := (fun l => by cases l <;> rfl); simp [ne_]; done), by repeat (first | exact Drawn0.refl _ | apply Drawn0.step)⟩
          · rw [if_neg c22] at H
            have c22b0 : (a0 == 95) = false := beq_eq_false_iff_ne.mpr c22
            have c22b1 : (a0 != 95) = true := bne_iff_ne.mpr c22
            obtain rfl := Option.some.inj H
            go_enter Tryd.func71, Tryd.ntmps71
            go_wp2
            go_ret
            exact ⟨by first | rfl | (simp; done) | (simp [*]; done) | (have ne_ : ∀ l : List UInt8, (l != []) = !l.isEmpty := (fun l => by cases l <;> rfl); simp [ne_]; done), by repeat (first | exact Drawn0.refl _ | apply Drawn0.step)⟩
      · rw [if_neg c20] at H
        have c20b0 : decide (48 ≤ a0) = false := decide_eq_false c20
        clear c20
        by_cases c23 : a0 = 95
        · rw [if_pos c23] at H
          have c23b0 : (a0 == 95) = true := beq_iff_eq.mpr c23
          have c23b1 : (a0 != 95) = false := bne_eq_false_iff_eq.mpr c23
          clear c23
          obtain rfl := Option.some.inj H
          go_enter Tryd.func71, Tryd.ntmps71
          go_wp2
          go_ret
          exact ⟨by first | rfl | (simp; done) | (simp [*]; done) | (have ne_ : ∀ l : List UInt8, (l != []) = !l.isEmpty := (fun l => by cases l <;> rfl); simp [ne_]; done), by repeat (first | exact Drawn0.refl _ | apply Drawn0.step)⟩
        · rw [if_neg c23] at H
          have c23b0 : (a0 == 95) = false := beq_eq_false_iff_ne.mpr c23
          have c23b1 : (a0 != 95) = true := bne_iff_ne.mpr c23
          obtain rfl := Option.some.inj H
          go_enter Tryd.func71, Tryd.ntmps71
          go_wp2
          go_ret
          exact ⟨by first | rfl | (simp; done) | (simp [*]; done) | (have ne_ : ∀ l : List UInt8, (l != []) = !l.isEmpty := (fun l => by cases l <;> rfl); simp [ne_]; done), by repeat (first | exact Drawn0.refl _ | apply Drawn0.step)⟩

end Go.Proofs.YtjndccjpjknbkaaDoor.PPl

-- by hprint.py (wip/): the kit's print over contracts proved by hand; a text of this session
namespace Go.Proofs.YtjndccjpjknbkaaDoor.PPl
open Go.RowKit Go.Proofs.YtjndccjpjknbkaaDoorW.PrintWords Go.Proofs.YtjndccjpjknbkaaDoorW.PrintLast Go.Proofs.YtjndccjpjknbkaaDoorW.PrintMore
attribute [local go_sem] max2_int min2_int max_two min_two max_three min_three max_four min_four   -- for this text's walks alone
set_option linter.unusedVariables false
set_option linter.unusedSimpArgs false

/-! ### graftbedref12_Tag: function 53 -/
def graftbedref12_Tag.l0 : Nat → ByteArray → Int → Option (Bool)
  | 0, _, _ => none
  | k + 1, x0, x3 => if x3 < (x0.size : Int) then (if 0 ≤ x3 then ((graftbedref12_letter.f (bt x0 x3)).bind fun t104 => (if t104 = true then (graftbedref12_Tag.l0 k x0 (wrap64 (x3 + 1))) else (some false))) else (none)) else (if x0.toList = ([] : List UInt8) then (some false) else (some (decide ((x0.size : Int) ≤ 60))))
def graftbedref12_Tag.f (k : Nat) (a0 : ByteArray) : Option (Bool) := graftbedref12_Tag.l0 k a0 0
theorem graftbedref12_Tag.mono_l : ∀ k, (∀ y0 y1, LeO (graftbedref12_Tag.l0 k y0 y1) (graftbedref12_Tag.l0 (k + 1) y0 y1))
  | 0 => fun _ _ r h => by simp [graftbedref12_Tag.l0] at h
  | k + 1 => by
    have ih0 := graftbedref12_Tag.mono_l k
    · intro y0 y1
      unfold graftbedref12_Tag.l0
      repeat' first
      | (with_reducible exact ih0 _ _)
      | (with_reducible exact LeO.refl _)
      | (with_reducible exact LeO.none _)
      | (with_reducible refine LeO.ite ?_ ?_)
      | (with_reducible refine LeO.bind ?_ (fun _ => ?_))
      | exact ih0 _ _
      | exact LeO.none _
      | refine LeO.ite ?_ ?_
      | refine LeO.bind ?_ (fun _ => ?_)
theorem graftbedref12_Tag.mono : ∀ a0 k, LeO (graftbedref12_Tag.f k a0) (graftbedref12_Tag.f (k + 1) a0) := by
  intro a0 k
  have ih0 := graftbedref12_Tag.mono_l k
  unfold graftbedref12_Tag.f
  repeat' first
      | (with_reducible exact ih0 _ _)
      | (with_reducible exact LeO.refl _)
      | (with_reducible exact LeO.none _)
      | (with_reducible refine LeO.ite ?_ ?_)
      | (with_reducible refine LeO.bind ?_ (fun _ => ?_))
      | exact ih0 _ _
      | exact LeO.none _
      | refine LeO.ite ?_ ?_
      | refine LeO.bind ?_ (fun _ => ?_)
set_option maxHeartbeats 8000000 in
set_option maxRecDepth 100000 in
theorem graftbedref12_Tag.calls (k : Nat) (a0 : ByteArray) (r : Bool) (w : World) (h : graftbedref12_Tag.f k a0 = some r) :
    Calls Tryd.prog 53 #[.string a0] w fun e w' => e = .returned (.bool r) ∧ Drawn0 w w' := by
  have H : (graftbedref12_Tag.l0 k a0 0) = some r := h
  clear h
  have H' := Aside0.mk H
  clear H
  go_enter Tryd.func53, Tryd.ntmps53
  go_wp2
  go_loopg [3] k (fun kq v3 w' => ∃ (x3_1 : Int), v3 = .int .i64 x3_1 ∧ Aside0 (graftbedref12_Tag.l0 kq a0 x3_1 = some r) ∧ Aside0 (kq ≤ k) ∧ Drawn0 w w')
  case atStart => exact ⟨(0), (by first | rfl | (simp; done) | (simp [*]; done)), H', ⟨Nat.le_refl _⟩, by repeat (first | exact Drawn0.refl _ | apply Drawn0.step)⟩
  case round =>
    clear H'
    obtain ⟨x3_1, rfl, HA, HK1, ⟨m1, rfl⟩⟩ := hrel
    cases gk with
    | zero => exact absurd HA.out (by simp [graftbedref12_Tag.l0])
    | succ k1 =>
      have H := HA.out
      clear HA
      simp only [graftbedref12_Tag.l0] at H
      by_cases c2 : x3_1 < (a0.size : Int)
      · rw [if_pos c2] at H
        have c2b0 : decide (x3_1 < (a0.size : Int)) = true := decide_eq_true c2
        clear c2
        by_cases c3 : 0 ≤ x3_1
        · rw [if_pos c3] at H
          have c3b0 : decide (0 ≤ x3_1) = true := decide_eq_true c3
          clear c3
          replace H := Option.bind_eq_some_iff.mp H
          obtain ⟨t104, A50, H⟩ := H
          replace H : (if t104 = true then (graftbedref12_Tag.l0 k1 a0 (wrap64 (x3_1 + 1))) else (some false)) = some r := H
          have A5 := Aside0.mk A50
          clear A50
          by_cases c6 : t104 = true
          · subst c6
            have H1 : (graftbedref12_Tag.l0 k1 a0 (wrap64 (x3_1 + 1))) = some r := by rw [if_pos rfl] at H; exact H
            clear H
            have H := H1
            clear H1
            have H' := Aside0.mk H
            clear H
            have p4 : 0 ≤ (x3_1 : Int) := of_decide_eq_true (by first | (with_reducible assumption) | assumption)
            have q4 : x3_1 < (a0.size : Int) := of_decide_eq_true (by first | (with_reducible assumption) | assumption)
            have hx4 := bt_at a0 x3_1
            replace p4 := eq_true p4
            replace q4 := eq_true q4
            go_wp2_with (first | ((with_reducible refine gate_callee (f := 71) rfl ?_); refine goesL_ (some 13) rfl rfl Tryd.func71 (by kernel_rfl) rfl #[.int .u8 (bt a0 x3_1)] rfl (by (try simp only [List.map_toArray, List.map_cons, List.map_nil]); first | done | rfl | (simp only [List.length_drop, List.length_take]; rfl) | (simp only [ByteArray.size_extract, Nat.min_self]; done) | (simp only [ByteArray.size_append, StrMore.size_lit, List.length_cons, List.length_nil, Nat.zero_add, Nat.reduceAdd] <;> rfl)) ?_; (with_reducible refine (graftbedref12_letter.calls (bt a0 x3_1) true _ A5.out).mono ?_); rintro e w' ⟨rfl, ⟨nd, rfl⟩⟩; refine ⟨_, rfl, ?_⟩))
            go_roundg k1
            case measure => have := HK1.out; omega
            case rel => exact ⟨(wrap64 (x3_1 + 1)), (by first | rfl | (simp; done) | (simp [*]; done)), H', ⟨by have := HK1.out; omega⟩, by repeat (first | exact Drawn0.refl _ | apply Drawn0.step)⟩
          · replace c6 := Bool.eq_false_iff.mpr c6
            subst c6
            have H1 : (some false) = some r := by rw [if_neg (show ¬ (false = true) by decide)] at H; exact H
            clear H
            have H := H1
            clear H1
            obtain rfl := Option.some.inj H
            have p4 : 0 ≤ (x3_1 : Int) := of_decide_eq_true (by first | (with_reducible assumption) | assumption)
            have q4 : x3_1 < (a0.size : Int) := of_decide_eq_true (by first | (with_reducible assumption) | assumption)
            have hx4 := bt_at a0 x3_1
            replace p4 := eq_true p4
            replace q4 := eq_true q4
            go_wp2_with (first | ((with_reducible refine gate_callee (f := 71) rfl ?_); refine goesL_ (some 13) rfl rfl Tryd.func71 (by kernel_rfl) rfl #[.int .u8 (bt a0 x3_1)] rfl (by (try simp only [List.map_toArray, List.map_cons, List.map_nil]); first | done | rfl | (simp only [List.length_drop, List.length_take]; rfl) | (simp only [ByteArray.size_extract, Nat.min_self]; done) | (simp only [ByteArray.size_append, StrMore.size_lit, List.length_cons, List.length_nil, Nat.zero_add, Nat.reduceAdd] <;> rfl)) ?_; (with_reducible refine (graftbedref12_letter.calls (bt a0 x3_1) false _ A5.out).mono ?_); rintro e w' ⟨rfl, ⟨nd, rfl⟩⟩; refine ⟨_, rfl, ?_⟩))
            go_ret
            exact ⟨by first | rfl | (simp; done) | (simp [*]; done) | (have ne_ : ∀ l : List UInt8, (l != []) = !l.isEmpty := (fun l => by cases l <;> rfl); simp [ne_]; done), by repeat (first | exact Drawn0.refl _ | apply Drawn0.step)⟩
        · rw [if_neg c3] at H
          exact absurd H (by simp)
      · rw [if_neg c2] at H
        have c2b0 : decide (x3_1 < (a0.size : Int)) = false := decide_eq_false c2
        clear c2
        by_cases c7 : a0.toList = ([] : List UInt8)
        · rw [if_pos c7] at H
          have c7b0 : (a0.toList == ([] : List UInt8)) = true := beq_iff_eq.mpr c7
          have c7b1 : (a0.toList != ([] : List UInt8)) = false := bne_eq_false_iff_eq.mpr c7
          have c7b5 : a0.toList.isEmpty = true := by
            have e_ := c7b1
            revert e_
            cases a0.toList <;> simp
          clear c7
          obtain rfl := Option.some.inj H
          go_wp2
          go_ret
          exact ⟨by first | rfl | (simp; done) | (simp [*]; done) | (have ne_ : ∀ l : List UInt8, (l != []) = !l.isEmpty := (fun l => by cases l <;> rfl); simp [ne_]; done), by repeat (first | exact Drawn0.refl _ | apply Drawn0.step)⟩
        · rw [if_neg c7] at H
          have c7b0 : (a0.toList == ([] : List UInt8)) = false := beq_eq_false_iff_ne.mpr c7
          have c7b1 : (a0.toList != ([] : List UInt8)) = true := bne_iff_ne.mpr c7
          have c7b5 : a0.toList.isEmpty = false := by
            have e_ := c7b1
            revert e_
            cases a0.toList <;> simp
          obtain rfl := Option.some.inj H
          go_wp2
          go_ret
          exact ⟨by first | rfl | (simp; done) | (simp [*]; done) | (have ne_ : ∀ l : List UInt8, (l != []) = !l.isEmpty := (fun l => by cases l <;> rfl); simp [ne_]; done), by repeat (first | exact Drawn0.refl _ | apply Drawn0.step)⟩

end Go.Proofs.YtjndccjpjknbkaaDoor.PPl

-- by hprint.py (wip/): the kit's print over contracts proved by hand; a text of this session
namespace Go.Proofs.YtjndccjpjknbkaaDoor.PPl
open Go.RowKit Go.Proofs.YtjndccjpjknbkaaDoorW.PrintWords Go.Proofs.YtjndccjpjknbkaaDoorW.PrintLast Go.Proofs.YtjndccjpjknbkaaDoorW.PrintMore
attribute [local go_sem] max2_int min2_int max_two min_two max_three min_three max_four min_four   -- for this text's walks alone
set_option linter.unusedVariables false
set_option linter.unusedSimpArgs false

/-! ### graftbedref12_whole: function 37 -/
mutual
def graftbedref12_whole.j0 : Nat → List (S61) → Int → Bool → Int → ByteArray → Int → Int → Option (Int × Int)
  | 0, _, _, _, _, _, _, _ => none
  | k + 1, x0, x1, x66, x107000, x107001, x107002, x107003 => if x66 = true then (if x107001.toList = ([] : List UInt8) then (if x107003 = (wrap64 (x1 - 1)) then (graftbedref12_whole.j1 k x0 x1 (decide (x1 > 1)) x107000 x107001 x107002 x107003) else (graftbedref12_whole.j1 k x0 x1 false x107000 x107001 x107002 x107003)) else (graftbedref12_whole.j1 k x0 x1 false x107000 x107001 x107002 x107003)) else (some ((-1), 0))
def graftbedref12_whole.j1 : Nat → List (S61) → Int → Bool → Int → ByteArray → Int → Int → Option (Int × Int)
  | 0, _, _, _, _, _, _, _ => none
  | k + 1, x0, x1, x82, x107000, x107001, x107002, x107003 => if x82 = true then ((graftbedref12_whole.f k x0 (wrap64 (x1 - 1))).bind fun bt110 => (if bt110.1 > 0 then (if x107002 = (wrap64 (bt110.1 - 1)) then ((graftbedref12_whole.f k x0 (wrap64 (bt110.1 - 1))).bind fun bt112 => (some (bt112.1, wrap64 ((mx bt110.2 bt112.2) + 1)))) else (some ((-1), 0))) else (some ((-1), 0)))) else (some ((-1), 0))
def graftbedref12_whole.f : Nat → List (S61) → Int → Option (Int × Int)
  | 0, _, _ => none
  | k + 1, l0, a1 => if 0 ≤ a1 then (if a1 < (l0.length : Int) then (if ((rd_T61 l0 a1).f0) = 0 then ((graftbedref12_Tag.f k ((rd_T61 l0 a1).f1)).bind fun t107 => (if t107 = true then (if ((rd_T61 l0 a1).f2) = 0 then (if ((rd_T61 l0 a1).f3) = 0 then (some (a1, 1)) else (some ((-1), 0))) else (some ((-1), 0))) else (some ((-1), 0)))) else (if ((rd_T61 l0 a1).f0) = 1 then (if ((rd_T61 l0 a1).f1).toList = ([] : List UInt8) then (if ((rd_T61 l0 a1).f3) = 0 then (if ((rd_T61 l0 a1).f2) = (wrap64 (a1 - 1)) then (if a1 > 0 then ((graftbedref12_whole.f k l0 (wrap64 (a1 - 1))).bind fun bt108 => (some (bt108.1, wrap64 (bt108.2 + 1)))) else (some ((-1), 0))) else (some ((-1), 0))) else (some ((-1), 0))) else (some ((-1), 0))) else (if ((rd_T61 l0 a1).f0) = 2 then (graftbedref12_whole.j0 k l0 a1 (((rd_T61 l0 a1).f0) == 2) ((rd_T61 l0 a1).f0) ((rd_T61 l0 a1).f1) ((rd_T61 l0 a1).f2) ((rd_T61 l0 a1).f3)) else (graftbedref12_whole.j0 k l0 a1 (((rd_T61 l0 a1).f0) == 3) ((rd_T61 l0 a1).f0) ((rd_T61 l0 a1).f1) ((rd_T61 l0 a1).f2) ((rd_T61 l0 a1).f3))))) else (none)) else (none)
end
theorem graftbedref12_whole.mono_l : ∀ k, (∀ y0 y1, LeO (graftbedref12_whole.f k y0 y1) (graftbedref12_whole.f (k + 1) y0 y1)) ∧ (∀ y0 y1 y2 y3 y4 y5 y6, LeO (graftbedref12_whole.j0 k y0 y1 y2 y3 y4 y5 y6) (graftbedref12_whole.j0 (k + 1) y0 y1 y2 y3 y4 y5 y6)) ∧ (∀ y0 y1 y2 y3 y4 y5 y6, LeO (graftbedref12_whole.j1 k y0 y1 y2 y3 y4 y5 y6) (graftbedref12_whole.j1 (k + 1) y0 y1 y2 y3 y4 y5 y6))
  | 0 => ⟨fun _ _ r h => by simp [graftbedref12_whole.f] at h, fun _ _ _ _ _ _ _ r h => by simp [graftbedref12_whole.j0] at h, fun _ _ _ _ _ _ _ r h => by simp [graftbedref12_whole.j1] at h⟩
  | k + 1 => by
    obtain ⟨ih0, ih1, ih2⟩ := graftbedref12_whole.mono_l k
    refine ⟨?_, ?_, ?_⟩
    · intro y0 y1
      unfold graftbedref12_whole.f
      repeat' first
      | (with_reducible exact ih0 _ _)
      | (with_reducible exact ih1 _ _ _ _ _ _ _)
      | (with_reducible exact ih2 _ _ _ _ _ _ _)
      | (with_reducible exact graftbedref12_Tag.mono _ _)
      | (with_reducible exact LeO.refl _)
      | (with_reducible exact LeO.none _)
      | (with_reducible refine LeO.ite ?_ ?_)
      | (with_reducible refine LeO.bind ?_ (fun _ => ?_))
      | exact ih0 _ _
      | exact ih1 _ _ _ _ _ _ _
      | exact ih2 _ _ _ _ _ _ _
      | exact graftbedref12_Tag.mono _ _
      | exact LeO.none _
      | refine LeO.ite ?_ ?_
      | refine LeO.bind ?_ (fun _ => ?_)
    · intro y0 y1 y2 y3 y4 y5 y6
      unfold graftbedref12_whole.j0
      repeat' first
      | (with_reducible exact ih0 _ _)
      | (with_reducible exact ih1 _ _ _ _ _ _ _)
      | (with_reducible exact ih2 _ _ _ _ _ _ _)
      | (with_reducible exact graftbedref12_Tag.mono _ _)
      | (with_reducible exact LeO.refl _)
      | (with_reducible exact LeO.none _)
      | (with_reducible refine LeO.ite ?_ ?_)
      | (with_reducible refine LeO.bind ?_ (fun _ => ?_))
      | exact ih0 _ _
      | exact ih1 _ _ _ _ _ _ _
      | exact ih2 _ _ _ _ _ _ _
      | exact graftbedref12_Tag.mono _ _
      | exact LeO.none _
      | refine LeO.ite ?_ ?_
      | refine LeO.bind ?_ (fun _ => ?_)
    · intro y0 y1 y2 y3 y4 y5 y6
      unfold graftbedref12_whole.j1
      repeat' first
      | (with_reducible exact ih0 _ _)
      | (with_reducible exact ih1 _ _ _ _ _ _ _)
      | (with_reducible exact ih2 _ _ _ _ _ _ _)
      | (with_reducible exact graftbedref12_Tag.mono _ _)
      | (with_reducible exact LeO.refl _)
      | (with_reducible exact LeO.none _)
      | (with_reducible refine LeO.ite ?_ ?_)
      | (with_reducible refine LeO.bind ?_ (fun _ => ?_))
      | exact ih0 _ _
      | exact ih1 _ _ _ _ _ _ _
      | exact ih2 _ _ _ _ _ _ _
      | exact graftbedref12_Tag.mono _ _
      | exact LeO.none _
      | refine LeO.ite ?_ ?_
      | refine LeO.bind ?_ (fun _ => ?_)
theorem graftbedref12_whole.mono : ∀ a0 a1 k, LeO (graftbedref12_whole.f k a0 a1) (graftbedref12_whole.f (k + 1) a0 a1) := by
  intro a0 a1 k
  obtain ⟨ih0, ih1, ih2⟩ := graftbedref12_whole.mono_l k
  exact ih0 a0 a1
set_option maxHeartbeats 8000000 in
set_option maxRecDepth 100000 in
theorem graftbedref12_whole.calls (k : Nat) : ∀ (A0 : Option Addr) (c0 : Nat) (l0 : List (S61)) (a1 : Int) (r1 : Int) (r2 : Int) (w : World) (hr0 : Kd.C k61 w A0 l0.length l0) (hc0 : l0.length ≤ c0) (h : graftbedref12_whole.f k l0 a1 = some (r1, r2)),
    Calls Tryd.prog 37 #[.slice A0 l0.length c0, .int .i64 a1] w fun e w' => e = .returned (.tuple #[.int .i64 r1, .int .i64 r2]) ∧ Below w.heap.size w w' := by
  induction k using Nat.strongRecOn with
  | _ k ih =>
  intro A0 c0 l0 a1 r1 r2 w hr0 hc0 h
  cases k with
  | zero => exact absurd h (by simp [graftbedref12_whole.f])
  | succ k =>
  simp only [graftbedref12_whole.f] at h
  have hu61 := Tryd.underlying61
  have HR0 := Aside0.mk hr0
  have HC0 := Aside0.mk hc0
  clear hr0 hc0
  have HB := Aside0.mk (Below.refl w.heap.size w)
  have H : (if 0 ≤ a1 then (if a1 < (l0.length : Int) then (if ((rd_T61 l0 a1).f0) = 0 then ((graftbedref12_Tag.f k ((rd_T61 l0 a1).f1)).bind fun t107 => (if t107 = true then (if ((rd_T61 l0 a1).f2) = 0 then (if ((rd_T61 l0 a1).f3) = 0 then (some (a1, 1)) else (some ((-1), 0))) else (some ((-1), 0))) else (some ((-1), 0)))) else (if ((rd_T61 l0 a1).f0) = 1 then (if ((rd_T61 l0 a1).f1).toList = ([] : List UInt8) then (if ((rd_T61 l0 a1).f3) = 0 then (if ((rd_T61 l0 a1).f2) = (wrap64 (a1 - 1)) then (if a1 > 0 then ((graftbedref12_whole.f k l0 (wrap64 (a1 - 1))).bind fun bt108 => (some (bt108.1, wrap64 (bt108.2 + 1)))) else (some ((-1), 0))) else (some ((-1), 0))) else (some ((-1), 0))) else (some ((-1), 0))) else (if ((rd_T61 l0 a1).f0) = 2 then (graftbedref12_whole.j0 k l0 a1 (((rd_T61 l0 a1).f0) == 2) ((rd_T61 l0 a1).f0) ((rd_T61 l0 a1).f1) ((rd_T61 l0 a1).f2) ((rd_T61 l0 a1).f3)) else (graftbedref12_whole.j0 k l0 a1 (((rd_T61 l0 a1).f0) == 3) ((rd_T61 l0 a1).f0) ((rd_T61 l0 a1).f1) ((rd_T61 l0 a1).f2) ((rd_T61 l0 a1).f3))))) else (none)) else (none)) = some (r1, r2) := h
  clear h
  by_cases c3 : 0 ≤ a1
  · rw [if_pos c3] at H
    have c3b0 : decide (0 ≤ a1) = true := decide_eq_true c3
    clear c3
    by_cases c4 : a1 < (l0.length : Int)
    · rw [if_pos c4] at H
      have c4b0 : decide (a1 < (l0.length : Int)) = true := decide_eq_true c4
      clear c4
      by_cases c5 : ((rd_T61 l0 a1).f0) = 0
      · rw [if_pos c5] at H
        have c5b0 : (((rd_T61 l0 a1).f0) == 0) = true := beq_iff_eq.mpr c5
        have c5b1 : (((rd_T61 l0 a1).f0) != 0) = false := bne_eq_false_iff_eq.mpr c5
        clear c5
        replace H := Option.bind_eq_some_iff.mp H
        obtain ⟨t107, A60, H⟩ := H
        replace H : (if t107 = true then (if ((rd_T61 l0 a1).f2) = 0 then (if ((rd_T61 l0 a1).f3) = 0 then (some (a1, 1)) else (some ((-1), 0))) else (some ((-1), 0))) else (some ((-1), 0))) = some (r1, r2) := H
        have A6 := Aside0.mk A60
        clear A60
        by_cases c7 : t107 = true
        · subst c7
          have H1 : (if ((rd_T61 l0 a1).f2) = 0 then (if ((rd_T61 l0 a1).f3) = 0 then (some (a1, 1)) else (some ((-1), 0))) else (some ((-1), 0))) = some (r1, r2) := by rw [if_pos rfl] at H; exact H
          clear H
          have H := H1
          clear H1
          by_cases c8 : ((rd_T61 l0 a1).f2) = 0
          · rw [if_pos c8] at H
            have c8b0 : (((rd_T61 l0 a1).f2) == 0) = true := beq_iff_eq.mpr c8
            have c8b1 : (((rd_T61 l0 a1).f2) != 0) = false := bne_eq_false_iff_eq.mpr c8
            clear c8
            by_cases c9 : ((rd_T61 l0 a1).f3) = 0
            · rw [if_pos c9] at H
              have c9b0 : (((rd_T61 l0 a1).f3) == 0) = true := beq_iff_eq.mpr c9
              have c9b1 : (((rd_T61 l0 a1).f3) != 0) = false := bne_eq_false_iff_eq.mpr c9
              clear c9
              simp only [Option.some.injEq, Prod.mk.injEq] at H
              obtain ⟨rfl, rfl⟩ := H
              have p105 : 0 ≤ (a1 : Int) := of_decide_eq_true (by first | (with_reducible assumption) | assumption)
              have q105 : a1 < (l0.length : Int) := of_decide_eq_true (by first | (with_reducible assumption) | assumption)
              obtain ⟨ad105, e105, hx105_0, hx105_1, hx105_2, hx105_3⟩ := at_T61 HR0.out a1 p105 q105
              cases e105
              replace p105 := eq_true p105
              replace q105 := eq_true q105
              go_enter Tryd.func37, Tryd.ntmps37
              go_wp2_with (first | ((with_reducible refine gate_dst (N := 6) rfl ?_); refine box_event ?hg (N := 6) ?hd (cs := #[.int .i64 0, .string (⟨#[]⟩ : ByteArray), .int .i64 0, .int .i64 0]) (t := 61) ?hr ?_; (case hd => rfl); (case hg => rfl); (case hr => first | (go_simp; done) | (go_simp; rfl)); intro gb106 hg w10 hbox hb; have n0_ := Aside0.mk (below_step (by repeat (first | (with_reducible first | exact HB.out | apply below_alloc | apply pw_below_drewN | apply below_drew1) | exact HB.out)) hb); have n1_ := Aside0.mk (hbox); have n2_ := Aside0.mk ((by rw [hg]; exact (below_size (by repeat (first | (with_reducible first | exact HB.out | apply below_alloc | apply pw_below_drewN | apply below_drew1) | exact HB.out))) : w.heap.size ≤ gb106)); have n3_ := Aside0.mk ((by rw [hg]; exact (below_size (by repeat (first | (with_reducible first | exact HB.out | apply below_alloc | apply pw_below_drewN | apply below_drew1) | exact HB.out))) : w.heap.size ≤ gb106)); clear HB; have HB := n0_; have BK106 := n1_; have GW106 := n2_; have GE106 := n3_; clear n0_ n1_ n2_ n3_; clear hb hbox hg; have hcz11_0 : w10.cell? ⟨gb106, 0, none⟩ = some (.int .i64 0) := (blk_cell BK106.out 0).trans rfl; have hcz11_1 : w10.cell? ⟨gb106, 1, none⟩ = some (.string (⟨#[]⟩ : ByteArray)) := (blk_cell BK106.out 1).trans rfl; have hcz11_2 : w10.cell? ⟨gb106, 2, none⟩ = some (.int .i64 0) := (blk_cell BK106.out 2).trans rfl; have hcz11_3 : w10.cell? ⟨gb106, 3, none⟩ = some (.int .i64 0) := (blk_cell BK106.out 3).trans rfl; have hfz11_0 := blk_frozen BK106.out 0; have hfz11_1 := blk_frozen BK106.out 1; have hfz11_2 := blk_frozen BK106.out 2; have hfz11_3 := blk_frozen BK106.out 3) | ((with_reducible refine gate_callee (f := 53) rfl ?_); refine goesL_ (some 23) rfl rfl Tryd.func53 (by kernel_rfl) rfl #[.string ((rd_T61 l0 a1).f1)] rfl (by (try simp only [List.map_toArray, List.map_cons, List.map_nil]); first | done | rfl | (simp only [List.length_drop, List.length_take]; rfl) | (simp only [ByteArray.size_extract, Nat.min_self]; done) | (simp only [ByteArray.size_append, StrMore.size_lit, List.length_cons, List.length_nil, Nat.zero_add, Nat.reduceAdd] <;> rfl)) ?_; (with_reducible refine (graftbedref12_Tag.calls k ((rd_T61 l0 a1).f1) true _ A6.out).mono ?_); rintro e w' ⟨rfl, ⟨nd, rfl⟩⟩; refine ⟨_, rfl, ?_⟩))
              go_ret2
              exact ⟨by first | rfl | (simp [errW_none, errW_some] <;> rfl) | (simp [*, errW_none, errW_some] <;> rfl) | (exfalso; simp only [decide_eq_true_eq, decide_eq_false_iff_not, beq_iff_eq, beq_eq_false_iff_ne] at *; first | contradiction | omega), by repeat (first | (with_reducible first | exact HB.out | apply below_alloc | apply pw_below_drewN | apply below_drew1 | refine below_set ?_ GE106.out) | exact HB.out)⟩
            · rw [if_neg c9] at H
              have c9b0 : (((rd_T61 l0 a1).f3) == 0) = false := beq_eq_false_iff_ne.mpr c9
              have c9b1 : (((rd_T61 l0 a1).f3) != 0) = true := bne_iff_ne.mpr c9
              simp only [Option.some.injEq, Prod.mk.injEq] at H
              obtain ⟨rfl, rfl⟩ := H
              have p105 : 0 ≤ (a1 : Int) := of_decide_eq_true (by first | (with_reducible assumption) | assumption)
              have q105 : a1 < (l0.length : Int) := of_decide_eq_true (by first | (with_reducible assumption) | assumption)
              obtain ⟨ad105, e105, hx105_0, hx105_1, hx105_2, hx105_3⟩ := at_T61 HR0.out a1 p105 q105
              cases e105
              replace p105 := eq_true p105
              replace q105 := eq_true q105
              go_enter Tryd.func37, Tryd.ntmps37
              go_wp2_with (first | ((with_reducible refine gate_dst (N := 6) rfl ?_); refine box_event ?hg (N := 6) ?hd (cs := #[.int .i64 0, .string (⟨#[]⟩ : ByteArray), .int .i64 0, .int .i64 0]) (t := 61) ?hr ?_; (case hd => rfl); (case hg => rfl); (case hr => first | (go_simp; done) | (go_simp; rfl)); intro gb106 hg w12 hbox hb; have n0_ := Aside0.mk (below_step (by repeat (first | (with_reducible first | exact HB.out | apply below_alloc | apply pw_below_drewN | apply below_drew1) | exact HB.out)) hb); have n1_ := Aside0.mk (hbox); have n2_ := Aside0.mk ((by rw [hg]; exact (below_size (by repeat (first | (with_reducible first | exact HB.out | apply below_alloc | apply pw_below_drewN | apply below_drew1) | exact HB.out))) : w.heap.size ≤ gb106)); have n3_ := Aside0.mk ((by rw [hg]; exact (below_size (by repeat (first | (with_reducible first | exact HB.out | apply below_alloc | apply pw_below_drewN | apply below_drew1) | exact HB.out))) : w.heap.size ≤ gb106)); clear HB; have HB := n0_; have BK106 := n1_; have GW106 := n2_; have GE106 := n3_; clear n0_ n1_ n2_ n3_; clear hb hbox hg; have hcz13_0 : w12.cell? ⟨gb106, 0, none⟩ = some (.int .i64 0) := (blk_cell BK106.out 0).trans rfl; have hcz13_1 : w12.cell? ⟨gb106, 1, none⟩ = some (.string (⟨#[]⟩ : ByteArray)) := (blk_cell BK106.out 1).trans rfl; have hcz13_2 : w12.cell? ⟨gb106, 2, none⟩ = some (.int .i64 0) := (blk_cell BK106.out 2).trans rfl; have hcz13_3 : w12.cell? ⟨gb106, 3, none⟩ = some (.int .i64 0) := (blk_cell BK106.out 3).trans rfl; have hfz13_0 := blk_frozen BK106.out 0; have hfz13_1 := blk_frozen BK106.out 1; have hfz13_2 := blk_frozen BK106.out 2; have hfz13_3 := blk_frozen BK106.out 3) | ((with_reducible refine gate_callee (f := 53) rfl ?_); refine goesL_ (some 23) rfl rfl Tryd.func53 (by kernel_rfl) rfl #[.string ((rd_T61 l0 a1).f1)] rfl (by (try simp only [List.map_toArray, List.map_cons, List.map_nil]); first | done | rfl | (simp only [List.length_drop, List.length_take]; rfl) | (simp only [ByteArray.size_extract, Nat.min_self]; done) | (simp only [ByteArray.size_append, StrMore.size_lit, List.length_cons, List.length_nil, Nat.zero_add, Nat.reduceAdd] <;> rfl)) ?_; (with_reducible refine (graftbedref12_Tag.calls k ((rd_T61 l0 a1).f1) true _ A6.out).mono ?_); rintro e w' ⟨rfl, ⟨nd, rfl⟩⟩; refine ⟨_, rfl, ?_⟩))
              go_ret2
              exact ⟨by first | rfl | (simp [errW_none, errW_some] <;> rfl) | (simp [*, errW_none, errW_some] <;> rfl) | (exfalso; simp only [decide_eq_true_eq, decide_eq_false_iff_not, beq_iff_eq, beq_eq_false_iff_ne] at *; first | contradiction | omega), by repeat (first | (with_reducible first | exact HB.out | apply below_alloc | apply pw_below_drewN | apply below_drew1 | refine below_set ?_ GE106.out) | exact HB.out)⟩
          · rw [if_neg c8] at H
            have c8b0 : (((rd_T61 l0 a1).f2) == 0) = false := beq_eq_false_iff_ne.mpr c8
            have c8b1 : (((rd_T61 l0 a1).f2) != 0) = true := bne_iff_ne.mpr c8
            simp only [Option.some.injEq, Prod.mk.injEq] at H
            obtain ⟨rfl, rfl⟩ := H
            have p105 : 0 ≤ (a1 : Int) := of_decide_eq_true (by first | (with_reducible assumption) | assumption)
            have q105 : a1 < (l0.length : Int) := of_decide_eq_true (by first | (with_reducible assumption) | assumption)
            obtain ⟨ad105, e105, hx105_0, hx105_1, hx105_2, hx105_3⟩ := at_T61 HR0.out a1 p105 q105
            cases e105
            replace p105 := eq_true p105
            replace q105 := eq_true q105
            go_enter Tryd.func37, Tryd.ntmps37
            go_wp2_with (first | ((with_reducible refine gate_dst (N := 6) rfl ?_); refine box_event ?hg (N := 6) ?hd (cs := #[.int .i64 0, .string (⟨#[]⟩ : ByteArray), .int .i64 0, .int .i64 0]) (t := 61) ?hr ?_; (case hd => rfl); (case hg => rfl); (case hr => first | (go_simp; done) | (go_simp; rfl)); intro gb106 hg w14 hbox hb; have n0_ := Aside0.mk (below_step (by repeat (first | (with_reducible first | exact HB.out | apply below_alloc | apply pw_below_drewN | apply below_drew1) | exact HB.out)) hb); have n1_ := Aside0.mk (hbox); have n2_ := Aside0.mk ((by rw [hg]; exact (below_size (by repeat (first | (with_reducible first | exact HB.out | apply below_alloc | apply pw_below_drewN | apply below_drew1) | exact HB.out))) : w.heap.size ≤ gb106)); have n3_ := Aside0.mk ((by rw [hg]; exact (below_size (by repeat (first | (with_reducible first | exact HB.out | apply below_alloc | apply pw_below_drewN | apply below_drew1) | exact HB.out))) : w.heap.size ≤ gb106)); clear HB; have HB := n0_; have BK106 := n1_; have GW106 := n2_; have GE106 := n3_; clear n0_ n1_ n2_ n3_; clear hb hbox hg; have hcz15_0 : w14.cell? ⟨gb106, 0, none⟩ = some (.int .i64 0) := (blk_cell BK106.out 0).trans rfl; have hcz15_1 : w14.cell? ⟨gb106, 1, none⟩ = some (.string (⟨#[]⟩ : ByteArray)) := (blk_cell BK106.out 1).trans rfl; have hcz15_2 : w14.cell? ⟨gb106, 2, none⟩ = some (.int .i64 0) := (blk_cell BK106.out 2).trans rfl; have hcz15_3 : w14.cell? ⟨gb106, 3, none⟩ = some (.int .i64 0) := (blk_cell BK106.out 3).trans rfl; have hfz15_0 := blk_frozen BK106.out 0; have hfz15_1 := blk_frozen BK106.out 1; have hfz15_2 := blk_frozen BK106.out 2; have hfz15_3 := blk_frozen BK106.out 3) | ((with_reducible refine gate_callee (f := 53) rfl ?_); refine goesL_ (some 23) rfl rfl Tryd.func53 (by kernel_rfl) rfl #[.string ((rd_T61 l0 a1).f1)] rfl (by (try simp only [List.map_toArray, List.map_cons, List.map_nil]); first | done | rfl | (simp only [List.length_drop, List.length_take]; rfl) | (simp only [ByteArray.size_extract, Nat.min_self]; done) | (simp only [ByteArray.size_append, StrMore.size_lit, List.length_cons, List.length_nil, Nat.zero_add, Nat.reduceAdd] <;> rfl)) ?_; (with_reducible refine (graftbedref12_Tag.calls k ((rd_T61 l0 a1).f1) true _ A6.out).mono ?_); rintro e w' ⟨rfl, ⟨nd, rfl⟩⟩; refine ⟨_, rfl, ?_⟩))
            go_ret2
            exact ⟨by first | rfl | (simp [errW_none, errW_some] <;> rfl) | (simp [*, errW_none, errW_some] <;> rfl) | (exfalso; simp only [decide_eq_true_eq, decide_eq_false_iff_not, beq_iff_eq, beq_eq_false_iff_ne] at *; first | contradiction | omega), by repeat (first | (with_reducible first | exact HB.out | apply below_alloc | apply pw_below_drewN | apply below_drew1 | refine below_set ?_ GE106.out) | exact HB.out)⟩
        · replace c7 := Bool.eq_false_iff.mpr c7
          subst c7
          have H1 : (some ((-1), 0)) = some (r1, r2) := by rw [if_neg (show ¬ (false = true) by decide)] at H; exact H
          clear H
          have H := H1
          clear H1
          simp only [Option.some.injEq, Prod.mk.injEq] at H
          obtain ⟨rfl, rfl⟩ := H
          have p105 : 0 ≤ (a1 : Int) := of_decide_eq_true (by first | (with_reducible assumption) | assumption)
          have q105 : a1 < (l0.length : Int) := of_decide_eq_true (by first | (with_reducible assumption) | assumption)
          obtain ⟨ad105, e105, hx105_0, hx105_1, hx105_2, hx105_3⟩ := at_T61 HR0.out a1 p105 q105
          cases e105
          replace p105 := eq_true p105
          replace q105 := eq_true q105
          go_enter Tryd.func37, Tryd.ntmps37
          go_wp2_with (first | ((with_reducible refine gate_dst (N := 6) rfl ?_); refine box_event ?hg (N := 6) ?hd (cs := #[.int .i64 0, .string (⟨#[]⟩ : ByteArray), .int .i64 0, .int .i64 0]) (t := 61) ?hr ?_; (case hd => rfl); (case hg => rfl); (case hr => first | (go_simp; done) | (go_simp; rfl)); intro gb106 hg w16 hbox hb; have n0_ := Aside0.mk (below_step (by repeat (first | (with_reducible first | exact HB.out | apply below_alloc | apply pw_below_drewN | apply below_drew1) | exact HB.out)) hb); have n1_ := Aside0.mk (hbox); have n2_ := Aside0.mk ((by rw [hg]; exact (below_size (by repeat (first | (with_reducible first | exact HB.out | apply below_alloc | apply pw_below_drewN | apply below_drew1) | exact HB.out))) : w.heap.size ≤ gb106)); have n3_ := Aside0.mk ((by rw [hg]; exact (below_size (by repeat (first | (with_reducible first | exact HB.out | apply below_alloc | apply pw_below_drewN | apply below_drew1) | exact HB.out))) : w.heap.size ≤ gb106)); clear HB; have HB := n0_; have BK106 := n1_; have GW106 := n2_; have GE106 := n3_; clear n0_ n1_ n2_ n3_; clear hb hbox hg; have hcz17_0 : w16.cell? ⟨gb106, 0, none⟩ = some (.int .i64 0) := (blk_cell BK106.out 0).trans rfl; have hcz17_1 : w16.cell? ⟨gb106, 1, none⟩ = some (.string (⟨#[]⟩ : ByteArray)) := (blk_cell BK106.out 1).trans rfl; have hcz17_2 : w16.cell? ⟨gb106, 2, none⟩ = some (.int .i64 0) := (blk_cell BK106.out 2).trans rfl; have hcz17_3 : w16.cell? ⟨gb106, 3, none⟩ = some (.int .i64 0) := (blk_cell BK106.out 3).trans rfl; have hfz17_0 := blk_frozen BK106.out 0; have hfz17_1 := blk_frozen BK106.out 1; have hfz17_2 := blk_frozen BK106.out 2; have hfz17_3 := blk_frozen BK106.out 3) | ((with_reducible refine gate_callee (f := 53) rfl ?_); refine goesL_ (some 23) rfl rfl Tryd.func53 (by kernel_rfl) rfl #[.string ((rd_T61 l0 a1).f1)] rfl (by (try simp only [List.map_toArray, List.map_cons, List.map_nil]); first | done | rfl | (simp only [List.length_drop, List.length_take]; rfl) | (simp only [ByteArray.size_extract, Nat.min_self]; done) | (simp only [ByteArray.size_append, StrMore.size_lit, List.length_cons, List.length_nil, Nat.zero_add, Nat.reduceAdd] <;> rfl)) ?_; (with_reducible refine (graftbedref12_Tag.calls k ((rd_T61 l0 a1).f1) false _ A6.out).mono ?_); rintro e w' ⟨rfl, ⟨nd, rfl⟩⟩; refine ⟨_, rfl, ?_⟩))
          go_ret2
          exact ⟨by first | rfl | (simp [errW_none, errW_some] <;> rfl) | (simp [*, errW_none, errW_some] <;> rfl) | (exfalso; simp only [decide_eq_true_eq, decide_eq_false_iff_not, beq_iff_eq, beq_eq_false_iff_ne] at *; first | contradiction | omega), by repeat (first | (with_reducible first | exact HB.out | apply below_alloc | apply pw_below_drewN | apply below_drew1 | refine below_set ?_ GE106.out) | exact HB.out)⟩
      · rw [if_neg c5] at H
        have c5b0 : (((rd_T61 l0 a1).f0) == 0) = false := beq_eq_false_iff_ne.mpr c5
        have c5b1 : (((rd_T61 l0 a1).f0) != 0) = true := bne_iff_ne.mpr c5
        by_cases c18 : ((rd_T61 l0 a1).f0) = 1
        · rw [if_pos c18] at H
          have c18b0 : (((rd_T61 l0 a1).f0) == 1) = true := beq_iff_eq.mpr c18
          have c18b1 : (((rd_T61 l0 a1).f0) != 1) = false := bne_eq_false_iff_eq.mpr c18
          clear c18
          by_cases c19 : ((rd_T61 l0 a1).f1).toList = ([] : List UInt8)
          · rw [if_pos c19] at H
            have c19b0 : (((rd_T61 l0 a1).f1).toList == ([] : List UInt8)) = true := beq_iff_eq.mpr c19
            have c19b1 : (((rd_T61 l0 a1).f1).toList != ([] : List UInt8)) = false := bne_eq_false_iff_eq.mpr c19
            have c19b5 : ((rd_T61 l0 a1).f1).toList.isEmpty = true := by
              have e_ := c19b1
              revert e_
              cases ((rd_T61 l0 a1).f1).toList <;> simp
            clear c19
            by_cases c20 : ((rd_T61 l0 a1).f3) = 0
            · rw [if_pos c20] at H
              have c20b0 : (((rd_T61 l0 a1).f3) == 0) = true := beq_iff_eq.mpr c20
              have c20b1 : (((rd_T61 l0 a1).f3) != 0) = false := bne_eq_false_iff_eq.mpr c20
              clear c20
              by_cases c21 : ((rd_T61 l0 a1).f2) = (wrap64 (a1 - 1))
              · rw [if_pos c21] at H
                have c21b0 : (((rd_T61 l0 a1).f2) == (wrap64 (a1 - 1))) = true := beq_iff_eq.mpr c21
                have c21b1 : (((rd_T61 l0 a1).f2) != (wrap64 (a1 - 1))) = false := bne_eq_false_iff_eq.mpr c21
                clear c21
                by_cases c22 : a1 > 0
                · rw [if_pos c22] at H
                  have c22b0 : decide (0 < a1) = true := decide_eq_true c22
                  clear c22
                  replace H := Option.bind_eq_some_iff.mp H
                  obtain ⟨⟨t108, t109⟩, A230, H⟩ := H
                  replace H : (some (t108, wrap64 (t109 + 1))) = some (r1, r2) := H
                  have A23 := Aside0.mk A230
                  clear A230
                  simp only [Option.some.injEq, Prod.mk.injEq] at H
                  obtain ⟨rfl, rfl⟩ := H
                  have p105 : 0 ≤ (a1 : Int) := of_decide_eq_true (by first | (with_reducible assumption) | assumption)
                  have q105 : a1 < (l0.length : Int) := of_decide_eq_true (by first | (with_reducible assumption) | assumption)
                  obtain ⟨ad105, e105, hx105_0, hx105_1, hx105_2, hx105_3⟩ := at_T61 HR0.out a1 p105 q105
                  cases e105
                  replace p105 := eq_true p105
                  replace q105 := eq_true q105
                  go_enter Tryd.func37, Tryd.ntmps37
                  go_wp2_with (first | ((with_reducible refine gate_dst (N := 6) rfl ?_); refine box_event ?hg (N := 6) ?hd (cs := #[.int .i64 0, .string (⟨#[]⟩ : ByteArray), .int .i64 0, .int .i64 0]) (t := 61) ?hr ?_; (case hd => rfl); (case hg => rfl); (case hr => first | (go_simp; done) | (go_simp; rfl)); intro gb106 hg w24 hbox hb; have n0_ := Aside0.mk (below_step (by repeat (first | (with_reducible first | exact HB.out | apply below_alloc | apply pw_below_drewN | apply below_drew1) | exact HB.out)) hb); have n1_ := Aside0.mk (hbox); have n2_ := Aside0.mk ((by rw [hg]; exact (below_size (by repeat (first | (with_reducible first | exact HB.out | apply below_alloc | apply pw_below_drewN | apply below_drew1) | exact HB.out))) : w.heap.size ≤ gb106)); have n3_ := Aside0.mk ((by rw [hg]; exact (below_size (by repeat (first | (with_reducible first | exact HB.out | apply below_alloc | apply pw_below_drewN | apply below_drew1) | exact HB.out))) : w.heap.size ≤ gb106)); clear HB; have HB := n0_; have BK106 := n1_; have GW106 := n2_; have GE106 := n3_; clear n0_ n1_ n2_ n3_; clear hb hbox hg; have hcz25_0 : w24.cell? ⟨gb106, 0, none⟩ = some (.int .i64 0) := (blk_cell BK106.out 0).trans rfl; have hcz25_1 : w24.cell? ⟨gb106, 1, none⟩ = some (.string (⟨#[]⟩ : ByteArray)) := (blk_cell BK106.out 1).trans rfl; have hcz25_2 : w24.cell? ⟨gb106, 2, none⟩ = some (.int .i64 0) := (blk_cell BK106.out 2).trans rfl; have hcz25_3 : w24.cell? ⟨gb106, 3, none⟩ = some (.int .i64 0) := (blk_cell BK106.out 3).trans rfl; have hfz25_0 := blk_frozen BK106.out 0; have hfz25_1 := blk_frozen BK106.out 1; have hfz25_2 := blk_frozen BK106.out 2; have hfz25_3 := blk_frozen BK106.out 3) | ((with_reducible refine gate_callee (f := 37) rfl ?_); refine goesL_ (some 60) rfl rfl Tryd.func37 (by kernel_rfl) rfl #[.slice (some ad105) l0.length c0, .int .i64 (wrap64 (a1 - 1))] rfl (by (try simp only [List.map_toArray, List.map_cons, List.map_nil]); first | done | rfl | (simp only [List.length_drop, List.length_take]; rfl) | (simp only [ByteArray.size_extract, Nat.min_self]; done) | (simp only [ByteArray.size_append, StrMore.size_lit, List.length_cons, List.length_nil, Nat.zero_add, Nat.reduceAdd] <;> rfl)) ?_; (with_reducible refine (ih k (by omega) _ _ l0 (wrap64 (a1 - 1)) t108 t109 _ ?side1 ?side2 A23.out).mono ?_); (case side1 => exact Kd.C_below HR0.out (by repeat (first | (with_reducible first | exact HB.out | apply below_alloc | apply pw_below_drewN | apply below_drew1 | refine below_set ?_ GE106.out) | exact HB.out))); (case side2 => exact HC0.out); rintro e w26 ⟨rfl, hb⟩; refine ⟨_, rfl, ?_⟩; have n0_ := Aside0.mk (blk_below (g := gb106) (o := .cells #[.int .i64 ((rd_T61 l0 a1).f0), .string ((rd_T61 l0 a1).f1), .int .i64 ((rd_T61 l0 a1).f2), .int .i64 ((rd_T61 l0 a1).f3)] 61 (0, 0)) (by (with_reducible repeat (first | refine blk_drewN ?_ _ | refine blk_drew ?_ | refine blk_alloc ?_ _)); refine blk_put (cs := #[.int .i64 ((rd_T61 l0 a1).f0), .string ((rd_T61 l0 a1).f1), .int .i64 ((rd_T61 l0 a1).f2), .int .i64 0]) ?_ 3 _ rfl; (with_reducible repeat (first | refine blk_drewN ?_ _ | refine blk_drew ?_ | refine blk_alloc ?_ _)); refine blk_put (cs := #[.int .i64 ((rd_T61 l0 a1).f0), .string ((rd_T61 l0 a1).f1), .int .i64 0, .int .i64 0]) ?_ 2 _ rfl; (with_reducible repeat (first | refine blk_drewN ?_ _ | refine blk_drew ?_ | refine blk_alloc ?_ _)); refine blk_put (cs := #[.int .i64 ((rd_T61 l0 a1).f0), .string (⟨#[]⟩ : ByteArray), .int .i64 0, .int .i64 0]) ?_ 1 _ rfl; (with_reducible repeat (first | refine blk_drewN ?_ _ | refine blk_drew ?_ | refine blk_alloc ?_ _)); refine blk_put (cs := #[.int .i64 0, .string (⟨#[]⟩ : ByteArray), .int .i64 0, .int .i64 0]) ?_ 0 _ rfl; (with_reducible repeat (first | refine blk_drewN ?_ _ | refine blk_drew ?_ | refine blk_alloc ?_ _)); exact BK106.out) hb); have n1_ := Aside0.mk (below_step (by repeat (first | (with_reducible first | exact HB.out | apply below_alloc | apply pw_below_drewN | apply below_drew1 | refine below_set ?_ GE106.out) | exact HB.out)) hb); clear BK106; clear HB; have BK106 := n0_; have HB := n1_; clear n0_ n1_; (try clear hb); (try clear hb2); (try clear hk); (try clear hi)))
                  go_ret2
                  exact ⟨by first | rfl | (simp [errW_none, errW_some] <;> rfl) | (simp [*, errW_none, errW_some] <;> rfl) | (exfalso; simp only [decide_eq_true_eq, decide_eq_false_iff_not, beq_iff_eq, beq_eq_false_iff_ne] at *; first | contradiction | omega), by repeat (first | (with_reducible first | exact HB.out | apply below_alloc | apply pw_below_drewN | apply below_drew1 | refine below_set ?_ GE106.out) | exact HB.out)⟩
                · rw [if_neg c22] at H
                  have c22b0 : decide (0 < a1) = false := decide_eq_false c22
                  clear c22
                  simp only [Option.some.injEq, Prod.mk.injEq] at H
                  obtain ⟨rfl, rfl⟩ := H
                  have p105 : 0 ≤ (a1 : Int) := of_decide_eq_true (by first | (with_reducible assumption) | assumption)
                  have q105 : a1 < (l0.length : Int) := of_decide_eq_true (by first | (with_reducible assumption) | assumption)
                  obtain ⟨ad105, e105, hx105_0, hx105_1, hx105_2, hx105_3⟩ := at_T61 HR0.out a1 p105 q105
                  cases e105
                  replace p105 := eq_true p105
                  replace q105 := eq_true q105
                  go_enter Tryd.func37, Tryd.ntmps37
                  go_wp2_with (first | ((with_reducible refine gate_dst (N := 6) rfl ?_); refine box_event ?hg (N := 6) ?hd (cs := #[.int .i64 0, .string (⟨#[]⟩ : ByteArray), .int .i64 0, .int .i64 0]) (t := 61) ?hr ?_; (case hd => rfl); (case hg => rfl); (case hr => first | (go_simp; done) | (go_simp; rfl)); intro gb106 hg w27 hbox hb; have n0_ := Aside0.mk (below_step (by repeat (first | (with_reducible first | exact HB.out | apply below_alloc | apply pw_below_drewN | apply below_drew1) | exact HB.out)) hb); have n1_ := Aside0.mk (hbox); have n2_ := Aside0.mk ((by rw [hg]; exact (below_size (by repeat (first | (with_reducible first | exact HB.out | apply below_alloc | apply pw_below_drewN | apply below_drew1) | exact HB.out))) : w.heap.size ≤ gb106)); have n3_ := Aside0.mk ((by rw [hg]; exact (below_size (by repeat (first | (with_reducible first | exact HB.out | apply below_alloc | apply pw_below_drewN | apply below_drew1) | exact HB.out))) : w.heap.size ≤ gb106)); clear HB; have HB := n0_; have BK106 := n1_; have GW106 := n2_; have GE106 := n3_; clear n0_ n1_ n2_ n3_; clear hb hbox hg; have hcz28_0 : w27.cell? ⟨gb106, 0, none⟩ = some (.int .i64 0) := (blk_cell BK106.out 0).trans rfl; have hcz28_1 : w27.cell? ⟨gb106, 1, none⟩ = some (.string (⟨#[]⟩ : ByteArray)) := (blk_cell BK106.out 1).trans rfl; have hcz28_2 : w27.cell? ⟨gb106, 2, none⟩ = some (.int .i64 0) := (blk_cell BK106.out 2).trans rfl; have hcz28_3 : w27.cell? ⟨gb106, 3, none⟩ = some (.int .i64 0) := (blk_cell BK106.out 3).trans rfl; have hfz28_0 := blk_frozen BK106.out 0; have hfz28_1 := blk_frozen BK106.out 1; have hfz28_2 := blk_frozen BK106.out 2; have hfz28_3 := blk_frozen BK106.out 3))
                  go_ret2
                  exact ⟨by first | rfl | (simp [errW_none, errW_some] <;> rfl) | (simp [*, errW_none, errW_some] <;> rfl) | (exfalso; simp only [decide_eq_true_eq, decide_eq_false_iff_not, beq_iff_eq, beq_eq_false_iff_ne] at *; first | contradiction | omega), by repeat (first | (with_reducible first | exact HB.out | apply below_alloc | apply pw_below_drewN | apply below_drew1 | refine below_set ?_ GE106.out) | exact HB.out)⟩
              · rw [if_neg c21] at H
                have c21b0 : (((rd_T61 l0 a1).f2) == (wrap64 (a1 - 1))) = false := beq_eq_false_iff_ne.mpr c21
                have c21b1 : (((rd_T61 l0 a1).f2) != (wrap64 (a1 - 1))) = true := bne_iff_ne.mpr c21
                simp only [Option.some.injEq, Prod.mk.injEq] at H
                obtain ⟨rfl, rfl⟩ := H
                have p105 : 0 ≤ (a1 : Int) := of_decide_eq_true (by first | (with_reducible assumption) | assumption)
                have q105 : a1 < (l0.length : Int) := of_decide_eq_true (by first | (with_reducible assumption) | assumption)
                obtain ⟨ad105, e105, hx105_0, hx105_1, hx105_2, hx105_3⟩ := at_T61 HR0.out a1 p105 q105
                cases e105
                replace p105 := eq_true p105
                replace q105 := eq_true q105
                go_enter Tryd.func37, Tryd.ntmps37
                go_wp2_with (first | ((with_reducible refine gate_dst (N := 6) rfl ?_); refine box_event ?hg (N := 6) ?hd (cs := #[.int .i64 0, .string (⟨#[]⟩ : ByteArray), .int .i64 0, .int .i64 0]) (t := 61) ?hr ?_; (case hd => rfl); (case hg => rfl); (case hr => first | (go_simp; done) | (go_simp; rfl)); intro gb106 hg w29 hbox hb; have n0_ := Aside0.mk (below_step (by repeat (first | (with_reducible first | exact HB.out | apply below_alloc | apply pw_below_drewN | apply below_drew1) | exact HB.out)) hb); have n1_ := Aside0.mk (hbox); have n2_ := Aside0.mk ((by rw [hg]; exact (below_size (by repeat (first | (with_reducible first | exact HB.out | apply below_alloc | apply pw_below_drewN | apply below_drew1) | exact HB.out))) : w.heap.size ≤ gb106)); have n3_ := Aside0.mk ((by rw [hg]; exact (below_size (by repeat (first | (with_reducible first | exact HB.out | apply below_alloc | apply pw_below_drewN | apply below_drew1) | exact HB.out))) : w.heap.size ≤ gb106)); clear HB; have HB := n0_; have BK106 := n1_; have GW106 := n2_; have GE106 := n3_; clear n0_ n1_ n2_ n3_; clear hb hbox hg; have hcz30_0 : w29.cell? ⟨gb106, 0, none⟩ = some (.int .i64 0) := (blk_cell BK106.out 0).trans rfl; have hcz30_1 : w29.cell? ⟨gb106, 1, none⟩ = some (.string (⟨#[]⟩ : ByteArray)) := (blk_cell BK106.out 1).trans rfl; have hcz30_2 : w29.cell? ⟨gb106, 2, none⟩ = some (.int .i64 0) := (blk_cell BK106.out 2).trans rfl; have hcz30_3 : w29.cell? ⟨gb106, 3, none⟩ = some (.int .i64 0) := (blk_cell BK106.out 3).trans rfl; have hfz30_0 := blk_frozen BK106.out 0; have hfz30_1 := blk_frozen BK106.out 1; have hfz30_2 := blk_frozen BK106.out 2; have hfz30_3 := blk_frozen BK106.out 3))
                go_ret2
                exact ⟨by first | rfl | (simp [errW_none, errW_some] <;> rfl) | (simp [*, errW_none, errW_some] <;> rfl) | (exfalso; simp only [decide_eq_true_eq, decide_eq_false_iff_not, beq_iff_eq, beq_eq_false_iff_ne] at *; first | contradiction | omega), by repeat (first | (with_reducible first | exact HB.out | apply below_alloc | apply pw_below_drewN | apply below_drew1 | refine below_set ?_ GE106.out) | exact HB.out)⟩
            · rw [if_neg c20] at H
              have c20b0 : (((rd_T61 l0 a1).f3) == 0) = false := beq_eq_false_iff_ne.mpr c20
              have c20b1 : (((rd_T61 l0 a1).f3) != 0) = true := bne_iff_ne.mpr c20
              simp only [Option.some.injEq, Prod.mk.injEq] at H
              obtain ⟨rfl, rfl⟩ := H
              have p105 : 0 ≤ (a1 : Int) := of_decide_eq_true (by first | (with_reducible assumption) | assumption)
              have q105 : a1 < (l0.length : Int) := of_decide_eq_true (by first | (with_reducible assumption) | assumption)
              obtain ⟨ad105, e105, hx105_0, hx105_1, hx105_2, hx105_3⟩ := at_T61 HR0.out a1 p105 q105
              cases e105
              replace p105 := eq_true p105
              replace q105 := eq_true q105
              go_enter Tryd.func37, Tryd.ntmps37
              go_wp2_with (first | ((with_reducible refine gate_dst (N := 6) rfl ?_); refine box_event ?hg (N := 6) ?hd (cs := #[.int .i64 0, .string (⟨#[]⟩ : ByteArray), .int .i64 0, .int .i64 0]) (t := 61) ?hr ?_; (case hd => rfl); (case hg => rfl); (case hr => first | (go_simp; done) | (go_simp; rfl)); intro gb106 hg w31 hbox hb; have n0_ := Aside0.mk (below_step (by repeat (first | (with_reducible first | exact HB.out | apply below_alloc | apply pw_below_drewN | apply below_drew1) | exact HB.out)) hb); have n1_ := Aside0.mk (hbox); have n2_ := Aside0.mk ((by rw [hg]; exact (below_size (by repeat (first | (with_reducible first | exact HB.out | apply below_alloc | apply pw_below_drewN | apply below_drew1) | exact HB.out))) : w.heap.size ≤ gb106)); have n3_ := Aside0.mk ((by rw [hg]; exact (below_size (by repeat (first | (with_reducible first | exact HB.out | apply below_alloc | apply pw_below_drewN | apply below_drew1) | exact HB.out))) : w.heap.size ≤ gb106)); clear HB; have HB := n0_; have BK106 := n1_; have GW106 := n2_; have GE106 := n3_; clear n0_ n1_ n2_ n3_; clear hb hbox hg; have hcz32_0 : w31.cell? ⟨gb106, 0, none⟩ = some (.int .i64 0) := (blk_cell BK106.out 0).trans rfl; have hcz32_1 : w31.cell? ⟨gb106, 1, none⟩ = some (.string (⟨#[]⟩ : ByteArray)) := (blk_cell BK106.out 1).trans rfl; have hcz32_2 : w31.cell? ⟨gb106, 2, none⟩ = some (.int .i64 0) := (blk_cell BK106.out 2).trans rfl; have hcz32_3 : w31.cell? ⟨gb106, 3, none⟩ = some (.int .i64 0) := (blk_cell BK106.out 3).trans rfl; have hfz32_0 := blk_frozen BK106.out 0; have hfz32_1 := blk_frozen BK106.out 1; have hfz32_2 := blk_frozen BK106.out 2; have hfz32_3 := blk_frozen BK106.out 3))
              go_ret2
              exact ⟨by first | rfl | (simp [errW_none, errW_some] <;> rfl) | (simp [*, errW_none, errW_some] <;> rfl) | (exfalso; simp only [decide_eq_true_eq, decide_eq_false_iff_not, beq_iff_eq, beq_eq_false_iff_ne] at *; first | contradiction | omega), by repeat (first | (with_reducible first | exact HB.out | apply below_alloc | apply pw_below_drewN | apply below_drew1 | refine below_set ?_ GE106.out) | exact HB.out)⟩
          · rw [if_neg c19] at H
            have c19b0 : (((rd_T61 l0 a1).f1).toList == ([] : List UInt8)) = false := beq_eq_false_iff_ne.mpr c19
            have c19b1 : (((rd_T61 l0 a1).f1).toList != ([] : List UInt8)) = true := bne_iff_ne.mpr c19
            have c19b5 : ((rd_T61 l0 a1).f1).toList.isEmpty = false := by
              have e_ := c19b1
              revert e_
              cases ((rd_T61 l0 a1).f1).toList <;> simp
            simp only [Option.some.injEq, Prod.mk.injEq] at H
            obtain ⟨rfl, rfl⟩ := H
            have p105 : 0 ≤ (a1 : Int) := of_decide_eq_true (by first | (with_reducible assumption) | assumption)
            have q105 : a1 < (l0.length : Int) := of_decide_eq_true (by first | (with_reducible assumption) | assumption)
            obtain ⟨ad105, e105, hx105_0, hx105_1, hx105_2, hx105_3⟩ := at_T61 HR0.out a1 p105 q105
            cases e105
            replace p105 := eq_true p105
            replace q105 := eq_true q105
            go_enter Tryd.func37, Tryd.ntmps37
            go_wp2_with (first | ((with_reducible refine gate_dst (N := 6) rfl ?_); refine box_event ?hg (N := 6) ?hd (cs := #[.int .i64 0, .string (⟨#[]⟩ : ByteArray), .int .i64 0, .int .i64 0]) (t := 61) ?hr ?_; (case hd => rfl); (case hg => rfl); (case hr => first | (go_simp; done) | (go_simp; rfl)); intro gb106 hg w33 hbox hb; have n0_ := Aside0.mk (below_step (by repeat (first | (with_reducible first | exact HB.out | apply below_alloc | apply pw_below_drewN | apply below_drew1) | exact HB.out)) hb); have n1_ := Aside0.mk (hbox); have n2_ := Aside0.mk ((by rw [hg]; exact (below_size (by repeat (first | (with_reducible first | exact HB.out | apply below_alloc | apply pw_below_drewN | apply below_drew1) | exact HB.out))) : w.heap.size ≤ gb106)); have n3_ := Aside0.mk ((by rw [hg]; exact (below_size (by repeat (first | (with_reducible first | exact HB.out | apply below_alloc | apply pw_below_drewN | apply below_drew1) | exact HB.out))) : w.heap.size ≤ gb106)); clear HB; have HB := n0_; have BK106 := n1_; have GW106 := n2_; have GE106 := n3_; clear n0_ n1_ n2_ n3_; clear hb hbox hg; have hcz34_0 : w33.cell? ⟨gb106, 0, none⟩ = some (.int .i64 0) := (blk_cell BK106.out 0).trans rfl; have hcz34_1 : w33.cell? ⟨gb106, 1, none⟩ = some (.string (⟨#[]⟩ : ByteArray)) := (blk_cell BK106.out 1).trans rfl; have hcz34_2 : w33.cell? ⟨gb106, 2, none⟩ = some (.int .i64 0) := (blk_cell BK106.out 2).trans rfl; have hcz34_3 : w33.cell? ⟨gb106, 3, none⟩ = some (.int .i64 0) := (blk_cell BK106.out 3).trans rfl; have hfz34_0 := blk_frozen BK106.out 0; have hfz34_1 := blk_frozen BK106.out 1; have hfz34_2 := blk_frozen BK106.out 2; have hfz34_3 := blk_frozen BK106.out 3))
            go_ret2
            exact ⟨by first | rfl | (simp [errW_none, errW_some] <;> rfl) | (simp [*, errW_none, errW_some] <;> rfl) | (exfalso; simp only [decide_eq_true_eq, decide_eq_false_iff_not, beq_iff_eq, beq_eq_false_iff_ne] at *; first | contradiction | omega), by repeat (first | (with_reducible first | exact HB.out | apply below_alloc | apply pw_below_drewN | apply below_drew1 | refine below_set ?_ GE106.out) | exact HB.out)⟩
        · rw [if_neg c18] at H
          have c18b0 : (((rd_T61 l0 a1).f0) == 1) = false := beq_eq_false_iff_ne.mpr c18
          have c18b1 : (((rd_T61 l0 a1).f0) != 1) = true := bne_iff_ne.mpr c18
          have HC35 := Aside0.mk H
          clear H
          have p105 : 0 ≤ (a1 : Int) := of_decide_eq_true (by first | (with_reducible assumption) | assumption)
          have q105 : a1 < (l0.length : Int) := of_decide_eq_true (by first | (with_reducible assumption) | assumption)
          obtain ⟨ad105, e105, hx105_0, hx105_1, hx105_2, hx105_3⟩ := at_T61 HR0.out a1 p105 q105
          cases e105
          replace p105 := eq_true p105
          replace q105 := eq_true q105
          go_enter Tryd.func37, Tryd.ntmps37
          go_upto_if 66 with (first | ((with_reducible refine gate_dst (N := 6) rfl ?_); refine box_event ?hg (N := 6) ?hd (cs := #[.int .i64 0, .string (⟨#[]⟩ : ByteArray), .int .i64 0, .int .i64 0]) (t := 61) ?hr ?_; (case hd => rfl); (case hg => rfl); (case hr => first | (go_simp; done) | (go_simp; rfl)); intro gb106 hg w36 hbox hb; have n0_ := Aside0.mk (below_step (by repeat (first | (with_reducible first | exact HB.out | apply below_alloc | apply pw_below_drewN | apply below_drew1) | exact HB.out)) hb); have n1_ := Aside0.mk (hbox); have n2_ := Aside0.mk ((by rw [hg]; exact (below_size (by repeat (first | (with_reducible first | exact HB.out | apply below_alloc | apply pw_below_drewN | apply below_drew1) | exact HB.out))) : w.heap.size ≤ gb106)); have n3_ := Aside0.mk ((by rw [hg]; exact (below_size (by repeat (first | (with_reducible first | exact HB.out | apply below_alloc | apply pw_below_drewN | apply below_drew1) | exact HB.out))) : w.heap.size ≤ gb106)); clear HB; have HB := n0_; have BK106 := n1_; have GW106 := n2_; have GE106 := n3_; clear n0_ n1_ n2_ n3_; clear hb hbox hg; have hcz37_0 : w36.cell? ⟨gb106, 0, none⟩ = some (.int .i64 0) := (blk_cell BK106.out 0).trans rfl; have hcz37_1 : w36.cell? ⟨gb106, 1, none⟩ = some (.string (⟨#[]⟩ : ByteArray)) := (blk_cell BK106.out 1).trans rfl; have hcz37_2 : w36.cell? ⟨gb106, 2, none⟩ = some (.int .i64 0) := (blk_cell BK106.out 2).trans rfl; have hcz37_3 : w36.cell? ⟨gb106, 3, none⟩ = some (.int .i64 0) := (blk_cell BK106.out 3).trans rfl; have hfz37_0 := blk_frozen BK106.out 0; have hfz37_1 := blk_frozen BK106.out 1; have hfz37_2 := blk_frozen BK106.out 2; have hfz37_3 := blk_frozen BK106.out 3))
          (try simp only [Act.put, List.setIfInBounds_toArray, List.set_cons_zero, List.set_cons_succ])
          go_cut [66] (fun v66 wc => ∃ (kq : Nat) (x66_34 : Bool), v66 = .bool x66_34 ∧ Aside0 (graftbedref12_whole.j0 kq l0 a1 x66_34 ((rd_T61 l0 a1).f0) ((rd_T61 l0 a1).f1) ((rd_T61 l0 a1).f2) ((rd_T61 l0 a1).f3) = some (r1, r2)) ∧ Aside0 (kq ≤ k) ∧ Aside0 (wc.heap[gb106]? = some (.cells #[.int .i64 ((rd_T61 l0 a1).f0), .string ((rd_T61 l0 a1).f1), .int .i64 ((rd_T61 l0 a1).f2), .int .i64 ((rd_T61 l0 a1).f3)] 61 (0, 0))) ∧ Aside0 (Below w.heap.size w wc))
          case first =>
            have H := HC35.out
            clear HC35
            by_cases c38 : ((rd_T61 l0 a1).f0) = 2
            · rw [if_pos c38] at H
              have c38b0 : (((rd_T61 l0 a1).f0) == 2) = true := beq_iff_eq.mpr c38
              have c38b1 : (((rd_T61 l0 a1).f0) != 2) = false := bne_eq_false_iff_eq.mpr c38
              clear c38
              (first | rw [c38b0] | (simp only [i64_w, i32_w]; rw [c38b0]) | skip)
              have H' := Aside0.mk H
              clear H
              go_wp2
              go_meet
              case rel => exact ⟨_, ((((rd_T61 l0 a1).f0) == 2)), (by first | rfl | (simp; done) | (simp [*]; done)), H', ⟨by first | omega | exact Nat.le_refl _⟩, ⟨by (with_reducible repeat (first | refine blk_drewN ?_ _ | refine blk_drew ?_ | refine blk_alloc ?_ _)); refine blk_put (cs := #[.int .i64 ((rd_T61 l0 a1).f0), .string ((rd_T61 l0 a1).f1), .int .i64 ((rd_T61 l0 a1).f2), .int .i64 0]) ?_ 3 _ rfl; (with_reducible repeat (first | refine blk_drewN ?_ _ | refine blk_drew ?_ | refine blk_alloc ?_ _)); refine blk_put (cs := #[.int .i64 ((rd_T61 l0 a1).f0), .string ((rd_T61 l0 a1).f1), .int .i64 0, .int .i64 0]) ?_ 2 _ rfl; (with_reducible repeat (first | refine blk_drewN ?_ _ | refine blk_drew ?_ | refine blk_alloc ?_ _)); refine blk_put (cs := #[.int .i64 ((rd_T61 l0 a1).f0), .string (⟨#[]⟩ : ByteArray), .int .i64 0, .int .i64 0]) ?_ 1 _ rfl; (with_reducible repeat (first | refine blk_drewN ?_ _ | refine blk_drew ?_ | refine blk_alloc ?_ _)); refine blk_put (cs := #[.int .i64 0, .string (⟨#[]⟩ : ByteArray), .int .i64 0, .int .i64 0]) ?_ 0 _ rfl; (with_reducible repeat (first | refine blk_drewN ?_ _ | refine blk_drew ?_ | refine blk_alloc ?_ _)); exact BK106.out⟩, ⟨by repeat (first | (with_reducible first | exact HB.out | apply below_alloc | apply pw_below_drewN | apply below_drew1 | refine below_set ?_ GE106.out) | exact HB.out)⟩⟩
            · rw [if_neg c38] at H
              have c38b0 : (((rd_T61 l0 a1).f0) == 2) = false := beq_eq_false_iff_ne.mpr c38
              have c38b1 : (((rd_T61 l0 a1).f0) != 2) = true := bne_iff_ne.mpr c38
              (first | rw [c38b0] | (simp only [i64_w, i32_w]; rw [c38b0]) | skip)
              have H' := Aside0.mk H
              clear H
              go_wp2
              go_meet
              case rel => exact ⟨_, ((((rd_T61 l0 a1).f0) == 3)), (by first | rfl | (simp; done) | (simp [*]; done)), H', ⟨by first | omega | exact Nat.le_refl _⟩, ⟨by (with_reducible repeat (first | refine blk_drewN ?_ _ | refine blk_drew ?_ | refine blk_alloc ?_ _)); refine blk_put (cs := #[.int .i64 ((rd_T61 l0 a1).f0), .string ((rd_T61 l0 a1).f1), .int .i64 ((rd_T61 l0 a1).f2), .int .i64 0]) ?_ 3 _ rfl; (with_reducible repeat (first | refine blk_drewN ?_ _ | refine blk_drew ?_ | refine blk_alloc ?_ _)); refine blk_put (cs := #[.int .i64 ((rd_T61 l0 a1).f0), .string ((rd_T61 l0 a1).f1), .int .i64 0, .int .i64 0]) ?_ 2 _ rfl; (with_reducible repeat (first | refine blk_drewN ?_ _ | refine blk_drew ?_ | refine blk_alloc ?_ _)); refine blk_put (cs := #[.int .i64 ((rd_T61 l0 a1).f0), .string (⟨#[]⟩ : ByteArray), .int .i64 0, .int .i64 0]) ?_ 1 _ rfl; (with_reducible repeat (first | refine blk_drewN ?_ _ | refine blk_drew ?_ | refine blk_alloc ?_ _)); refine blk_put (cs := #[.int .i64 0, .string (⟨#[]⟩ : ByteArray), .int .i64 0, .int .i64 0]) ?_ 0 _ rfl; (with_reducible repeat (first | refine blk_drewN ?_ _ | refine blk_drew ?_ | refine blk_alloc ?_ _)); exact BK106.out⟩, ⟨by repeat (first | (with_reducible first | exact HB.out | apply below_alloc | apply pw_below_drewN | apply below_drew1 | refine below_set ?_ GE106.out) | exact HB.out)⟩⟩
          case rest =>
            clear HC35
            try clear c1
            try clear p1
            try clear q1
            try clear hx1
            try clear c2
            try clear p2
            try clear c3
            try clear c3b0
            try clear c4
            try clear c4b0
            try clear c5
            try clear c5b0
            try clear c5b1
            try clear p6
            try clear c7
            try clear c8
            try clear c8b0
            try clear c8b1
            try clear c9
            try clear c9b0
            try clear c9b1
            try clear p10
            try clear q10
            try clear hx10
            try clear c18
            try clear c18b0
            try clear c18b1
            try clear c19
            try clear c19b0
            try clear c19b1
            try clear c20
            try clear c20b0
            try clear c20b1
            try clear c21
            try clear c21b0
            try clear c21b1
            try clear c22
            try clear c22b0
            try clear c37
            try clear c38
            try clear c38b0
            try clear c38b1
            try clear hcz11_0
            try clear hcz11_1
            try clear hcz11_2
            try clear hcz11_3
            try clear hcz13_0
            try clear hcz13_1
            try clear hcz13_2
            try clear hcz13_3
            try clear hcz15_0
            try clear hcz15_1
            try clear hcz15_2
            try clear hcz15_3
            try clear hcz17_0
            try clear hcz17_1
            try clear hcz17_2
            try clear hcz17_3
            try clear hcz25_0
            try clear hcz25_1
            try clear hcz25_2
            try clear hcz25_3
            try clear hcz28_0
            try clear hcz28_1
            try clear hcz28_2
            try clear hcz28_3
            try clear hcz30_0
            try clear hcz30_1
            try clear hcz30_2
            try clear hcz30_3
            try clear hcz32_0
            try clear hcz32_1
            try clear hcz32_2
            try clear hcz32_3
            try clear hcz34_0
            try clear hcz34_1
            try clear hcz34_2
            try clear hcz34_3
            try clear hcz37_0
            try clear hcz37_1
            try clear hcz37_2
            try clear hcz37_3
            try clear hfz11_0
            try clear hfz11_1
            try clear hfz11_2
            try clear hfz11_3
            try clear hfz13_0
            try clear hfz13_1
            try clear hfz13_2
            try clear hfz13_3
            try clear hfz15_0
            try clear hfz15_1
            try clear hfz15_2
            try clear hfz15_3
            try clear hfz17_0
            try clear hfz17_1
            try clear hfz17_2
            try clear hfz17_3
            try clear hfz25_0
            try clear hfz25_1
            try clear hfz25_2
            try clear hfz25_3
            try clear hfz28_0
            try clear hfz28_1
            try clear hfz28_2
            try clear hfz28_3
            try clear hfz30_0
            try clear hfz30_1
            try clear hfz30_2
            try clear hfz30_3
            try clear hfz32_0
            try clear hfz32_1
            try clear hfz32_2
            try clear hfz32_3
            try clear hfz34_0
            try clear hfz34_1
            try clear hfz34_2
            try clear hfz34_3
            try clear hfz37_0
            try clear hfz37_1
            try clear hfz37_2
            try clear hfz37_3
            try clear hx105_0
            try clear hx105_1
            try clear hx105_2
            try clear hx105_3
            try clear p105
            try clear q105
            obtain ⟨kq, x66_34, rfl, HA, HJ34, BK106, HB⟩ := hcut
            cases kq with
            | zero => exact absurd HA.out (by simp [graftbedref12_whole.j0])
            | succ kj34 =>
              have H := HA.out
              clear HA
              simp only [graftbedref12_whole.j0] at H
              by_cases c39 : x66_34 = true
              · subst c39
                have H1 : (if ((rd_T61 l0 a1).f1).toList = ([] : List UInt8) then (if ((rd_T61 l0 a1).f3) = (wrap64 (a1 - 1)) then (graftbedref12_whole.j1 kj34 l0 a1 (decide (a1 > 1)) ((rd_T61 l0 a1).f0) ((rd_T61 l0 a1).f1) ((rd_T61 l0 a1).f2) ((rd_T61 l0 a1).f3)) else (graftbedref12_whole.j1 kj34 l0 a1 false ((rd_T61 l0 a1).f0) ((rd_T61 l0 a1).f1) ((rd_T61 l0 a1).f2) ((rd_T61 l0 a1).f3))) else (graftbedref12_whole.j1 kj34 l0 a1 false ((rd_T61 l0 a1).f0) ((rd_T61 l0 a1).f1) ((rd_T61 l0 a1).f2) ((rd_T61 l0 a1).f3))) = some (r1, r2) := by rw [if_pos rfl] at H; exact H
                clear H
                have H := H1
                clear H1
                have HC40 := Aside0.mk H
                clear H
                go_upto_region 12 with (fail)
                go_cut [82] (fun v82 wc => ∃ (kq : Nat) (x82_39 : Bool), v82 = .bool x82_39 ∧ Aside0 (graftbedref12_whole.j1 kq l0 a1 x82_39 ((rd_T61 l0 a1).f0) ((rd_T61 l0 a1).f1) ((rd_T61 l0 a1).f2) ((rd_T61 l0 a1).f3) = some (r1, r2)) ∧ Aside0 (kq ≤ kj34) ∧ Aside0 (wc.heap[gb106]? = some (.cells #[.int .i64 ((rd_T61 l0 a1).f0), .string ((rd_T61 l0 a1).f1), .int .i64 ((rd_T61 l0 a1).f2), .int .i64 ((rd_T61 l0 a1).f3)] 61 (0, 0))) ∧ Aside0 (Below w.heap.size w wc))
                case first =>
                  have H := HC40.out
                  clear HC40
                  by_cases c41 : ((rd_T61 l0 a1).f1).toList = ([] : List UInt8)
                  · rw [if_pos c41] at H
                    have c41b0 : (((rd_T61 l0 a1).f1).toList == ([] : List UInt8)) = true := beq_iff_eq.mpr c41
                    have c41b1 : (((rd_T61 l0 a1).f1).toList != ([] : List UInt8)) = false := bne_eq_false_iff_eq.mpr c41
                    have c41b5 : ((rd_T61 l0 a1).f1).toList.isEmpty = true := by
                      have e_ := c41b1
                      revert e_
                      cases ((rd_T61 l0 a1).f1).toList <;> simp
                    clear c41
                    (first | rw [c41b0] | (simp only [i64_w, i32_w]; rw [c41b0]) | rw [c41b5] | skip)
                    by_cases c42 : ((rd_T61 l0 a1).f3) = (wrap64 (a1 - 1))
                    · rw [if_pos c42] at H
                      have c42b0 : (((rd_T61 l0 a1).f3) == (wrap64 (a1 - 1))) = true := beq_iff_eq.mpr c42
                      have c42b1 : (((rd_T61 l0 a1).f3) != (wrap64 (a1 - 1))) = false := bne_eq_false_iff_eq.mpr c42
                      clear c42
                      have H' := Aside0.mk H
                      clear H
                      have hcz43_0 : wc.cell? ⟨gb106, 0, none⟩ = some (.int .i64 ((rd_T61 l0 a1).f0)) := (blk_cell BK106.out 0).trans rfl
                      have hcz43_1 : wc.cell? ⟨gb106, 1, none⟩ = some (.string ((rd_T61 l0 a1).f1)) := (blk_cell BK106.out 1).trans rfl
                      have hcz43_2 : wc.cell? ⟨gb106, 2, none⟩ = some (.int .i64 ((rd_T61 l0 a1).f2)) := (blk_cell BK106.out 2).trans rfl
                      have hcz43_3 : wc.cell? ⟨gb106, 3, none⟩ = some (.int .i64 ((rd_T61 l0 a1).f3)) := (blk_cell BK106.out 3).trans rfl
                      have hfz43_0 := blk_frozen BK106.out 0
                      have hfz43_1 := blk_frozen BK106.out 1
                      have hfz43_2 := blk_frozen BK106.out 2
                      have hfz43_3 := blk_frozen BK106.out 3
                      go_wp2
                      go_meet
                      case rel => exact ⟨_, (decide (a1 > 1)), (by first | rfl | (simp; done) | (simp [*]; done)), H', ⟨by have := HJ34.out; first | omega | exact Nat.le_refl _⟩, ⟨by (with_reducible repeat (first | refine blk_drewN ?_ _ | refine blk_drew ?_ | refine blk_alloc ?_ _)); exact BK106.out⟩, ⟨by repeat (first | (with_reducible first | exact HB.out | apply below_alloc | apply pw_below_drewN | apply below_drew1 | refine below_set ?_ GE106.out) | exact HB.out)⟩⟩
                    · rw [if_neg c42] at H
                      have c42b0 : (((rd_T61 l0 a1).f3) == (wrap64 (a1 - 1))) = false := beq_eq_false_iff_ne.mpr c42
                      have c42b1 : (((rd_T61 l0 a1).f3) != (wrap64 (a1 - 1))) = true := bne_iff_ne.mpr c42
                      have H' := Aside0.mk H
                      clear H
                      have hcz44_0 : wc.cell? ⟨gb106, 0, none⟩ = some (.int .i64 ((rd_T61 l0 a1).f0)) := (blk_cell BK106.out 0).trans rfl
                      have hcz44_1 : wc.cell? ⟨gb106, 1, none⟩ = some (.string ((rd_T61 l0 a1).f1)) := (blk_cell BK106.out 1).trans rfl
                      have hcz44_2 : wc.cell? ⟨gb106, 2, none⟩ = some (.int .i64 ((rd_T61 l0 a1).f2)) := (blk_cell BK106.out 2).trans rfl
                      have hcz44_3 : wc.cell? ⟨gb106, 3, none⟩ = some (.int .i64 ((rd_T61 l0 a1).f3)) := (blk_cell BK106.out 3).trans rfl
                      have hfz44_0 := blk_frozen BK106.out 0
                      have hfz44_1 := blk_frozen BK106.out 1
                      have hfz44_2 := blk_frozen BK106.out 2
                      have hfz44_3 := blk_frozen BK106.out 3
                      go_wp2
                      go_meet
                      case rel => exact ⟨_, (false), (by first | rfl | (simp; done) | (simp [*]; done)), H', ⟨by have := HJ34.out; first | omega | exact Nat.le_refl _⟩, ⟨by (with_reducible repeat (first | refine blk_drewN ?_ _ | refine blk_drew ?_ | refine blk_alloc ?_ _)); exact BK106.out⟩, ⟨by repeat (first | (with_reducible first | exact HB.out | apply below_alloc | apply pw_below_drewN | apply below_drew1 | refine below_set ?_ GE106.out) | exact HB.out)⟩⟩
                  · rw [if_neg c41] at H
                    have c41b0 : (((rd_T61 l0 a1).f1).toList == ([] : List UInt8)) = false := beq_eq_false_iff_ne.mpr c41
                    have c41b1 : (((rd_T61 l0 a1).f1).toList != ([] : List UInt8)) = true := bne_iff_ne.mpr c41
                    have c41b5 : ((rd_T61 l0 a1).f1).toList.isEmpty = false := by
                      have e_ := c41b1
                      revert e_
                      cases ((rd_T61 l0 a1).f1).toList <;> simp
                    (first | rw [c41b0] | (simp only [i64_w, i32_w]; rw [c41b0]) | rw [c41b5] | skip)
                    have H' := Aside0.mk H
                    clear H
                    have hcz45_0 : wc.cell? ⟨gb106, 0, none⟩ = some (.int .i64 ((rd_T61 l0 a1).f0)) := (blk_cell BK106.out 0).trans rfl
                    have hcz45_1 : wc.cell? ⟨gb106, 1, none⟩ = some (.string ((rd_T61 l0 a1).f1)) := (blk_cell BK106.out 1).trans rfl
                    have hcz45_2 : wc.cell? ⟨gb106, 2, none⟩ = some (.int .i64 ((rd_T61 l0 a1).f2)) := (blk_cell BK106.out 2).trans rfl
                    have hcz45_3 : wc.cell? ⟨gb106, 3, none⟩ = some (.int .i64 ((rd_T61 l0 a1).f3)) := (blk_cell BK106.out 3).trans rfl
                    have hfz45_0 := blk_frozen BK106.out 0
                    have hfz45_1 := blk_frozen BK106.out 1
                    have hfz45_2 := blk_frozen BK106.out 2
                    have hfz45_3 := blk_frozen BK106.out 3
                    go_wp2
                    go_meet
                    case rel => exact ⟨_, (false), (by first | rfl | (simp; done) | (simp [*]; done)), H', ⟨by have := HJ34.out; first | omega | exact Nat.le_refl _⟩, ⟨by (with_reducible repeat (first | refine blk_drewN ?_ _ | refine blk_drew ?_ | refine blk_alloc ?_ _)); exact BK106.out⟩, ⟨by repeat (first | (with_reducible first | exact HB.out | apply below_alloc | apply pw_below_drewN | apply below_drew1 | refine below_set ?_ GE106.out) | exact HB.out)⟩⟩
                case rest =>
                  clear HC40
                  try clear c1
                  try clear p1
                  try clear q1
                  try clear hx1
                  try clear c2
                  try clear p2
                  try clear c3
                  try clear c3b0
                  try clear c4
                  try clear c4b0
                  try clear c5
                  try clear c5b0
                  try clear c5b1
                  try clear p6
                  try clear c7
                  try clear c8
                  try clear c8b0
                  try clear c8b1
                  try clear c9
                  try clear c9b0
                  try clear c9b1
                  try clear p10
                  try clear q10
                  try clear hx10
                  try clear c18
                  try clear c18b0
                  try clear c18b1
                  try clear c19
                  try clear c19b0
                  try clear c19b1
                  try clear c20
                  try clear c20b0
                  try clear c20b1
                  try clear c21
                  try clear c21b0
                  try clear c21b1
                  try clear c22
                  try clear c22b0
                  try clear c37
                  try clear c38
                  try clear c38b0
                  try clear c38b1
                  try clear c39
                  try clear c41
                  try clear c41b0
                  try clear c41b1
                  try clear c42
                  try clear c42b0
                  try clear c42b1
                  try clear hcz11_0
                  try clear hcz11_1
                  try clear hcz11_2
                  try clear hcz11_3
                  try clear hcz13_0
                  try clear hcz13_1
                  try clear hcz13_2
                  try clear hcz13_3
                  try clear hcz15_0
                  try clear hcz15_1
                  try clear hcz15_2
                  try clear hcz15_3
                  try clear hcz17_0
                  try clear hcz17_1
                  try clear hcz17_2
                  try clear hcz17_3
                  try clear hcz25_0
                  try clear hcz25_1
                  try clear hcz25_2
                  try clear hcz25_3
                  try clear hcz28_0
                  try clear hcz28_1
                  try clear hcz28_2
                  try clear hcz28_3
                  try clear hcz30_0
                  try clear hcz30_1
                  try clear hcz30_2
                  try clear hcz30_3
                  try clear hcz32_0
                  try clear hcz32_1
                  try clear hcz32_2
                  try clear hcz32_3
                  try clear hcz34_0
                  try clear hcz34_1
                  try clear hcz34_2
                  try clear hcz34_3
                  try clear hcz37_0
                  try clear hcz37_1
                  try clear hcz37_2
                  try clear hcz37_3
                  try clear hcz43_0
                  try clear hcz43_1
                  try clear hcz43_2
                  try clear hcz43_3
                  try clear hcz44_0
                  try clear hcz44_1
                  try clear hcz44_2
                  try clear hcz44_3
                  try clear hcz45_0
                  try clear hcz45_1
                  try clear hcz45_2
                  try clear hcz45_3
                  try clear hfz11_0
                  try clear hfz11_1
                  try clear hfz11_2
                  try clear hfz11_3
                  try clear hfz13_0
                  try clear hfz13_1
                  try clear hfz13_2
                  try clear hfz13_3
                  try clear hfz15_0
                  try clear hfz15_1
                  try clear hfz15_2
                  try clear hfz15_3
                  try clear hfz17_0
                  try clear hfz17_1
                  try clear hfz17_2
                  try clear hfz17_3
                  try clear hfz25_0
                  try clear hfz25_1
                  try clear hfz25_2
                  try clear hfz25_3
                  try clear hfz28_0
                  try clear hfz28_1
                  try clear hfz28_2
                  try clear hfz28_3
                  try clear hfz30_0
                  try clear hfz30_1
                  try clear hfz30_2
                  try clear hfz30_3
                  try clear hfz32_0
                  try clear hfz32_1
                  try clear hfz32_2
                  try clear hfz32_3
                  try clear hfz34_0
                  try clear hfz34_1
                  try clear hfz34_2
                  try clear hfz34_3
                  try clear hfz37_0
                  try clear hfz37_1
                  try clear hfz37_2
                  try clear hfz37_3
                  try clear hfz43_0
                  try clear hfz43_1
                  try clear hfz43_2
                  try clear hfz43_3
                  try clear hfz44_0
                  try clear hfz44_1
                  try clear hfz44_2
                  try clear hfz44_3
                  try clear hfz45_0
                  try clear hfz45_1
                  try clear hfz45_2
                  try clear hfz45_3
                  try clear hx105_0
                  try clear hx105_1
                  try clear hx105_2
                  try clear hx105_3
                  try clear p1
                  try clear p10
                  try clear p105
                  try clear p2
                  try clear p6
                  try clear q1
                  try clear q10
                  try clear q105
                  obtain ⟨kq, x82_39, rfl, HA, HJ39, BK106, HB⟩ := hcut
                  cases kq with
                  | zero => exact absurd HA.out (by simp [graftbedref12_whole.j1])
                  | succ kj39 =>
                    have H := HA.out
                    clear HA
                    simp only [graftbedref12_whole.j1] at H
                    by_cases c46 : x82_39 = true
                    · subst c46
                      have H1 : ((graftbedref12_whole.f kj39 l0 (wrap64 (a1 - 1))).bind fun bt110 => (if bt110.1 > 0 then (if ((rd_T61 l0 a1).f2) = (wrap64 (bt110.1 - 1)) then ((graftbedref12_whole.f kj39 l0 (wrap64 (bt110.1 - 1))).bind fun bt112 => (some (bt112.1, wrap64 ((mx bt110.2 bt112.2) + 1)))) else (some ((-1), 0))) else (some ((-1), 0)))) = some (r1, r2) := by rw [if_pos rfl] at H; exact H
                      clear H
                      have H := H1
                      clear H1
                      replace H := Option.bind_eq_some_iff.mp H
                      obtain ⟨⟨t110, t111⟩, A470, H⟩ := H
                      replace H : (if t110 > 0 then (if ((rd_T61 l0 a1).f2) = (wrap64 (t110 - 1)) then ((graftbedref12_whole.f kj39 l0 (wrap64 (t110 - 1))).bind fun bt112 => (some (bt112.1, wrap64 ((mx t111 bt112.2) + 1)))) else (some ((-1), 0))) else (some ((-1), 0))) = some (r1, r2) := H
                      have A47 := Aside0.mk A470
                      clear A470
                      by_cases c48 : t110 > 0
                      · rw [if_pos c48] at H
                        have c48b0 : decide (0 < t110) = true := decide_eq_true c48
                        clear c48
                        by_cases c49 : ((rd_T61 l0 a1).f2) = (wrap64 (t110 - 1))
                        · rw [if_pos c49] at H
                          have c49b0 : (((rd_T61 l0 a1).f2) == (wrap64 (t110 - 1))) = true := beq_iff_eq.mpr c49
                          have c49b1 : (((rd_T61 l0 a1).f2) != (wrap64 (t110 - 1))) = false := bne_eq_false_iff_eq.mpr c49
                          clear c49
                          replace H := Option.bind_eq_some_iff.mp H
                          obtain ⟨⟨t112, t113⟩, A500, H⟩ := H
                          replace H : (some (t112, wrap64 ((mx t111 t113) + 1))) = some (r1, r2) := H
                          have A50 := Aside0.mk A500
                          clear A500
                          obtain ⟨ji51, hji51⟩ : ∃ j_ : Int, (mx t111 t113) = j_ := ⟨_, rfl⟩
                          replace H : (some (t112, wrap64 ((ji51) + 1))) = some (r1, r2) := by first | (rw [hji51] at H; exact H) | (simp only [hji51] at H ⊢; exact H)
                          (try rw [hji51] at A47)
                          (try rw [hji51] at A50)
                          have hji51_ : (if t111 < t113 then t113 else t111) = ji51 := hji51
                          simp only [Option.some.injEq, Prod.mk.injEq] at H
                          obtain ⟨rfl, rfl⟩ := H
                          go_wp2_with (first | ((with_reducible refine gate_callee (f := 37) rfl ?_); refine goesL_ (some 87) rfl rfl Tryd.func37 (by kernel_rfl) rfl #[.slice (some ad105) l0.length c0, .int .i64 (wrap64 (a1 - 1))] rfl (by (try simp only [List.map_toArray, List.map_cons, List.map_nil]); first | done | rfl | (simp only [List.length_drop, List.length_take]; rfl) | (simp only [ByteArray.size_extract, Nat.min_self]; done) | (simp only [ByteArray.size_append, StrMore.size_lit, List.length_cons, List.length_nil, Nat.zero_add, Nat.reduceAdd] <;> rfl)) ?_; (with_reducible refine (ih kj39 (by have := HJ34.out; have := HJ39.out; omega) _ _ l0 (wrap64 (a1 - 1)) t110 t111 _ ?side1 ?side2 A47.out).mono ?_); (case side1 => repeat (first | exact (Kd.C_below HR0.out HB.out) | (with_reducible refine Kd.C_alloc ?_ _) | (with_reducible refine Kd.C_drewN ?_ _) | (with_reducible refine Kd.C_drew ?_))); (case side2 => exact HC0.out); rintro e w52 ⟨rfl, hb⟩; refine ⟨_, rfl, ?_⟩; have n0_ := Aside0.mk (blk_below (g := gb106) (o := .cells #[.int .i64 ((rd_T61 l0 a1).f0), .string ((rd_T61 l0 a1).f1), .int .i64 ((rd_T61 l0 a1).f2), .int .i64 ((rd_T61 l0 a1).f3)] 61 (0, 0)) (by (with_reducible repeat (first | refine blk_drewN ?_ _ | refine blk_drew ?_ | refine blk_alloc ?_ _)); exact BK106.out) hb); have n1_ := Aside0.mk (below_step (by repeat (first | (with_reducible first | exact HB.out | apply below_alloc | apply pw_below_drewN | apply below_drew1 | refine below_set ?_ GE106.out) | exact HB.out)) hb); clear BK106; clear HB; have BK106 := n0_; have HB := n1_; clear n0_ n1_; (try clear hb); (try clear hb2); (try clear hk); (try clear hi); have hcz53_0 : w52.cell? ⟨gb106, 0, none⟩ = some (.int .i64 ((rd_T61 l0 a1).f0)) := (blk_cell BK106.out 0).trans rfl; have hcz53_1 : w52.cell? ⟨gb106, 1, none⟩ = some (.string ((rd_T61 l0 a1).f1)) := (blk_cell BK106.out 1).trans rfl; have hcz53_2 : w52.cell? ⟨gb106, 2, none⟩ = some (.int .i64 ((rd_T61 l0 a1).f2)) := (blk_cell BK106.out 2).trans rfl; have hcz53_3 : w52.cell? ⟨gb106, 3, none⟩ = some (.int .i64 ((rd_T61 l0 a1).f3)) := (blk_cell BK106.out 3).trans rfl; have hfz53_0 := blk_frozen BK106.out 0; have hfz53_1 := blk_frozen BK106.out 1; have hfz53_2 := blk_frozen BK106.out 2; have hfz53_3 := blk_frozen BK106.out 3) | ((with_reducible refine gate_callee (f := 37) rfl ?_); refine goesL_ (some 103) rfl rfl Tryd.func37 (by kernel_rfl) rfl #[.slice (some ad105) l0.length c0, .int .i64 (wrap64 (t110 - 1))] rfl (by (try simp only [List.map_toArray, List.map_cons, List.map_nil]); first | done | rfl | (simp only [List.length_drop, List.length_take]; rfl) | (simp only [ByteArray.size_extract, Nat.min_self]; done) | (simp only [ByteArray.size_append, StrMore.size_lit, List.length_cons, List.length_nil, Nat.zero_add, Nat.reduceAdd] <;> rfl)) ?_; (with_reducible refine (ih kj39 (by have := HJ34.out; have := HJ39.out; omega) _ _ l0 (wrap64 (t110 - 1)) t112 t113 _ ?side1 ?side2 A50.out).mono ?_); (case side1 => repeat (first | exact (Kd.C_below HR0.out HB.out) | (with_reducible refine Kd.C_alloc ?_ _) | (with_reducible refine Kd.C_drewN ?_ _) | (with_reducible refine Kd.C_drew ?_))); (case side2 => exact HC0.out); rintro e w54 ⟨rfl, hb⟩; refine ⟨_, rfl, ?_⟩; have n0_ := Aside0.mk (blk_below (g := gb106) (o := .cells #[.int .i64 ((rd_T61 l0 a1).f0), .string ((rd_T61 l0 a1).f1), .int .i64 ((rd_T61 l0 a1).f2), .int .i64 ((rd_T61 l0 a1).f3)] 61 (0, 0)) (by (with_reducible repeat (first | refine blk_drewN ?_ _ | refine blk_drew ?_ | refine blk_alloc ?_ _)); exact BK106.out) hb); have n1_ := Aside0.mk (below_step (by repeat (first | (with_reducible first | exact HB.out | apply below_alloc | apply pw_below_drewN | apply below_drew1 | refine below_set ?_ GE106.out) | exact HB.out)) hb); clear BK106; clear HB; have BK106 := n0_; have HB := n1_; clear n0_ n1_; (try clear hb); (try clear hb2); (try clear hk); (try clear hi)))
                          go_ret2
                          exact ⟨by first | rfl | (simp [errW_none, errW_some] <;> rfl) | (simp only [← hji51]; first | rfl | (simp [errW_none, errW_some] <;> rfl)) | (simp [*, errW_none, errW_some] <;> rfl), by repeat (first | (with_reducible first | exact HB.out | apply below_alloc | apply pw_below_drewN | apply below_drew1 | refine below_set ?_ GE106.out) | exact HB.out)⟩
                        · rw [if_neg c49] at H
                          have c49b0 : (((rd_T61 l0 a1).f2) == (wrap64 (t110 - 1))) = false := beq_eq_false_iff_ne.mpr c49
                          have c49b1 : (((rd_T61 l0 a1).f2) != (wrap64 (t110 - 1))) = true := bne_iff_ne.mpr c49
                          simp only [Option.some.injEq, Prod.mk.injEq] at H
                          obtain ⟨rfl, rfl⟩ := H
                          go_wp2_with (first | ((with_reducible refine gate_callee (f := 37) rfl ?_); refine goesL_ (some 87) rfl rfl Tryd.func37 (by kernel_rfl) rfl #[.slice (some ad105) l0.length c0, .int .i64 (wrap64 (a1 - 1))] rfl (by (try simp only [List.map_toArray, List.map_cons, List.map_nil]); first | done | rfl | (simp only [List.length_drop, List.length_take]; rfl) | (simp only [ByteArray.size_extract, Nat.min_self]; done) | (simp only [ByteArray.size_append, StrMore.size_lit, List.length_cons, List.length_nil, Nat.zero_add, Nat.reduceAdd] <;> rfl)) ?_; (with_reducible refine (ih kj39 (by have := HJ34.out; have := HJ39.out; omega) _ _ l0 (wrap64 (a1 - 1)) t110 t111 _ ?side1 ?side2 A47.out).mono ?_); (case side1 => repeat (first | exact (Kd.C_below HR0.out HB.out) | (with_reducible refine Kd.C_alloc ?_ _) | (with_reducible refine Kd.C_drewN ?_ _) | (with_reducible refine Kd.C_drew ?_))); (case side2 => exact HC0.out); rintro e w55 ⟨rfl, hb⟩; refine ⟨_, rfl, ?_⟩; have n0_ := Aside0.mk (blk_below (g := gb106) (o := .cells #[.int .i64 ((rd_T61 l0 a1).f0), .string ((rd_T61 l0 a1).f1), .int .i64 ((rd_T61 l0 a1).f2), .int .i64 ((rd_T61 l0 a1).f3)] 61 (0, 0)) (by (with_reducible repeat (first | refine blk_drewN ?_ _ | refine blk_drew ?_ | refine blk_alloc ?_ _)); exact BK106.out) hb); have n1_ := Aside0.mk (below_step (by repeat (first | (with_reducible first | exact HB.out | apply below_alloc | apply pw_below_drewN | apply below_drew1 | refine below_set ?_ GE106.out) | exact HB.out)) hb); clear BK106; clear HB; have BK106 := n0_; have HB := n1_; clear n0_ n1_; (try clear hb); (try clear hb2); (try clear hk); (try clear hi); have hcz56_0 : w55.cell? ⟨gb106, 0, none⟩ = some (.int .i64 ((rd_T61 l0 a1).f0)) := (blk_cell BK106.out 0).trans rfl; have hcz56_1 : w55.cell? ⟨gb106, 1, none⟩ = some (.string ((rd_T61 l0 a1).f1)) := (blk_cell BK106.out 1).trans rfl; have hcz56_2 : w55.cell? ⟨gb106, 2, none⟩ = some (.int .i64 ((rd_T61 l0 a1).f2)) := (blk_cell BK106.out 2).trans rfl; have hcz56_3 : w55.cell? ⟨gb106, 3, none⟩ = some (.int .i64 ((rd_T61 l0 a1).f3)) := (blk_cell BK106.out 3).trans rfl; have hfz56_0 := blk_frozen BK106.out 0; have hfz56_1 := blk_frozen BK106.out 1; have hfz56_2 := blk_frozen BK106.out 2; have hfz56_3 := blk_frozen BK106.out 3))
                          go_ret2
                          exact ⟨by first | rfl | (simp [errW_none, errW_some] <;> rfl) | (simp [*, errW_none, errW_some] <;> rfl) | (exfalso; simp only [decide_eq_true_eq, decide_eq_false_iff_not, beq_iff_eq, beq_eq_false_iff_ne] at *; first | contradiction | omega), by repeat (first | (with_reducible first | exact HB.out | apply below_alloc | apply pw_below_drewN | apply below_drew1 | refine below_set ?_ GE106.out) | exact HB.out)⟩
                      · rw [if_neg c48] at H
                        have c48b0 : decide (0 < t110) = false := decide_eq_false c48
                        clear c48
                        simp only [Option.some.injEq, Prod.mk.injEq] at H
                        obtain ⟨rfl, rfl⟩ := H
                        go_wp2_with (first | ((with_reducible refine gate_callee (f := 37) rfl ?_); refine goesL_ (some 87) rfl rfl Tryd.func37 (by kernel_rfl) rfl #[.slice (some ad105) l0.length c0, .int .i64 (wrap64 (a1 - 1))] rfl (by (try simp only [List.map_toArray, List.map_cons, List.map_nil]); first | done | rfl | (simp only [List.length_drop, List.length_take]; rfl) | (simp only [ByteArray.size_extract, Nat.min_self]; done) | (simp only [ByteArray.size_append, StrMore.size_lit, List.length_cons, List.length_nil, Nat.zero_add, Nat.reduceAdd] <;> rfl)) ?_; (with_reducible refine (ih kj39 (by have := HJ34.out; have := HJ39.out; omega) _ _ l0 (wrap64 (a1 - 1)) t110 t111 _ ?side1 ?side2 A47.out).mono ?_); (case side1 => repeat (first | exact (Kd.C_below HR0.out HB.out) | (with_reducible refine Kd.C_alloc ?_ _) | (with_reducible refine Kd.C_drewN ?_ _) | (with_reducible refine Kd.C_drew ?_))); (case side2 => exact HC0.out); rintro e w57 ⟨rfl, hb⟩; refine ⟨_, rfl, ?_⟩; have n0_ := Aside0.mk (blk_below (g := gb106) (o := .cells #[.int .i64 ((rd_T61 l0 a1).f0), .string ((rd_T61 l0 a1).f1), .int .i64 ((rd_T61 l0 a1).f2), .int .i64 ((rd_T61 l0 a1).f3)] 61 (0, 0)) (by (with_reducible repeat (first | refine blk_drewN ?_ _ | refine blk_drew ?_ | refine blk_alloc ?_ _)); exact BK106.out) hb); have n1_ := Aside0.mk (below_step (by repeat (first | (with_reducible first | exact HB.out | apply below_alloc | apply pw_below_drewN | apply below_drew1 | refine below_set ?_ GE106.out) | exact HB.out)) hb); clear BK106; clear HB; have BK106 := n0_; have HB := n1_; clear n0_ n1_; (try clear hb); (try clear hb2); (try clear hk); (try clear hi)))
                        go_ret2
                        exact ⟨by first | rfl | (simp [errW_none, errW_some] <;> rfl) | (simp [*, errW_none, errW_some] <;> rfl) | (exfalso; simp only [decide_eq_true_eq, decide_eq_false_iff_not, beq_iff_eq, beq_eq_false_iff_ne] at *; first | contradiction | omega), by repeat (first | (with_reducible first | exact HB.out | apply below_alloc | apply pw_below_drewN | apply below_drew1 | refine below_set ?_ GE106.out) | exact HB.out)⟩
                    · replace c46 := Bool.eq_false_iff.mpr c46
                      subst c46
                      have H1 : (some ((-1), 0)) = some (r1, r2) := by rw [if_neg (show ¬ (false = true) by decide)] at H; exact H
                      clear H
                      have H := H1
                      clear H1
                      simp only [Option.some.injEq, Prod.mk.injEq] at H
                      obtain ⟨rfl, rfl⟩ := H
                      go_wp2
                      go_ret2
                      exact ⟨by first | rfl | (simp [errW_none, errW_some] <;> rfl) | (simp [*, errW_none, errW_some] <;> rfl) | (exfalso; simp only [decide_eq_true_eq, decide_eq_false_iff_not, beq_iff_eq, beq_eq_false_iff_ne] at *; first | contradiction | omega), by repeat (first | (with_reducible first | exact HB.out | apply below_alloc | apply pw_below_drewN | apply below_drew1 | refine below_set ?_ GE106.out) | exact HB.out)⟩
              · replace c39 := Bool.eq_false_iff.mpr c39
                subst c39
                have H1 : (some ((-1), 0)) = some (r1, r2) := by rw [if_neg (show ¬ (false = true) by decide)] at H; exact H
                clear H
                have H := H1
                clear H1
                simp only [Option.some.injEq, Prod.mk.injEq] at H
                obtain ⟨rfl, rfl⟩ := H
                go_wp2
                go_ret2
                exact ⟨by first | rfl | (simp [errW_none, errW_some] <;> rfl) | (simp [*, errW_none, errW_some] <;> rfl) | (exfalso; simp only [decide_eq_true_eq, decide_eq_false_iff_not, beq_iff_eq, beq_eq_false_iff_ne] at *; first | contradiction | omega), by repeat (first | (with_reducible first | exact HB.out | apply below_alloc | apply pw_below_drewN | apply below_drew1 | refine below_set ?_ GE106.out) | exact HB.out)⟩
    · rw [if_neg c4] at H
      exact absurd H (by simp)
  · rw [if_neg c3] at H
    exact absurd H (by simp)

end Go.Proofs.YtjndccjpjknbkaaDoor.PPl

-- by hprint.py (wip/): the kit's print over contracts proved by hand; a text of this session
namespace Go.Proofs.YtjndccjpjknbkaaDoor.PPl
open Go.RowKit Go.Proofs.YtjndccjpjknbkaaDoorW.PrintWords Go.Proofs.YtjndccjpjknbkaaDoorW.PrintLast Go.Proofs.YtjndccjpjknbkaaDoorW.PrintMore
attribute [local go_sem] max2_int min2_int max_two min_two max_three min_three max_four min_four   -- for this text's walks alone
set_option linter.unusedVariables false
set_option linter.unusedSimpArgs false

/-! ### graftbedref12_Check: function 15 -/
def graftbedref12_Check.j0 : Nat → List (S61) → Bool → Option (Int)
  | 0, _, _ => none
  | k + 1, x0, x12 => if x12 = true then (some 120) else ((graftbedref12_whole.f k x0 (wrap64 ((x0.length : Int) - 1))).bind fun bt114 => (if bt114.1 = 0 then (if bt114.2 > 40 then (some 120) else (some 0)) else (some 120)))
def graftbedref12_Check.f (k : Nat) (l0 : List (S61)) : Option (Int) := if (l0.length : Int) < 1 then (graftbedref12_Check.j0 k l0 true) else (graftbedref12_Check.j0 k l0 (decide ((l0.length : Int) > 60)))
theorem graftbedref12_Check.mono_l : ∀ k, (∀ y0 y1, LeO (graftbedref12_Check.j0 k y0 y1) (graftbedref12_Check.j0 (k + 1) y0 y1))
  | 0 => fun _ _ r h => by simp [graftbedref12_Check.j0] at h
  | k + 1 => by
    have ih0 := graftbedref12_Check.mono_l k
    · intro y0 y1
      unfold graftbedref12_Check.j0
      repeat' first
      | (with_reducible exact ih0 _ _)
      | (with_reducible exact graftbedref12_whole.mono _ _ _)
      | (with_reducible exact LeO.refl _)
      | (with_reducible exact LeO.none _)
      | (with_reducible refine LeO.ite ?_ ?_)
      | (with_reducible refine LeO.bind ?_ (fun _ => ?_))
      | exact ih0 _ _
      | exact graftbedref12_whole.mono _ _ _
      | exact LeO.none _
      | refine LeO.ite ?_ ?_
      | refine LeO.bind ?_ (fun _ => ?_)
theorem graftbedref12_Check.mono : ∀ a0 k, LeO (graftbedref12_Check.f k a0) (graftbedref12_Check.f (k + 1) a0) := by
  intro a0 k
  have ih0 := graftbedref12_Check.mono_l k
  unfold graftbedref12_Check.f
  repeat' first
      | (with_reducible exact ih0 _ _)
      | (with_reducible exact graftbedref12_whole.mono _ _ _)
      | (with_reducible exact LeO.refl _)
      | (with_reducible exact LeO.none _)
      | (with_reducible refine LeO.ite ?_ ?_)
      | (with_reducible refine LeO.bind ?_ (fun _ => ?_))
      | exact ih0 _ _
      | exact graftbedref12_whole.mono _ _ _
      | exact LeO.none _
      | refine LeO.ite ?_ ?_
      | refine LeO.bind ?_ (fun _ => ?_)
set_option maxHeartbeats 8000000 in
set_option maxRecDepth 100000 in
theorem graftbedref12_Check.calls (k : Nat) (A0 : Option Addr) (c0 : Nat) (l0 : List (S61)) (r : Int) (w : World) (hr0 : Kd.C k61 w A0 l0.length l0) (hc0 : l0.length ≤ c0) (h : graftbedref12_Check.f k l0 = some r) :
    Calls Tryd.prog 15 #[.slice A0 l0.length c0] w fun e w' => e = .returned (.int .i64 r) ∧ Below w.heap.size w w' := by
  have HR0 := Aside0.mk hr0
  have HC0 := Aside0.mk hc0
  clear hr0 hc0
  have HB := Aside0.mk (Below.refl w.heap.size w)
  have H : (if (l0.length : Int) < 1 then (graftbedref12_Check.j0 k l0 true) else (graftbedref12_Check.j0 k l0 (decide ((l0.length : Int) > 60)))) = some r := h
  clear h
  have HC2 := Aside0.mk H
  clear H
  go_enter Tryd.func15, Tryd.ntmps15
  go_upto_region 1 with (fail)
  go_cut [12] (fun v12 wc => ∃ (kq : Nat) (x12_1 : Bool), v12 = .bool x12_1 ∧ Aside0 (graftbedref12_Check.j0 kq l0 x12_1 = some r) ∧ Aside0 (kq ≤ k) ∧ Aside0 (Below w.heap.size w wc))
  case first =>
    have H := HC2.out
    clear HC2
    by_cases c3 : (l0.length : Int) < 1
    · rw [if_pos c3] at H
      have c3b0 : decide ((l0.length : Int) < 1) = true := decide_eq_true c3
      have c3b1 : decide (l0.length < 1) = true := decide_eq_true (by omega)
      clear c3
      (first | rw [c3b0] | (simp only [i64_w, i32_w]; rw [c3b0]) | skip)
      have H' := Aside0.mk H
      clear H
      go_wp2
      go_meet
      case rel => exact ⟨_, (true), (by first | rfl | (simp; done) | (simp [*]; done)), H', ⟨by first | omega | exact Nat.le_refl _⟩, ⟨by repeat (first | (with_reducible first | exact HB.out | apply below_alloc | apply pw_below_drewN | apply below_drew1) | exact HB.out)⟩⟩
    · rw [if_neg c3] at H
      have c3b0 : decide ((l0.length : Int) < 1) = false := decide_eq_false c3
      have c3b1 : decide (l0.length < 1) = false := decide_eq_false (by omega)
      clear c3
      (first | rw [c3b0] | (simp only [i64_w, i32_w]; rw [c3b0]) | skip)
      have H' := Aside0.mk H
      clear H
      go_wp2
      go_meet
      case rel => exact ⟨_, (decide ((l0.length : Int) > 60)), (by first | rfl | (simp; done) | (simp [*]; done)), H', ⟨by first | omega | exact Nat.le_refl _⟩, ⟨by repeat (first | (with_reducible first | exact HB.out | apply below_alloc | apply pw_below_drewN | apply below_drew1) | exact HB.out)⟩⟩
  case rest =>
    clear HC2
    try clear c1
    try clear p2
    try clear c3
    try clear c3b0
    try clear c3b1
    obtain ⟨kq, x12_1, rfl, HA, HJ1, HB⟩ := hcut
    cases kq with
    | zero => exact absurd HA.out (by simp [graftbedref12_Check.j0])
    | succ kj1 =>
      have H := HA.out
      clear HA
      simp only [graftbedref12_Check.j0] at H
      by_cases c4 : x12_1 = true
      · subst c4
        have H1 : (some 120) = some r := by rw [if_pos rfl] at H; exact H
        clear H
        have H := H1
        clear H1
        obtain rfl := Option.some.inj H
        go_wp2
        go_ret
        exact ⟨by first | rfl | (simp [errW_none, errW_some] <;> rfl) | (simp [*, errW_none, errW_some] <;> rfl) | (exfalso; simp only [decide_eq_true_eq, decide_eq_false_iff_not, beq_iff_eq, beq_eq_false_iff_ne] at *; first | contradiction | omega), by repeat (first | (with_reducible first | exact HB.out | apply below_alloc | apply pw_below_drewN | apply below_drew1) | exact HB.out)⟩
      · replace c4 := Bool.eq_false_iff.mpr c4
        subst c4
        have H1 : ((graftbedref12_whole.f kj1 l0 (wrap64 ((l0.length : Int) - 1))).bind fun bt114 => (if bt114.1 = 0 then (if bt114.2 > 40 then (some 120) else (some 0)) else (some 120))) = some r := by rw [if_neg (show ¬ (false = true) by decide)] at H; exact H
        clear H
        have H := H1
        clear H1
        replace H := Option.bind_eq_some_iff.mp H
        obtain ⟨⟨t114, t115⟩, A50, H⟩ := H
        replace H : (if t114 = 0 then (if t115 > 40 then (some 120) else (some 0)) else (some 120)) = some r := H
        have A5 := Aside0.mk A50
        clear A50
        by_cases c6 : t114 = 0
        · rw [if_pos c6] at H
          have c6b0 : (t114 == 0) = true := beq_iff_eq.mpr c6
          have c6b1 : (t114 != 0) = false := bne_eq_false_iff_eq.mpr c6
          clear c6
          by_cases c7 : t115 > 40
          · rw [if_pos c7] at H
            have c7b0 : decide (40 < t115) = true := decide_eq_true c7
            clear c7
            obtain rfl := Option.some.inj H
            go_wp2_with (first | ((with_reducible refine gate_callee (f := 37) rfl ?_); refine goesL_ (some 18) rfl rfl Tryd.func37 (by kernel_rfl) rfl #[.slice A0 l0.length c0, .int .i64 (wrap64 ((l0.length : Int) - 1))] rfl (by (try simp only [List.map_toArray, List.map_cons, List.map_nil]); first | done | rfl | (simp only [List.length_drop, List.length_take]; rfl) | (simp only [ByteArray.size_extract, Nat.min_self]; done) | (simp only [ByteArray.size_append, StrMore.size_lit, List.length_cons, List.length_nil, Nat.zero_add, Nat.reduceAdd] <;> rfl)) ?_; (with_reducible refine (graftbedref12_whole.calls kj1 _ _ l0 (wrap64 ((l0.length : Int) - 1)) t114 t115 _ ?side1 ?side2 A5.out).mono ?_); (case side1 => repeat (first | exact (Kd.C_below HR0.out HB.out) | (with_reducible refine Kd.C_alloc ?_ _) | (with_reducible refine Kd.C_drewN ?_ _) | (with_reducible refine Kd.C_drew ?_))); (case side2 => exact HC0.out); rintro e w8 ⟨rfl, hb⟩; refine ⟨_, rfl, ?_⟩; have n0_ := Aside0.mk (below_step (by repeat (first | (with_reducible first | exact HB.out | apply below_alloc | apply pw_below_drewN | apply below_drew1) | exact HB.out)) hb); clear HB; have HB := n0_; clear n0_; (try clear hb); (try clear hb2); (try clear hk); (try clear hi)))
            go_ret
            exact ⟨by first | rfl | (simp [errW_none, errW_some] <;> rfl) | (simp [*, errW_none, errW_some] <;> rfl) | (exfalso; simp only [decide_eq_true_eq, decide_eq_false_iff_not, beq_iff_eq, beq_eq_false_iff_ne] at *; first | contradiction | omega), by repeat (first | (with_reducible first | exact HB.out | apply below_alloc | apply pw_below_drewN | apply below_drew1) | exact HB.out)⟩
          · rw [if_neg c7] at H
            have c7b0 : decide (40 < t115) = false := decide_eq_false c7
            clear c7
            obtain rfl := Option.some.inj H
            go_wp2_with (first | ((with_reducible refine gate_callee (f := 37) rfl ?_); refine goesL_ (some 18) rfl rfl Tryd.func37 (by kernel_rfl) rfl #[.slice A0 l0.length c0, .int .i64 (wrap64 ((l0.length : Int) - 1))] rfl (by (try simp only [List.map_toArray, List.map_cons, List.map_nil]); first | done | rfl | (simp only [List.length_drop, List.length_take]; rfl) | (simp only [ByteArray.size_extract, Nat.min_self]; done) | (simp only [ByteArray.size_append, StrMore.size_lit, List.length_cons, List.length_nil, Nat.zero_add, Nat.reduceAdd] <;> rfl)) ?_; (with_reducible refine (graftbedref12_whole.calls kj1 _ _ l0 (wrap64 ((l0.length : Int) - 1)) t114 t115 _ ?side1 ?side2 A5.out).mono ?_); (case side1 => repeat (first | exact (Kd.C_below HR0.out HB.out) | (with_reducible refine Kd.C_alloc ?_ _) | (with_reducible refine Kd.C_drewN ?_ _) | (with_reducible refine Kd.C_drew ?_))); (case side2 => exact HC0.out); rintro e w9 ⟨rfl, hb⟩; refine ⟨_, rfl, ?_⟩; have n0_ := Aside0.mk (below_step (by repeat (first | (with_reducible first | exact HB.out | apply below_alloc | apply pw_below_drewN | apply below_drew1) | exact HB.out)) hb); clear HB; have HB := n0_; clear n0_; (try clear hb); (try clear hb2); (try clear hk); (try clear hi)))
            go_ret
            exact ⟨by first | rfl | (simp [errW_none, errW_some] <;> rfl) | (simp [*, errW_none, errW_some] <;> rfl) | (exfalso; simp only [decide_eq_true_eq, decide_eq_false_iff_not, beq_iff_eq, beq_eq_false_iff_ne] at *; first | contradiction | omega), by repeat (first | (with_reducible first | exact HB.out | apply below_alloc | apply pw_below_drewN | apply below_drew1) | exact HB.out)⟩
        · rw [if_neg c6] at H
          have c6b0 : (t114 == 0) = false := beq_eq_false_iff_ne.mpr c6
          have c6b1 : (t114 != 0) = true := bne_iff_ne.mpr c6
          obtain rfl := Option.some.inj H
          go_wp2_with (first | ((with_reducible refine gate_callee (f := 37) rfl ?_); refine goesL_ (some 18) rfl rfl Tryd.func37 (by kernel_rfl) rfl #[.slice A0 l0.length c0, .int .i64 (wrap64 ((l0.length : Int) - 1))] rfl (by (try simp only [List.map_toArray, List.map_cons, List.map_nil]); first | done | rfl | (simp only [List.length_drop, List.length_take]; rfl) | (simp only [ByteArray.size_extract, Nat.min_self]; done) | (simp only [ByteArray.size_append, StrMore.size_lit, List.length_cons, List.length_nil, Nat.zero_add, Nat.reduceAdd] <;> rfl)) ?_; (with_reducible refine (graftbedref12_whole.calls kj1 _ _ l0 (wrap64 ((l0.length : Int) - 1)) t114 t115 _ ?side1 ?side2 A5.out).mono ?_); (case side1 => repeat (first | exact (Kd.C_below HR0.out HB.out) | (with_reducible refine Kd.C_alloc ?_ _) | (with_reducible refine Kd.C_drewN ?_ _) | (with_reducible refine Kd.C_drew ?_))); (case side2 => exact HC0.out); rintro e w10 ⟨rfl, hb⟩; refine ⟨_, rfl, ?_⟩; have n0_ := Aside0.mk (below_step (by repeat (first | (with_reducible first | exact HB.out | apply below_alloc | apply pw_below_drewN | apply below_drew1) | exact HB.out)) hb); clear HB; have HB := n0_; clear n0_; (try clear hb); (try clear hb2); (try clear hk); (try clear hi)))
          go_ret
          exact ⟨by first | rfl | (simp [errW_none, errW_some] <;> rfl) | (simp [*, errW_none, errW_some] <;> rfl) | (exfalso; simp only [decide_eq_true_eq, decide_eq_false_iff_not, beq_iff_eq, beq_eq_false_iff_ne] at *; first | contradiction | omega), by repeat (first | (with_reducible first | exact HB.out | apply below_alloc | apply pw_below_drewN | apply below_drew1) | exact HB.out)⟩

end Go.Proofs.YtjndccjpjknbkaaDoor.PPl

-- by hprint.py (wip/): the kit's print over contracts proved by hand; a text of this session
namespace Go.Proofs.YtjndccjpjknbkaaDoor.PPl
open Go.RowKit Go.Proofs.YtjndccjpjknbkaaDoorW.PrintWords Go.Proofs.YtjndccjpjknbkaaDoorW.PrintLast Go.Proofs.YtjndccjpjknbkaaDoorW.PrintMore
attribute [local go_sem] max2_int min2_int max_two min_two max_three min_three max_four min_four   -- for this text's walks alone
set_option linter.unusedVariables false
set_option linter.unusedSimpArgs false

/-! ### graftbedref12_moved: function 68 -/
def graftbedref12_moved.enc (x : S61) : ExNode.Nd := ⟨x.f0, x.f1, x.f2, x.f3⟩
def graftbedref12_moved.dec (x : ExNode.Nd) : S61 := ⟨x.kind, x.tag, x.a, x.b⟩
def graftbedref12_moved.f (l0 : List (S61)) (a1 : Int) : Option (List (S61)) :=
  if l0.length ≤ 1000000 then some (((l0.map graftbedref12_moved.enc).map (ExBoth.shiftN a1)).map graftbedref12_moved.dec) else none
theorem graftbedref12_moved.calls (A0 : Option Addr) (c0 : Nat) (l0 : List (S61)) (a1 : Int) (r : List (S61)) (w : World) (hr0 : Kd.C k61 w A0 l0.length l0) (hc0 : l0.length ≤ c0) (h : graftbedref12_moved.f l0 a1 = some r) :
    Calls Tryd.prog 68 #[.slice A0 l0.length c0, .int .i64 a1] w fun e w' => ∃ v0_ : Value, e = .returned (v0_) ∧ Kd.R k61 61 w' w.heap.size (fun _ => True) v0_ r ∧ Below w.heap.size w w' := by
  unfold graftbedref12_moved.f at h
  by_cases h1 : l0.length ≤ 1000000
  · rw [if_pos h1] at h
    obtain rfl := Option.some.inj h
    refine (ExBoth.moved_calls k61 rfl graftbedref12_moved.enc (fun h => k61_open h) a1 A0 c0 l0 w hr0 h1).mono ?_
    rintro e w' ⟨v, rfl, ho, hb⟩
    refine ⟨v, rfl, RowsLib.R_of (f := fun x => ExNode.encN (graftbedref12_moved.enc x)) (n := 4) (fun _ => rfl) rfl (fun ok x => k61_mkM _ _ _ x) ?_ (Nat.le_refl _), hb⟩
    have e1 : ∀ l : List ExNode.Nd, RowsLib.cellsL (fun x => ExNode.encN (graftbedref12_moved.enc x)) (l.map graftbedref12_moved.dec) = ExNode.cellsN l := fun l => by
      unfold ExNode.cellsN RowsLib.cellsL
      rw [List.flatMap_map]
      rfl
    rw [e1, List.length_map]
    exact ho
  · rw [if_neg h1] at h
    cases h

end Go.Proofs.YtjndccjpjknbkaaDoor.PPl

-- by hprint.py (wip/): the kit's print over contracts proved by hand; a text of this session
namespace Go.Proofs.YtjndccjpjknbkaaDoor.PPl
open Go.RowKit Go.Proofs.YtjndccjpjknbkaaDoorW.PrintWords Go.Proofs.YtjndccjpjknbkaaDoorW.PrintLast Go.Proofs.YtjndccjpjknbkaaDoorW.PrintMore
attribute [local go_sem] max2_int min2_int max_two min_two max_three min_three max_four min_four   -- for this text's walks alone
set_option linter.unusedVariables false
set_option linter.unusedSimpArgs false

/-! ### graftbedref12_both: function 45 -/
def graftbedref12_both.f (a0 : Int) (l1 : List (S61)) (l2 : List (S61)) : Option ((List (S61))) := (some (([] : List (S61)) : List (S61))).bind fun y116 => (if y116.length + l1.length < 3518437208883 then ((some (y116 ++ l1 : List (S61))).bind fun y119 => ((graftbedref12_moved.f l2 (l1.length : Int)).bind fun t122 => (if y119.length + t122.length < 3518437208883 then ((some (y119 ++ t122 : List (S61))).bind fun y125 => (if y125.length < 3518437208883 then (some (y125 ++ [(⟨a0, (⟨#[]⟩ : ByteArray), wrap64 ((l1.length : Int) - 1), wrap64 ((wrap64 ((l1.length : Int) + (l2.length : Int))) - 1)⟩ : S61)])) else (none))) else (none)))) else (none))
set_option maxHeartbeats 8000000 in
set_option maxRecDepth 100000 in
theorem graftbedref12_both.calls (a0 : Int) (A1 : Option Addr) (c1 : Nat) (l1 : List (S61)) (A2 : Option Addr) (c2 : Nat) (l2 : List (S61)) (r : List (S61)) (w : World) (hr1 : Kd.C k61 w A1 l1.length l1) (hc1 : l1.length ≤ c1) (hr2 : Kd.C k61 w A2 l2.length l2) (hc2 : l2.length ≤ c2) (h : graftbedref12_both.f a0 l1 l2 = some r) :
    Calls Tryd.prog 45 #[.int .i64 a0, .slice A1 l1.length c1, .slice A2 l2.length c2] w fun e w' => ∃ v0_ : Value, e = .returned (v0_) ∧ Kd.R k61 61 w' w.heap.size (fun _ => True) v0_ r ∧ Below w.heap.size w w' := by
  have hu61 := Tryd.underlying61
  have HR1 := Aside0.mk hr1
  have HC1 := Aside0.mk hc1
  clear hr1 hc1
  have HR2 := Aside0.mk hr2
  have HC2 := Aside0.mk hc2
  clear hr2 hc2
  have HB := Aside0.mk (Below.refl w.heap.size w)
  have H : ((some (([] : List (S61)) : List (S61))).bind fun y116 => (if y116.length + l1.length < 3518437208883 then ((some (y116 ++ l1 : List (S61))).bind fun y119 => ((graftbedref12_moved.f l2 (l1.length : Int)).bind fun t122 => (if y119.length + t122.length < 3518437208883 then ((some (y119 ++ t122 : List (S61))).bind fun y125 => (if y125.length < 3518437208883 then (some (y125 ++ [(⟨a0, (⟨#[]⟩ : ByteArray), wrap64 ((l1.length : Int) - 1), wrap64 ((wrap64 ((l1.length : Int) + (l2.length : Int))) - 1)⟩ : S61)])) else (none))) else (none)))) else (none))) = some r := h
  clear h
  obtain ⟨y116, hy116⟩ : ∃ y_ : List (S61), y_ = (([] : List (S61))) := ⟨_, rfl⟩
  replace H : (if y116.length + l1.length < 3518437208883 then ((some (y116 ++ l1 : List (S61))).bind fun y119 => ((graftbedref12_moved.f l2 (l1.length : Int)).bind fun t122 => (if y119.length + t122.length < 3518437208883 then ((some (y119 ++ t122 : List (S61))).bind fun y125 => (if y125.length < 3518437208883 then (some (y125 ++ [(⟨a0, (⟨#[]⟩ : ByteArray), wrap64 ((l1.length : Int) - 1), wrap64 ((wrap64 ((l1.length : Int) + (l2.length : Int))) - 1)⟩ : S61)])) else (none))) else (none)))) else (none)) = some r := by first | (rw [hy116]; with_reducible exact H) | (have H2_ := (Option.bind_some _ _).symm.trans H; rw [hy116]; with_reducible exact H2_) | (have H2_ := (Option.bind_some _ _).symm.trans H; with_reducible exact H2_) | with_reducible exact H | (rw [hy116]; exact H) | exact H
  have Ny116 := Aside0.mk hy116
  clear hy116
  by_cases c4 : y116.length + l1.length < 3518437208883
  · rw [if_pos c4] at H
    have LMc4 := Aside0.mk c4
    clear c4
    obtain ⟨y119, hy119⟩ : ∃ y_ : List (S61), y_ = (y116 ++ l1) := ⟨_, rfl⟩
    replace H : ((graftbedref12_moved.f l2 (l1.length : Int)).bind fun t122 => (if y119.length + t122.length < 3518437208883 then ((some (y119 ++ t122 : List (S61))).bind fun y125 => (if y125.length < 3518437208883 then (some (y125 ++ [(⟨a0, (⟨#[]⟩ : ByteArray), wrap64 ((l1.length : Int) - 1), wrap64 ((wrap64 ((l1.length : Int) + (l2.length : Int))) - 1)⟩ : S61)])) else (none))) else (none))) = some r := by first | (rw [hy119]; with_reducible exact H) | (have H2_ := (Option.bind_some _ _).symm.trans H; rw [hy119]; with_reducible exact H2_) | (have H2_ := (Option.bind_some _ _).symm.trans H; with_reducible exact H2_) | with_reducible exact H | (rw [hy119]; exact H) | exact H
    have Ny119 := Aside0.mk hy119
    clear hy119
    replace H := Option.bind_eq_some_iff.mp H
    obtain ⟨t122, A50, H⟩ := H
    replace H : (if y119.length + t122.length < 3518437208883 then ((some (y119 ++ t122 : List (S61))).bind fun y125 => (if y125.length < 3518437208883 then (some (y125 ++ [(⟨a0, (⟨#[]⟩ : ByteArray), wrap64 ((l1.length : Int) - 1), wrap64 ((wrap64 ((l1.length : Int) + (l2.length : Int))) - 1)⟩ : S61)])) else (none))) else (none)) = some r := H
    have A5 := Aside0.mk A50
    clear A50
    by_cases c6 : y119.length + t122.length < 3518437208883
    · rw [if_pos c6] at H
      have LMc6 := Aside0.mk c6
      clear c6
      obtain ⟨y125, hy125⟩ : ∃ y_ : List (S61), y_ = (y119 ++ t122) := ⟨_, rfl⟩
      replace H : (if y125.length < 3518437208883 then (some (y125 ++ [(⟨a0, (⟨#[]⟩ : ByteArray), wrap64 ((l1.length : Int) - 1), wrap64 ((wrap64 ((l1.length : Int) + (l2.length : Int))) - 1)⟩ : S61)])) else (none)) = some r := by first | (rw [hy125]; with_reducible exact H) | (have H2_ := (Option.bind_some _ _).symm.trans H; rw [hy125]; with_reducible exact H2_) | (have H2_ := (Option.bind_some _ _).symm.trans H; with_reducible exact H2_) | with_reducible exact H | (rw [hy125]; exact H) | exact H
      have Ny125 := Aside0.mk hy125
      clear hy125
      by_cases c7 : y125.length < 3518437208883
      · rw [if_pos c7] at H
        have LMc7 := Aside0.mk c7
        clear c7
        obtain ⟨y128, hy128⟩ : ∃ y_ : List (S61), y_ = (y125 ++ [(⟨a0, (⟨#[]⟩ : ByteArray), wrap64 ((l1.length : Int) - 1), wrap64 ((wrap64 ((l1.length : Int) + (l2.length : Int))) - 1)⟩ : S61)]) := ⟨_, rfl⟩
        replace H : (some y128) = some r := by first | (rw [hy128]; with_reducible exact H) | (have H2_ := (Option.bind_some _ _).symm.trans H; rw [hy128]; with_reducible exact H2_) | (have H2_ := (Option.bind_some _ _).symm.trans H; with_reducible exact H2_) | with_reducible exact H | (rw [hy128]; exact H) | exact H
        have Ny128 := Aside0.mk hy128
        clear hy128
        obtain rfl := Option.some.inj H
        go_enter Tryd.func45, Tryd.ntmps45
        go_wp2_with (first | ((with_reducible refine gate_dst (N := 8) rfl ?_); refine Kd.R_lit k61 _ 61 ?hg (N := 8) ?hd (xs := ([] : List (S61))) (inner := []) (ok := fun _ => True) (okp := fun _ => True) ?hr ?hp (fun _ hk => hk) trivial (Below.refl _ _) (Nat.le_refl _) (by simp) ?_; (case hd => rfl); (case hg => rfl); (case hr => first | (go_simp; done) | (go_simp; rfl)); (case hp => exact (Reps.none _ _)); intro v117 w8 ho9 hb hg_ hnew_; clear hg_ hnew_; (first | rw [← Ny116.out] at ho9 | (simp only [Int.reduceToNat] at ho9; rw [← Ny116.out] at ho9)); have n0_ := Aside0.mk (Kd.R_lower ho9 (below_size (by repeat (first | (with_reducible first | exact HB.out | apply below_alloc | apply pw_below_drewN | apply below_drew1) | exact HB.out)))); have n1_ := Aside0.mk (below_step (by repeat (first | (with_reducible first | exact HB.out | apply below_alloc | apply pw_below_drewN | apply below_drew1) | exact HB.out)) hb); clear HB; have HO118 := n0_; have HB := n1_; clear n0_ n1_; clear hb ho9) | ((with_reducible refine gate_builtin (b := .append) (xs := #[.tmp 9, .tmp 10]) rfl ?_); at_builtin; refine Kd.R_append_rows k61 (w0 := w) w.heap.size rfl (.tmp 9) (.tmp 10) 30 61 (.agg #[(.int .i64 0), (.string ⟨#[]⟩), (.int .i64 0), (.int .i64 0)]) 40 rfl Tryd.underlying30 info61 rfl (by decide) (by omega) v117 y116 l1 _ _ _ (fun _ => True) (fun _ => False) rfl rfl ?aO ?aR (fun _ _ h => h) (fun _ h => h.elim) ?aF ?aB ?aS ?aL ?_; (case aR => repeat (first | exact (Kd.C_below HR1.out HB.out) | (with_reducible refine Kd.C_alloc ?_ _) | (with_reducible refine Kd.C_drewN ?_ _) | (with_reducible refine Kd.C_drew ?_))); (case aB => exact (by repeat (first | (with_reducible first | exact HB.out | apply below_alloc | apply pw_below_drewN | apply below_drew1) | exact HB.out))); (case aF => exact (fun _ _ => trivial)); (case aO => exact (by (with_reducible repeat (first | apply Kd.R_alloc | apply Kd.R_drewN | apply Kd.R_drew)); exact HO118.out)); (case aS => exact (below_size (by repeat (first | (with_reducible first | exact HB.out | apply below_alloc | apply pw_below_drewN | apply below_drew1) | exact HB.out)))); (case aL => have := LMc4.out; omega); intro v120 w10 ho hb hg hat; rw [← Ny119.out] at ho; have n0_ := Aside0.mk (hb); have n1_ := Aside0.mk (ho); clear HB; clear HO118; have HB := n0_; have HO121 := n1_; clear n0_ n1_; clear ho hb hg hat) | ((with_reducible refine gate_callee (f := 68) rfl ?_); refine goesL_ (some 16) rfl rfl Tryd.func68 (by kernel_rfl) rfl #[.slice A2 l2.length c2, .int .i64 (l1.length : Int)] rfl (by (try simp only [List.map_toArray, List.map_cons, List.map_nil]); first | done | rfl | (simp only [List.length_drop, List.length_take]; rfl) | (simp only [ByteArray.size_extract, Nat.min_self]; done) | (simp only [ByteArray.size_append, StrMore.size_lit, List.length_cons, List.length_nil, Nat.zero_add, Nat.reduceAdd] <;> rfl)) ?_; (with_reducible refine (graftbedref12_moved.calls _ _ l2 (l1.length : Int) t122 _ ?side1 ?side2 A5.out).mono ?_); (case side1 => repeat (first | exact (Kd.C_below HR2.out HB.out) | (with_reducible refine Kd.C_alloc ?_ _) | (with_reducible refine Kd.C_drewN ?_ _) | (with_reducible refine Kd.C_drew ?_))); (case side2 => exact HC2.out); rintro e w11 ⟨v123, rfl, ho0, hb⟩; refine ⟨_, rfl, ?_⟩; have n0_ := Aside0.mk (Kd.R_elder' (by (with_reducible repeat (first | apply Kd.R_alloc | apply Kd.R_drewN | apply Kd.R_drew)); exact HO121.out) (Kd.R_base ho0) hb); have n1_ := Aside0.mk (Kd.R_lower (Kd.R_new' ho0 (Kd.R_lt (by (with_reducible repeat (first | apply Kd.R_alloc | apply Kd.R_drewN | apply Kd.R_drew)); exact HO121.out))) (below_size (by repeat (first | (with_reducible first | exact HB.out | apply below_alloc | apply pw_below_drewN | apply below_drew1) | exact HB.out)))); have n2_ := Aside0.mk (below_step (by repeat (first | (with_reducible first | exact HB.out | apply below_alloc | apply pw_below_drewN | apply below_drew1) | exact HB.out)) hb); clear HO121; clear HB; have HO121 := n0_; have HO124 := n1_; have HB := n2_; clear n0_ n1_ n2_; (try clear hb); (try clear hb2); (try clear hk); (try clear hi); (try clear ho0); obtain ⟨Ao13, co13, eo13⟩ := Kd.R_slice HO124.out; subst eo13) | ((with_reducible refine gate_builtin (b := .append) (xs := #[.tmp 12, .tmp 16]) rfl ?_); at_builtin; refine Kd.R_append_rows k61 (w0 := w) w.heap.size rfl (.tmp 12) (.tmp 16) 30 61 (.agg #[(.int .i64 0), (.string ⟨#[]⟩), (.int .i64 0), (.int .i64 0)]) 40 rfl Tryd.underlying30 info61 rfl (by decide) (by omega) v120 y119 t122 _ _ _ (fun k_ => some k_ ≠ (.slice Ao13 t122.length co13 : Value).ownBlock) (fun _ => False) rfl rfl ?aO ?aR (fun _ _ h => h) (fun _ h => h.elim) ?aF ?aB ?aS ?aL ?_; (case aR => repeat (first | exact (Kd.R_reads' HO124.out).2.2 | (with_reducible refine Kd.C_alloc ?_ _) | (with_reducible refine Kd.C_drewN ?_ _) | (with_reducible refine Kd.C_drew ?_))); (case aB => exact (by repeat (first | (with_reducible first | exact HB.out | apply below_alloc | apply pw_below_drewN | apply below_drew1) | exact HB.out))); (case aF => exact (fun k_ hk => Kd.fresh' (Kd.R_lt (by (with_reducible repeat (first | apply Kd.R_alloc | apply Kd.R_drewN | apply Kd.R_drew)); exact HO124.out)) k_ hk)); (case aO => exact (by (with_reducible repeat (first | apply Kd.R_alloc | apply Kd.R_drewN | apply Kd.R_drew)); exact Kd.R_mono HO121.out (fun _ hk => hk.2))); (case aS => exact (below_size (by repeat (first | (with_reducible first | exact HB.out | apply below_alloc | apply pw_below_drewN | apply below_drew1) | exact HB.out)))); (case aL => have := LMc6.out; omega); intro v126 w12 ho hb hg hat; rw [← Ny125.out] at ho; have n0_ := Aside0.mk (Kd.R_after (ok := (fun _ => True)) (by (with_reducible repeat (first | apply Kd.R_alloc | apply Kd.R_drewN | apply Kd.R_drew)); exact HO124.out) hg hat); have n1_ := Aside0.mk (hb); have n2_ := Aside0.mk (ho); clear HO124; clear HB; clear HO121; have HO124 := n0_; have HB := n1_; have HO127 := n2_; clear n0_ n1_ n2_; clear ho hb hg hat) | ((with_reducible refine gate_builtin (b := .append) (xs := #[.tmp 18, .tmp 30]) rfl ?_); at_builtin; refine Kd.R_append k61 (w0 := w) w.heap.size rfl (.tmp 18) (.tmp 30) 30 61 (.agg #[(.int .i64 0), (.string ⟨#[]⟩), (.int .i64 0), (.int .i64 0)]) 40 rfl Tryd.underlying30 info61 rfl (by decide) (by omega) v126 y125 (⟨a0, (⟨#[]⟩ : ByteArray), wrap64 ((l1.length : Int) - 1), wrap64 ((wrap64 ((l1.length : Int) + (l2.length : Int))) - 1)⟩ : S61) [.int .i64 a0, .string (⟨#[]⟩ : ByteArray), .int .i64 (wrap64 ((l1.length : Int) - 1)), .int .i64 (wrap64 ((wrap64 ((l1.length : Int) + (l2.length : Int))) - 1))] (fun k_ => some k_ ≠ (.slice Ao13 t122.length co13 : Value).ownBlock) (fun _ => False) rfl rfl ?aP (fun _ hk => hk.elim) ?aF ?aO ?aB ?aS ?aL ?_; (case aP => exact k61_mkM _ _ _ (⟨a0, (⟨#[]⟩ : ByteArray), wrap64 ((l1.length : Int) - 1), wrap64 ((wrap64 ((l1.length : Int) + (l2.length : Int))) - 1)⟩ : S61)); (case aB => exact (by repeat (first | (with_reducible first | exact HB.out | apply below_alloc | apply pw_below_drewN | apply below_drew1) | exact HB.out))); (case aF => exact (fun k_ hk => Kd.fresh' (Kd.R_lt (by (with_reducible repeat (first | apply Kd.R_alloc | apply Kd.R_drewN | apply Kd.R_drew)); exact HO124.out)) k_ hk)); (case aO => exact (by (with_reducible repeat (first | apply Kd.R_alloc | apply Kd.R_drewN | apply Kd.R_drew)); exact HO127.out)); (case aS => exact (below_size (by repeat (first | (with_reducible first | exact HB.out | apply below_alloc | apply pw_below_drewN | apply below_drew1) | exact HB.out)))); (case aL => have := LMc7.out; omega); intro v129 w14 ho hb hg hat; rw [← Ny128.out] at ho; have n0_ := Aside0.mk (Kd.R_after (ok := (fun _ => True)) (by (with_reducible repeat (first | apply Kd.R_alloc | apply Kd.R_drewN | apply Kd.R_drew)); exact HO124.out) hg hat); have n1_ := Aside0.mk (hb); have n2_ := Aside0.mk (ho); clear HO124; clear HB; clear HO127; have HO124 := n0_; have HB := n1_; have HO130 := n2_; clear n0_ n1_ n2_; clear ho hb hg hat))
        go_ret
        exact ⟨_, by first | rfl | (simp [errW_none, errW_some] <;> rfl) | (simp [*, errW_none, errW_some] <;> rfl), by (with_reducible repeat (first | apply Kd.R_alloc | apply Kd.R_drewN | apply Kd.R_drew)); exact Kd.R_mono HO130.out (fun _ hk => trivial), by repeat (first | (with_reducible first | exact HB.out | apply below_alloc | apply pw_below_drewN | apply below_drew1) | exact HB.out)⟩
      · rw [if_neg c7] at H
        exact absurd H (by simp)
    · rw [if_neg c6] at H
      exact absurd H (by simp)
  · rw [if_neg c4] at H
    exact absurd H (by simp)

end Go.Proofs.YtjndccjpjknbkaaDoor.PPl

-- by hprint.py (wip/): the kit's print over contracts proved by hand; a text of this session
namespace Go.Proofs.YtjndccjpjknbkaaDoor.PPl
open Go.RowKit Go.Proofs.YtjndccjpjknbkaaDoorW.PrintWords Go.Proofs.YtjndccjpjknbkaaDoorW.PrintLast Go.Proofs.YtjndccjpjknbkaaDoorW.PrintMore
attribute [local go_sem] max2_int min2_int max_two min_two max_three min_three max_four min_four   -- for this text's walks alone
set_option linter.unusedVariables false
set_option linter.unusedSimpArgs false

/-! ### graftbedref12_And: function 23 -/
def graftbedref12_And.f (l0 : List (S61)) (l1 : List (S61)) : Option ((List (S61))) := (graftbedref12_both.f 2 l0 l1).bind fun t131 => (some t131)
set_option maxHeartbeats 8000000 in
set_option maxRecDepth 100000 in
theorem graftbedref12_And.calls (A0 : Option Addr) (c0 : Nat) (l0 : List (S61)) (A1 : Option Addr) (c1 : Nat) (l1 : List (S61)) (r : List (S61)) (w : World) (hr0 : Kd.C k61 w A0 l0.length l0) (hc0 : l0.length ≤ c0) (hr1 : Kd.C k61 w A1 l1.length l1) (hc1 : l1.length ≤ c1) (h : graftbedref12_And.f l0 l1 = some r) :
    Calls Tryd.prog 23 #[.slice A0 l0.length c0, .slice A1 l1.length c1] w fun e w' => ∃ v0_ : Value, e = .returned (v0_) ∧ Kd.R k61 61 w' w.heap.size (fun _ => True) v0_ r ∧ Below w.heap.size w w' := by
  have HR0 := Aside0.mk hr0
  have HC0 := Aside0.mk hc0
  clear hr0 hc0
  have HR1 := Aside0.mk hr1
  have HC1 := Aside0.mk hc1
  clear hr1 hc1
  have HB := Aside0.mk (Below.refl w.heap.size w)
  have H : ((graftbedref12_both.f 2 l0 l1).bind fun t131 => (some t131)) = some r := h
  clear h
  replace H := Option.bind_eq_some_iff.mp H
  obtain ⟨t131, A30, H⟩ := H
  replace H : (some t131) = some r := H
  have A3 := Aside0.mk A30
  clear A30
  obtain rfl := Option.some.inj H
  go_enter Tryd.func23, Tryd.ntmps23
  go_wp2_with (first | ((with_reducible refine gate_callee (f := 45) rfl ?_); refine goesL_ (some 7) rfl rfl Tryd.func45 (by kernel_rfl) rfl #[.int .i64 2, .slice A0 l0.length c0, .slice A1 l1.length c1] rfl (by (try simp only [List.map_toArray, List.map_cons, List.map_nil]); first | done | rfl | (simp only [List.length_drop, List.length_take]; rfl) | (simp only [ByteArray.size_extract, Nat.min_self]; done) | (simp only [ByteArray.size_append, StrMore.size_lit, List.length_cons, List.length_nil, Nat.zero_add, Nat.reduceAdd] <;> rfl)) ?_; (with_reducible refine (graftbedref12_both.calls 2 _ _ l0 _ _ l1 t131 _ ?side1 ?side2 ?side3 ?side4 A3.out).mono ?_); (case side1 => repeat (first | exact HR0.out | (with_reducible refine Kd.C_alloc ?_ _) | (with_reducible refine Kd.C_drewN ?_ _) | (with_reducible refine Kd.C_drew ?_))); (case side2 => exact HC0.out); (case side3 => repeat (first | exact HR1.out | (with_reducible refine Kd.C_alloc ?_ _) | (with_reducible refine Kd.C_drewN ?_ _) | (with_reducible refine Kd.C_drew ?_))); (case side4 => exact HC1.out); rintro e w4 ⟨v132, rfl, ho0, hb⟩; refine ⟨_, rfl, ?_⟩; have n0_ := Aside0.mk (Kd.R_lower ho0 (below_size (by repeat (first | (with_reducible first | exact HB.out | apply below_alloc | apply pw_below_drewN | apply below_drew1) | exact HB.out)))); have n1_ := Aside0.mk (below_step (by repeat (first | (with_reducible first | exact HB.out | apply below_alloc | apply pw_below_drewN | apply below_drew1) | exact HB.out)) hb); clear HB; have HO133 := n0_; have HB := n1_; clear n0_ n1_; (try clear hb); (try clear hb2); (try clear hk); (try clear hi); (try clear ho0)))
  go_ret
  exact ⟨_, by first | rfl | (simp [errW_none, errW_some] <;> rfl) | (simp [*, errW_none, errW_some] <;> rfl), by (with_reducible repeat (first | apply Kd.R_alloc | apply Kd.R_drewN | apply Kd.R_drew)); exact HO133.out, by repeat (first | (with_reducible first | exact HB.out | apply below_alloc | apply pw_below_drewN | apply below_drew1) | exact HB.out)⟩

end Go.Proofs.YtjndccjpjknbkaaDoor.PPl

-- by hprint.py (wip/): the kit's print over contracts proved by hand; a text of this session
namespace Go.Proofs.YtjndccjpjknbkaaDoor.PPl
open Go.RowKit Go.Proofs.YtjndccjpjknbkaaDoorW.PrintWords Go.Proofs.YtjndccjpjknbkaaDoorW.PrintLast Go.Proofs.YtjndccjpjknbkaaDoorW.PrintMore
attribute [local go_sem] max2_int min2_int max_two min_two max_three min_three max_four min_four   -- for this text's walks alone
set_option linter.unusedVariables false
set_option linter.unusedSimpArgs false

/-! ### graftbedref12_Or: function 24 -/
def graftbedref12_Or.f (l0 : List (S61)) (l1 : List (S61)) : Option ((List (S61))) := (graftbedref12_both.f 3 l0 l1).bind fun t134 => (some t134)
set_option maxHeartbeats 8000000 in
set_option maxRecDepth 100000 in
theorem graftbedref12_Or.calls (A0 : Option Addr) (c0 : Nat) (l0 : List (S61)) (A1 : Option Addr) (c1 : Nat) (l1 : List (S61)) (r : List (S61)) (w : World) (hr0 : Kd.C k61 w A0 l0.length l0) (hc0 : l0.length ≤ c0) (hr1 : Kd.C k61 w A1 l1.length l1) (hc1 : l1.length ≤ c1) (h : graftbedref12_Or.f l0 l1 = some r) :
    Calls Tryd.prog 24 #[.slice A0 l0.length c0, .slice A1 l1.length c1] w fun e w' => ∃ v0_ : Value, e = .returned (v0_) ∧ Kd.R k61 61 w' w.heap.size (fun _ => True) v0_ r ∧ Below w.heap.size w w' := by
  have HR0 := Aside0.mk hr0
  have HC0 := Aside0.mk hc0
  clear hr0 hc0
  have HR1 := Aside0.mk hr1
  have HC1 := Aside0.mk hc1
  clear hr1 hc1
  have HB := Aside0.mk (Below.refl w.heap.size w)
  have H : ((graftbedref12_both.f 3 l0 l1).bind fun t134 => (some t134)) = some r := h
  clear h
  replace H := Option.bind_eq_some_iff.mp H
  obtain ⟨t134, A30, H⟩ := H
  replace H : (some t134) = some r := H
  have A3 := Aside0.mk A30
  clear A30
  obtain rfl := Option.some.inj H
  go_enter Tryd.func24, Tryd.ntmps24
  go_wp2_with (first | ((with_reducible refine gate_callee (f := 45) rfl ?_); refine goesL_ (some 7) rfl rfl Tryd.func45 (by kernel_rfl) rfl #[.int .i64 3, .slice A0 l0.length c0, .slice A1 l1.length c1] rfl (by (try simp only [List.map_toArray, List.map_cons, List.map_nil]); first | done | rfl | (simp only [List.length_drop, List.length_take]; rfl) | (simp only [ByteArray.size_extract, Nat.min_self]; done) | (simp only [ByteArray.size_append, StrMore.size_lit, List.length_cons, List.length_nil, Nat.zero_add, Nat.reduceAdd] <;> rfl)) ?_; (with_reducible refine (graftbedref12_both.calls 3 _ _ l0 _ _ l1 t134 _ ?side1 ?side2 ?side3 ?side4 A3.out).mono ?_); (case side1 => repeat (first | exact HR0.out | (with_reducible refine Kd.C_alloc ?_ _) | (with_reducible refine Kd.C_drewN ?_ _) | (with_reducible refine Kd.C_drew ?_))); (case side2 => exact HC0.out); (case side3 => repeat (first | exact HR1.out | (with_reducible refine Kd.C_alloc ?_ _) | (with_reducible refine Kd.C_drewN ?_ _) | (with_reducible refine Kd.C_drew ?_))); (case side4 => exact HC1.out); rintro e w4 ⟨v135, rfl, ho0, hb⟩; refine ⟨_, rfl, ?_⟩; have n0_ := Aside0.mk (Kd.R_lower ho0 (below_size (by repeat (first | (with_reducible first | exact HB.out | apply below_alloc | apply pw_below_drewN | apply below_drew1) | exact HB.out)))); have n1_ := Aside0.mk (below_step (by repeat (first | (with_reducible first | exact HB.out | apply below_alloc | apply pw_below_drewN | apply below_drew1) | exact HB.out)) hb); clear HB; have HO136 := n0_; have HB := n1_; clear n0_ n1_; (try clear hb); (try clear hb2); (try clear hk); (try clear hi); (try clear ho0)))
  go_ret
  exact ⟨_, by first | rfl | (simp [errW_none, errW_some] <;> rfl) | (simp [*, errW_none, errW_some] <;> rfl), by (with_reducible repeat (first | apply Kd.R_alloc | apply Kd.R_drewN | apply Kd.R_drew)); exact HO136.out, by repeat (first | (with_reducible first | exact HB.out | apply below_alloc | apply pw_below_drewN | apply below_drew1) | exact HB.out)⟩

end Go.Proofs.YtjndccjpjknbkaaDoor.PPl

-- by hprint.py (wip/): the kit's print over contracts proved by hand; a text of this session
namespace Go.Proofs.YtjndccjpjknbkaaDoor.PPl
open Go.RowKit Go.Proofs.YtjndccjpjknbkaaDoorW.PrintWords Go.Proofs.YtjndccjpjknbkaaDoorW.PrintLast Go.Proofs.YtjndccjpjknbkaaDoorW.PrintMore
attribute [local go_sem] max2_int min2_int max_two min_two max_three min_three max_four min_four   -- for this text's walks alone
set_option linter.unusedVariables false
set_option linter.unusedSimpArgs false

/-! ### graftbedref12_Not: function 25 -/
def graftbedref12_Not.f (l0 : List (S61)) : Option ((List (S61))) := (some (([] : List (S61)) : List (S61))).bind fun y137 => (if y137.length + l0.length < 3518437208883 then ((some (y137 ++ l0 : List (S61))).bind fun y140 => (if y140.length < 3518437208883 then (some (y140 ++ [(⟨1, (⟨#[]⟩ : ByteArray), wrap64 ((l0.length : Int) - 1), 0⟩ : S61)])) else (none))) else (none))
set_option maxHeartbeats 8000000 in
set_option maxRecDepth 100000 in
theorem graftbedref12_Not.calls (A0 : Option Addr) (c0 : Nat) (l0 : List (S61)) (r : List (S61)) (w : World) (hr0 : Kd.C k61 w A0 l0.length l0) (hc0 : l0.length ≤ c0) (h : graftbedref12_Not.f l0 = some r) :
    Calls Tryd.prog 25 #[.slice A0 l0.length c0] w fun e w' => ∃ v0_ : Value, e = .returned (v0_) ∧ Kd.R k61 61 w' w.heap.size (fun _ => True) v0_ r ∧ Below w.heap.size w w' := by
  have hu61 := Tryd.underlying61
  have HR0 := Aside0.mk hr0
  have HC0 := Aside0.mk hc0
  clear hr0 hc0
  have HB := Aside0.mk (Below.refl w.heap.size w)
  have H : ((some (([] : List (S61)) : List (S61))).bind fun y137 => (if y137.length + l0.length < 3518437208883 then ((some (y137 ++ l0 : List (S61))).bind fun y140 => (if y140.length < 3518437208883 then (some (y140 ++ [(⟨1, (⟨#[]⟩ : ByteArray), wrap64 ((l0.length : Int) - 1), 0⟩ : S61)])) else (none))) else (none))) = some r := h
  clear h
  obtain ⟨y137, hy137⟩ : ∃ y_ : List (S61), y_ = (([] : List (S61))) := ⟨_, rfl⟩
  replace H : (if y137.length + l0.length < 3518437208883 then ((some (y137 ++ l0 : List (S61))).bind fun y140 => (if y140.length < 3518437208883 then (some (y140 ++ [(⟨1, (⟨#[]⟩ : ByteArray), wrap64 ((l0.length : Int) - 1), 0⟩ : S61)])) else (none))) else (none)) = some r := by first | (rw [hy137]; with_reducible exact H) | (have H2_ := (Option.bind_some _ _).symm.trans H; rw [hy137]; with_reducible exact H2_) | (have H2_ := (Option.bind_some _ _).symm.trans H; with_reducible exact H2_) | with_reducible exact H | (rw [hy137]; exact H) | exact H
  have Ny137 := Aside0.mk hy137
  clear hy137
  by_cases c2 : y137.length + l0.length < 3518437208883
  · rw [if_pos c2] at H
    have LMc2 := Aside0.mk c2
    clear c2
    obtain ⟨y140, hy140⟩ : ∃ y_ : List (S61), y_ = (y137 ++ l0) := ⟨_, rfl⟩
    replace H : (if y140.length < 3518437208883 then (some (y140 ++ [(⟨1, (⟨#[]⟩ : ByteArray), wrap64 ((l0.length : Int) - 1), 0⟩ : S61)])) else (none)) = some r := by first | (rw [hy140]; with_reducible exact H) | (have H2_ := (Option.bind_some _ _).symm.trans H; rw [hy140]; with_reducible exact H2_) | (have H2_ := (Option.bind_some _ _).symm.trans H; with_reducible exact H2_) | with_reducible exact H | (rw [hy140]; exact H) | exact H
    have Ny140 := Aside0.mk hy140
    clear hy140
    by_cases c3 : y140.length < 3518437208883
    · rw [if_pos c3] at H
      have LMc3 := Aside0.mk c3
      clear c3
      obtain ⟨y143, hy143⟩ : ∃ y_ : List (S61), y_ = (y140 ++ [(⟨1, (⟨#[]⟩ : ByteArray), wrap64 ((l0.length : Int) - 1), 0⟩ : S61)]) := ⟨_, rfl⟩
      replace H : (some y143) = some r := by first | (rw [hy143]; with_reducible exact H) | (have H2_ := (Option.bind_some _ _).symm.trans H; rw [hy143]; with_reducible exact H2_) | (have H2_ := (Option.bind_some _ _).symm.trans H; with_reducible exact H2_) | with_reducible exact H | (rw [hy143]; exact H) | exact H
      have Ny143 := Aside0.mk hy143
      clear hy143
      obtain rfl := Option.some.inj H
      go_enter Tryd.func25, Tryd.ntmps25
      go_wp2_with (first | ((with_reducible refine gate_dst (N := 4) rfl ?_); refine Kd.R_lit k61 _ 61 ?hg (N := 4) ?hd (xs := ([] : List (S61))) (inner := []) (ok := fun _ => True) (okp := fun _ => True) ?hr ?hp (fun _ hk => hk) trivial (Below.refl _ _) (Nat.le_refl _) (by simp) ?_; (case hd => rfl); (case hg => rfl); (case hr => first | (go_simp; done) | (go_simp; rfl)); (case hp => exact (Reps.none _ _)); intro v138 w4 ho5 hb hg_ hnew_; clear hg_ hnew_; (first | rw [← Ny137.out] at ho5 | (simp only [Int.reduceToNat] at ho5; rw [← Ny137.out] at ho5)); have n0_ := Aside0.mk (Kd.R_lower ho5 (below_size (by repeat (first | (with_reducible first | exact HB.out | apply below_alloc | apply pw_below_drewN | apply below_drew1) | exact HB.out)))); have n1_ := Aside0.mk (below_step (by repeat (first | (with_reducible first | exact HB.out | apply below_alloc | apply pw_below_drewN | apply below_drew1) | exact HB.out)) hb); clear HB; have HO139 := n0_; have HB := n1_; clear n0_ n1_; clear hb ho5) | ((with_reducible refine gate_builtin (b := .append) (xs := #[.tmp 5, .tmp 6]) rfl ?_); at_builtin; refine Kd.R_append_rows k61 (w0 := w) w.heap.size rfl (.tmp 5) (.tmp 6) 30 61 (.agg #[(.int .i64 0), (.string ⟨#[]⟩), (.int .i64 0), (.int .i64 0)]) 40 rfl Tryd.underlying30 info61 rfl (by decide) (by omega) v138 y137 l0 _ _ _ (fun _ => True) (fun _ => False) rfl rfl ?aO ?aR (fun _ _ h => h) (fun _ h => h.elim) ?aF ?aB ?aS ?aL ?_; (case aR => repeat (first | exact (Kd.C_below HR0.out HB.out) | (with_reducible refine Kd.C_alloc ?_ _) | (with_reducible refine Kd.C_drewN ?_ _) | (with_reducible refine Kd.C_drew ?_))); (case aB => exact (by repeat (first | (with_reducible first | exact HB.out | apply below_alloc | apply pw_below_drewN | apply below_drew1) | exact HB.out))); (case aF => exact (fun _ _ => trivial)); (case aO => exact (by (with_reducible repeat (first | apply Kd.R_alloc | apply Kd.R_drewN | apply Kd.R_drew)); exact HO139.out)); (case aS => exact (below_size (by repeat (first | (with_reducible first | exact HB.out | apply below_alloc | apply pw_below_drewN | apply below_drew1) | exact HB.out)))); (case aL => have := LMc2.out; omega); intro v141 w6 ho hb hg hat; rw [← Ny140.out] at ho; have n0_ := Aside0.mk (hb); have n1_ := Aside0.mk (ho); clear HB; clear HO139; have HB := n0_; have HO142 := n1_; clear n0_ n1_; clear ho hb hg hat) | ((with_reducible refine gate_builtin (b := .append) (xs := #[.tmp 8, .tmp 13]) rfl ?_); at_builtin; refine Kd.R_append k61 (w0 := w) w.heap.size rfl (.tmp 8) (.tmp 13) 30 61 (.agg #[(.int .i64 0), (.string ⟨#[]⟩), (.int .i64 0), (.int .i64 0)]) 40 rfl Tryd.underlying30 info61 rfl (by decide) (by omega) v141 y140 (⟨1, (⟨#[]⟩ : ByteArray), wrap64 ((l0.length : Int) - 1), 0⟩ : S61) [.int .i64 1, .string (⟨#[]⟩ : ByteArray), .int .i64 (wrap64 ((l0.length : Int) - 1)), .int .i64 0] (fun _ => True) (fun _ => False) rfl rfl ?aP (fun _ hk => hk.elim) ?aF ?aO ?aB ?aS ?aL ?_; (case aP => exact k61_mkM _ _ _ (⟨1, (⟨#[]⟩ : ByteArray), wrap64 ((l0.length : Int) - 1), 0⟩ : S61)); (case aB => exact (by repeat (first | (with_reducible first | exact HB.out | apply below_alloc | apply pw_below_drewN | apply below_drew1) | exact HB.out))); (case aF => exact (fun _ _ => trivial)); (case aO => exact (by (with_reducible repeat (first | apply Kd.R_alloc | apply Kd.R_drewN | apply Kd.R_drew)); exact HO142.out)); (case aS => exact (below_size (by repeat (first | (with_reducible first | exact HB.out | apply below_alloc | apply pw_below_drewN | apply below_drew1) | exact HB.out)))); (case aL => have := LMc3.out; omega); intro v144 w7 ho hb hg hat; rw [← Ny143.out] at ho; have n0_ := Aside0.mk (hb); have n1_ := Aside0.mk (ho); clear HB; clear HO142; have HB := n0_; have HO145 := n1_; clear n0_ n1_; clear ho hb hg hat))
      go_ret
      exact ⟨_, by first | rfl | (simp [errW_none, errW_some] <;> rfl) | (simp [*, errW_none, errW_some] <;> rfl), by (with_reducible repeat (first | apply Kd.R_alloc | apply Kd.R_drewN | apply Kd.R_drew)); exact HO145.out, by repeat (first | (with_reducible first | exact HB.out | apply below_alloc | apply pw_below_drewN | apply below_drew1) | exact HB.out)⟩
    · rw [if_neg c3] at H
      exact absurd H (by simp)
  · rw [if_neg c2] at H
    exact absurd H (by simp)

end Go.Proofs.YtjndccjpjknbkaaDoor.PPl

-- by hprint.py (wip/): the kit's print over contracts proved by hand; a text of this session
namespace Go.Proofs.YtjndccjpjknbkaaDoor.PPl
open Go.RowKit Go.Proofs.YtjndccjpjknbkaaDoorW.PrintWords Go.Proofs.YtjndccjpjknbkaaDoorW.PrintLast Go.Proofs.YtjndccjpjknbkaaDoorW.PrintMore
attribute [local go_sem] max2_int min2_int max_two min_two max_three min_three max_four min_four   -- for this text's walks alone
set_option linter.unusedVariables false
set_option linter.unusedSimpArgs false

/-! ### graftbedref13_split: function 52 -/
mutual
def graftbedref13_split.l0 : Nat → ByteArray → Int → Int → Bool → List ByteArray → Int → Int → Option (List ByteArray)
  | 0, _, _, _, _, _, _, _ => none
  | k + 1, x0, x1, x2, x3, x9, x10, x11 => if x11 ≤ (x0.size : Int) then (if x11 = (x0.size : Int) then (graftbedref13_split.j1 k x0 x1 x2 x3 x9 x10 x11 true) else (if 0 ≤ x11 then (if x11 < (x0.size : Int) then (if (bt x0 x11) = x1 then (graftbedref13_split.j1 k x0 x1 x2 x3 x9 x10 x11 true) else (graftbedref13_split.j1 k x0 x1 x2 x3 x9 x10 x11 ((bt x0 x11) == x2))) else (none)) else (none))) else (some x9)
def graftbedref13_split.j1 : Nat → ByteArray → Int → Int → Bool → List ByteArray → Int → Int → Bool → Option (List ByteArray)
  | 0, _, _, _, _, _, _, _, _ => none
  | k + 1, x0, x1, x2, x3, x9, x10, x11, x36 => if x36 = true then (if x11 > x10 then (if 0 ≤ x10 then (if x10 ≤ x11 then (if x11 ≤ (x0.size : Int) then (if x9.length < 8796093022208 then (graftbedref13_split.l0 k x0 x1 x2 x3 (x9 ++ [x0.extract (x10 : Int).toNat (x11 : Int).toNat]) (wrap64 (x11 + 1)) (wrap64 (x11 + 1))) else (none)) else (none)) else (none)) else (none)) else (if x3 = true then (if 0 ≤ x10 then (if x10 ≤ x11 then (if x11 ≤ (x0.size : Int) then (if x9.length < 8796093022208 then (graftbedref13_split.l0 k x0 x1 x2 x3 (x9 ++ [x0.extract (x10 : Int).toNat (x11 : Int).toNat]) (wrap64 (x11 + 1)) (wrap64 (x11 + 1))) else (none)) else (none)) else (none)) else (none)) else (graftbedref13_split.l0 k x0 x1 x2 x3 x9 (wrap64 (x11 + 1)) (wrap64 (x11 + 1))))) else (graftbedref13_split.l0 k x0 x1 x2 x3 x9 x10 (wrap64 (x11 + 1)))
end
def graftbedref13_split.f (k : Nat) (a0 : ByteArray) (a1 : Int) (a2 : Int) (a3 : Bool) : Option (List ByteArray) := graftbedref13_split.l0 k a0 a1 a2 a3 (([] : List ByteArray)) 0 0
theorem graftbedref13_split.mono_l : ∀ k, (∀ y0 y1 y2 y3 y4 y5 y6, LeO (graftbedref13_split.l0 k y0 y1 y2 y3 y4 y5 y6) (graftbedref13_split.l0 (k + 1) y0 y1 y2 y3 y4 y5 y6)) ∧ (∀ y0 y1 y2 y3 y4 y5 y6 y7, LeO (graftbedref13_split.j1 k y0 y1 y2 y3 y4 y5 y6 y7) (graftbedref13_split.j1 (k + 1) y0 y1 y2 y3 y4 y5 y6 y7))
  | 0 => ⟨fun _ _ _ _ _ _ _ r h => by simp [graftbedref13_split.l0] at h, fun _ _ _ _ _ _ _ _ r h => by simp [graftbedref13_split.j1] at h⟩
  | k + 1 => by
    obtain ⟨ih0, ih1⟩ := graftbedref13_split.mono_l k
    refine ⟨?_, ?_⟩
    · intro y0 y1 y2 y3 y4 y5 y6
      unfold graftbedref13_split.l0
      repeat' first
      | (with_reducible exact ih0 _ _ _ _ _ _ _)
      | (with_reducible exact ih1 _ _ _ _ _ _ _ _)
      | (with_reducible exact LeO.refl _)
      | (with_reducible exact LeO.none _)
      | (with_reducible refine LeO.ite ?_ ?_)
      | (with_reducible refine LeO.bind ?_ (fun _ => ?_))
      | exact ih0 _ _ _ _ _ _ _
      | exact ih1 _ _ _ _ _ _ _ _
      | exact LeO.none _
      | refine LeO.ite ?_ ?_
      | refine LeO.bind ?_ (fun _ => ?_)
    · intro y0 y1 y2 y3 y4 y5 y6 y7
      unfold graftbedref13_split.j1
      repeat' first
      | (with_reducible exact ih0 _ _ _ _ _ _ _)
      | (with_reducible exact ih1 _ _ _ _ _ _ _ _)
      | (with_reducible exact LeO.refl _)
      | (with_reducible exact LeO.none _)
      | (with_reducible refine LeO.ite ?_ ?_)
      | (with_reducible refine LeO.bind ?_ (fun _ => ?_))
      | exact ih0 _ _ _ _ _ _ _
      | exact ih1 _ _ _ _ _ _ _ _
      | exact LeO.none _
      | refine LeO.ite ?_ ?_
      | refine LeO.bind ?_ (fun _ => ?_)
theorem graftbedref13_split.mono : ∀ a0 a1 a2 a3 k, LeO (graftbedref13_split.f k a0 a1 a2 a3) (graftbedref13_split.f (k + 1) a0 a1 a2 a3) := by
  intro a0 a1 a2 a3 k
  obtain ⟨ih0, ih1⟩ := graftbedref13_split.mono_l k
  unfold graftbedref13_split.f
  repeat' first
      | (with_reducible exact ih0 _ _ _ _ _ _ _)
      | (with_reducible exact ih1 _ _ _ _ _ _ _ _)
      | (with_reducible exact LeO.refl _)
      | (with_reducible exact LeO.none _)
      | (with_reducible refine LeO.ite ?_ ?_)
      | (with_reducible refine LeO.bind ?_ (fun _ => ?_))
      | exact ih0 _ _ _ _ _ _ _
      | exact ih1 _ _ _ _ _ _ _ _
      | exact LeO.none _
      | refine LeO.ite ?_ ?_
      | refine LeO.bind ?_ (fun _ => ?_)
set_option maxHeartbeats 8000000 in
set_option maxRecDepth 100000 in
theorem graftbedref13_split.calls (k : Nat) (a0 : ByteArray) (a1 : Int) (a2 : Int) (a3 : Bool) (r : List ByteArray) (w : World) (h : graftbedref13_split.f k a0 a1 a2 a3 = some r) :
    Calls Tryd.prog 52 #[.string a0, .int .u8 a1, .int .u8 a2, .bool a3] w fun e w' => ∃ v0_ : Value, e = .returned (v0_) ∧ Kd.R Kd.string 9 w' w.heap.size (fun _ => True) v0_ r ∧ Below w.heap.size w w' := by
  have HB := Aside0.mk (Below.refl w.heap.size w)
  have H : (graftbedref13_split.l0 k a0 a1 a2 a3 (([] : List ByteArray)) 0 0) = some r := h
  clear h
  obtain ⟨y146, hy146⟩ : ∃ y_ : List ByteArray, y_ = (([] : List ByteArray)) := ⟨_, rfl⟩
  replace H : (graftbedref13_split.l0 k a0 a1 a2 a3 y146 0 0) = some r := by first | (rw [hy146]; with_reducible exact H) | (have H2_ := (Option.bind_some _ _).symm.trans H; rw [hy146]; with_reducible exact H2_) | (have H2_ := (Option.bind_some _ _).symm.trans H; with_reducible exact H2_) | with_reducible exact H | (rw [hy146]; exact H) | exact H
  have Ny146 := Aside0.mk hy146
  clear hy146
  have H' := Aside0.mk H
  clear H
  go_enter Tryd.func52, Tryd.ntmps52
  go_wp2_with (first | ((with_reducible refine gate_dst (N := 12) rfl ?_); refine Kd.R_lit Kd.string _ 9 ?hg (N := 12) ?hd (xs := ([] : List ByteArray)) (inner := []) (ok := fun _ => True) (okp := fun _ => True) ?hr ?hp (fun _ hk => hk) trivial (Below.refl _ _) (Nat.le_refl _) (by simp) ?_; (case hd => rfl); (case hg => rfl); (case hr => first | (go_simp; done) | (go_simp; rfl)); (case hp => exact (Reps.none _ _)); intro v147 w5 ho6 hb hg_ hnew_; clear hg_ hnew_; (first | rw [← Ny146.out] at ho6 | (simp only [Int.reduceToNat] at ho6; rw [← Ny146.out] at ho6)); have n0_ := Aside0.mk (Kd.R_lower ho6 (below_size (by repeat (first | (with_reducible first | exact HB.out | apply below_alloc | apply pw_below_drewN | apply below_drew1) | exact HB.out)))); have n1_ := Aside0.mk (below_step (by repeat (first | (with_reducible first | exact HB.out | apply below_alloc | apply pw_below_drewN | apply below_drew1) | exact HB.out)) hb); clear HB; have HO148 := n0_; have HB := n1_; clear n0_ n1_; clear hb ho6))
  go_loopg [9, 10, 11] k (fun kq v9 v10 v11 w' => ∃ (x9_1 : List ByteArray) (x10_1 : Int) (x11_1 : Int), v10 = .int .i64 x10_1 ∧ v11 = .int .i64 x11_1 ∧ Aside0 (graftbedref13_split.l0 kq a0 a1 a2 a3 x9_1 x10_1 x11_1 = some r) ∧ Aside0 (kq ≤ k) ∧ Aside0 (Kd.R Kd.string 9 w' w.heap.size (fun _ => True) v9 x9_1) ∧ Aside0 (Below w.heap.size w w'))
  case atStart => exact ⟨(y146), (0), (0), (by first | rfl | (simp; done) | (simp [*]; done)), (by first | rfl | (simp; done) | (simp [*]; done)), H', ⟨Nat.le_refl _⟩, ⟨by (with_reducible repeat (first | apply Kd.R_alloc | apply Kd.R_drewN | apply Kd.R_drew)); first | exact HO148.out | (have e_ := HO148.out; simp only [StrOrd.own_any] at e_ ⊢; exact e_)⟩, ⟨by repeat (first | (with_reducible first | exact HB.out | apply below_alloc | apply pw_below_drewN | apply below_drew1) | exact HB.out)⟩⟩
  case round =>
    clear H'
    try clear p2
    try clear c5
    obtain ⟨x9_1, x10_1, x11_1, rfl, rfl, HA, HK1, HO_9, HB⟩ := hrel
    cases gk with
    | zero => exact absurd HA.out (by simp [graftbedref13_split.l0])
    | succ k1 =>
      have H := HA.out
      clear HA
      simp only [graftbedref13_split.l0] at H
      by_cases c7 : x11_1 ≤ (a0.size : Int)
      · rw [if_pos c7] at H
        have c7b0 : decide (x11_1 ≤ (a0.size : Int)) = true := decide_eq_true c7
        clear c7
        have HC8 := Aside0.mk H
        clear H
        go_upto_region 6 with (fail)
        go_cut [36] (fun v36 wc => ∃ (kq : Nat) (x36_7 : Bool), v36 = .bool x36_7 ∧ Aside0 (graftbedref13_split.j1 kq a0 a1 a2 a3 x9_1 x10_1 x11_1 x36_7 = some r) ∧ Aside0 (kq ≤ k1) ∧ Aside0 (Kd.R Kd.string 9 wc w.heap.size (fun _ => True) u9 x9_1) ∧ Aside0 (Below w.heap.size w wc))
        case first =>
          have H := HC8.out
          clear HC8
          by_cases c9 : x11_1 = (a0.size : Int)
          · rw [if_pos c9] at H
            have c9b0 : (x11_1 == (a0.size : Int)) = true := beq_iff_eq.mpr c9
            have c9b1 : (x11_1 != (a0.size : Int)) = false := bne_eq_false_iff_eq.mpr c9
            clear c9
            (first | rw [c9b0] | (simp only [i64_w, i32_w]; rw [c9b0]) | skip)
            have H' := Aside0.mk H
            clear H
            go_wp2
            go_meet
            case rel => exact ⟨_, (true), (by first | rfl | (simp; done) | (simp [*]; done)), H', ⟨by have := HK1.out; first | omega | exact Nat.le_refl _⟩, ⟨by (with_reducible repeat (first | apply Kd.R_alloc | apply Kd.R_drewN | apply Kd.R_drew)); first | exact HO_9.out | (have e_ := HO_9.out; simp only [StrOrd.own_any] at e_ ⊢; exact e_)⟩, ⟨by repeat (first | (with_reducible first | exact HB.out | apply below_alloc | apply pw_below_drewN | apply below_drew1) | exact HB.out)⟩⟩
          · rw [if_neg c9] at H
            have c9b0 : (x11_1 == (a0.size : Int)) = false := beq_eq_false_iff_ne.mpr c9
            have c9b1 : (x11_1 != (a0.size : Int)) = true := bne_iff_ne.mpr c9
            (first | rw [c9b0] | (simp only [i64_w, i32_w]; rw [c9b0]) | skip)
            by_cases c10 : 0 ≤ x11_1
            · rw [if_pos c10] at H
              have c10b0 : decide (0 ≤ x11_1) = true := decide_eq_true c10
              clear c10
              by_cases c11 : x11_1 < (a0.size : Int)
              · rw [if_pos c11] at H
                have c11b0 : decide (x11_1 < (a0.size : Int)) = true := decide_eq_true c11
                clear c11
                by_cases c13 : (bt a0 x11_1) = a1
                · rw [if_pos c13] at H
                  have c13b0 : ((bt a0 x11_1) == a1) = true := beq_iff_eq.mpr c13
                  have c13b1 : ((bt a0 x11_1) != a1) = false := bne_eq_false_iff_eq.mpr c13
                  clear c13
                  have H' := Aside0.mk H
                  clear H
                  have p12 : 0 ≤ (x11_1 : Int) := of_decide_eq_true (by first | (with_reducible assumption) | assumption)
                  have q12 : x11_1 < (a0.size : Int) := of_decide_eq_true (by first | (with_reducible assumption) | assumption)
                  have hx12 := bt_at a0 x11_1
                  replace p12 := eq_true p12
                  replace q12 := eq_true q12
                  go_wp2
                  go_meet
                  case rel => exact ⟨_, (true), (by first | rfl | (simp; done) | (simp [*]; done)), H', ⟨by have := HK1.out; first | omega | exact Nat.le_refl _⟩, ⟨by (with_reducible repeat (first | apply Kd.R_alloc | apply Kd.R_drewN | apply Kd.R_drew)); first | exact HO_9.out | (have e_ := HO_9.out; simp only [StrOrd.own_any] at e_ ⊢; exact e_)⟩, ⟨by repeat (first | (with_reducible first | exact HB.out | apply below_alloc | apply pw_below_drewN | apply below_drew1) | exact HB.out)⟩⟩
                · rw [if_neg c13] at H
                  have c13b0 : ((bt a0 x11_1) == a1) = false := beq_eq_false_iff_ne.mpr c13
                  have c13b1 : ((bt a0 x11_1) != a1) = true := bne_iff_ne.mpr c13
                  have H' := Aside0.mk H
                  clear H
                  have p12 : 0 ≤ (x11_1 : Int) := of_decide_eq_true (by first | (with_reducible assumption) | assumption)
                  have q12 : x11_1 < (a0.size : Int) := of_decide_eq_true (by first | (with_reducible assumption) | assumption)
                  have hx12 := bt_at a0 x11_1
                  replace p12 := eq_true p12
                  replace q12 := eq_true q12
                  have p14 : 0 ≤ (x11_1 : Int) := of_decide_eq_true (by first | (with_reducible assumption) | assumption)
                  have q14 : x11_1 < (a0.size : Int) := of_decide_eq_true (by first | (with_reducible assumption) | assumption)
                  have hx14 := bt_at a0 x11_1
                  replace p14 := eq_true p14
                  replace q14 := eq_true q14
                  go_wp2
                  go_meet
                  case rel => exact ⟨_, (((bt a0 x11_1) == a2)), (by first | rfl | (simp; done) | (simp [*]; done)), H', ⟨by have := HK1.out; first | omega | exact Nat.le_refl _⟩, ⟨by (with_reducible repeat (first | apply Kd.R_alloc | apply Kd.R_drewN | apply Kd.R_drew)); first | exact HO_9.out | (have e_ := HO_9.out; simp only [StrOrd.own_any] at e_ ⊢; exact e_)⟩, ⟨by repeat (first | (with_reducible first | exact HB.out | apply below_alloc | apply pw_below_drewN | apply below_drew1) | exact HB.out)⟩⟩
              · rw [if_neg c11] at H
                exact absurd H (by simp)
            · rw [if_neg c10] at H
              exact absurd H (by simp)
        case rest =>
          clear HC8
          try clear c1
          try clear p1
          try clear q1
          try clear hx1
          try clear p2
          try clear c5
          try clear c7
          try clear c7b0
          try clear c9
          try clear c9b0
          try clear c9b1
          try clear c10
          try clear c10b0
          try clear c11
          try clear c11b0
          try clear p12
          try clear q12
          try clear hx12
          try clear c13
          try clear c13b0
          try clear c13b1
          try clear p14
          try clear q14
          try clear hx14
          try clear p12
          try clear p14
          try clear p2
          try clear q12
          try clear q14
          obtain ⟨kq, x36_7, rfl, HA, HJ7, HO_9, HB⟩ := hcut
          cases kq with
          | zero => exact absurd HA.out (by simp [graftbedref13_split.j1])
          | succ kj7 =>
            have H := HA.out
            clear HA
            simp only [graftbedref13_split.j1] at H
            by_cases c15 : x36_7 = true
            · subst c15
              have H1 : (if x11_1 > x10_1 then (if 0 ≤ x10_1 then (if x10_1 ≤ x11_1 then (if x11_1 ≤ (a0.size : Int) then (if x9_1.length < 8796093022208 then (graftbedref13_split.l0 kj7 a0 a1 a2 a3 (x9_1 ++ [a0.extract (x10_1 : Int).toNat (x11_1 : Int).toNat]) (wrap64 (x11_1 + 1)) (wrap64 (x11_1 + 1))) else (none)) else (none)) else (none)) else (none)) else (if a3 = true then (if 0 ≤ x10_1 then (if x10_1 ≤ x11_1 then (if x11_1 ≤ (a0.size : Int) then (if x9_1.length < 8796093022208 then (graftbedref13_split.l0 kj7 a0 a1 a2 a3 (x9_1 ++ [a0.extract (x10_1 : Int).toNat (x11_1 : Int).toNat]) (wrap64 (x11_1 + 1)) (wrap64 (x11_1 + 1))) else (none)) else (none)) else (none)) else (none)) else (graftbedref13_split.l0 kj7 a0 a1 a2 a3 x9_1 (wrap64 (x11_1 + 1)) (wrap64 (x11_1 + 1))))) = some r := by rw [if_pos rfl] at H; exact H
              clear H
              have H := H1
              clear H1
              by_cases c16 : x11_1 > x10_1
              · rw [if_pos c16] at H
                have c16b0 : decide (x10_1 < x11_1) = true := decide_eq_true c16
                clear c16
                by_cases c17 : 0 ≤ x10_1
                · rw [if_pos c17] at H
                  have c17b0 := eq_true c17
                  have c17b1 : decide (0 ≤ x10_1) = true := decide_eq_true c17
                  clear c17
                  by_cases c18 : x10_1 ≤ x11_1
                  · rw [if_pos c18] at H
                    have c18b0 := eq_true c18
                    have c18b1 : decide (x10_1 ≤ x11_1) = true := decide_eq_true c18
                    clear c18
                    by_cases c19 : x11_1 ≤ (a0.size : Int)
                    · rw [if_pos c19] at H
                      have c19b0 := eq_true c19
                      have c19b1 : decide (x11_1 ≤ (a0.size : Int)) = true := decide_eq_true c19
                      clear c19
                      by_cases c20 : x9_1.length < 8796093022208
                      · rw [if_pos c20] at H
                        have LMc20 := Aside0.mk c20
                        clear c20
                        obtain ⟨y149, hy149⟩ : ∃ y_ : List ByteArray, y_ = (x9_1 ++ [a0.extract (x10_1 : Int).toNat (x11_1 : Int).toNat]) := ⟨_, rfl⟩
                        replace H : (graftbedref13_split.l0 kj7 a0 a1 a2 a3 y149 (wrap64 (x11_1 + 1)) (wrap64 (x11_1 + 1))) = some r := by first | (rw [hy149]; with_reducible exact H) | (have H2_ := (Option.bind_some _ _).symm.trans H; rw [hy149]; with_reducible exact H2_) | (have H2_ := (Option.bind_some _ _).symm.trans H; with_reducible exact H2_) | with_reducible exact H | (rw [hy149]; exact H) | exact H
                        have Ny149 := Aside0.mk hy149
                        clear hy149
                        have H' := Aside0.mk H
                        clear H
                        go_wp2_with (first | ((with_reducible refine gate_builtin (b := .append) (xs := #[.tmp 43, .tmp 48]) rfl ?_); at_builtin; refine Kd.R_append Kd.string (w0 := w) w.heap.size rfl (.tmp 43) (.tmp 48) 23 9 (.string ⟨#[]⟩) 16 rfl Tryd.underlying23 info9 rfl (by decide) (by omega) u9 x9_1 (a0.extract (x10_1 : Int).toNat (x11_1 : Int).toNat) [.string (a0.extract (x10_1 : Int).toNat (x11_1 : Int).toNat)] (fun _ => True) (fun _ => False) rfl rfl ?aP (fun _ hk => hk.elim) ?aF ?aO ?aB ?aS ?aL ?_; (case aP => exact rfl); (case aB => exact (by repeat (first | (with_reducible first | exact HB.out | apply below_alloc | apply pw_below_drewN | apply below_drew1) | exact HB.out))); (case aF => exact (fun _ _ => trivial)); (case aO => exact (by (with_reducible repeat (first | apply Kd.R_alloc | apply Kd.R_drewN | apply Kd.R_drew)); exact HO_9.out)); (case aS => exact (below_size (by repeat (first | (with_reducible first | exact HB.out | apply below_alloc | apply pw_below_drewN | apply below_drew1) | exact HB.out)))); (case aL => have := LMc20.out; omega); intro v150 w21 ho hb hg hat; rw [← Ny149.out] at ho; have n0_ := Aside0.mk (hb); have n1_ := Aside0.mk (ho); clear HB; clear HO_9; have HB := n0_; have HO151 := n1_; clear n0_ n1_; clear ho hb hg hat))
                        go_roundg kj7
                        case measure => have := HK1.out; have := HJ7.out; omega
                        case rel => exact ⟨(y149), (wrap64 (x11_1 + 1)), (wrap64 (x11_1 + 1)), (by first | rfl | (simp; done) | (simp [*]; done)), (by first | rfl | (simp; done) | (simp [*]; done)), H', ⟨by have := HK1.out; have := HJ7.out; omega⟩, ⟨by (with_reducible repeat (first | apply Kd.R_alloc | apply Kd.R_drewN | apply Kd.R_drew)); first | exact HO151.out | (have e_ := HO151.out; simp only [StrOrd.own_any] at e_ ⊢; exact e_)⟩, ⟨by repeat (first | (with_reducible first | exact HB.out | apply below_alloc | apply pw_below_drewN | apply below_drew1) | exact HB.out)⟩⟩
                      · rw [if_neg c20] at H
                        exact absurd H (by simp)
                    · rw [if_neg c19] at H
                      exact absurd H (by simp)
                  · rw [if_neg c18] at H
                    exact absurd H (by simp)
                · rw [if_neg c17] at H
                  exact absurd H (by simp)
              · rw [if_neg c16] at H
                have c16b0 : decide (x10_1 < x11_1) = false := decide_eq_false c16
                clear c16
                by_cases c22 : a3 = true
                · subst c22
                  have H1 : (if 0 ≤ x10_1 then (if x10_1 ≤ x11_1 then (if x11_1 ≤ (a0.size : Int) then (if x9_1.length < 8796093022208 then (graftbedref13_split.l0 kj7 a0 a1 a2 true (x9_1 ++ [a0.extract (x10_1 : Int).toNat (x11_1 : Int).toNat]) (wrap64 (x11_1 + 1)) (wrap64 (x11_1 + 1))) else (none)) else (none)) else (none)) else (none)) = some r := by rw [if_pos rfl] at H; exact H
                  clear H
                  have H := H1
                  clear H1
                  by_cases c23 : 0 ≤ x10_1
                  · rw [if_pos c23] at H
                    have c23b0 := eq_true c23
                    have c23b1 : decide (0 ≤ x10_1) = true := decide_eq_true c23
                    clear c23
                    by_cases c24 : x10_1 ≤ x11_1
                    · rw [if_pos c24] at H
                      have c24b0 := eq_true c24
                      have c24b1 : decide (x10_1 ≤ x11_1) = true := decide_eq_true c24
                      clear c24
                      by_cases c25 : x11_1 ≤ (a0.size : Int)
                      · rw [if_pos c25] at H
                        have c25b0 := eq_true c25
                        have c25b1 : decide (x11_1 ≤ (a0.size : Int)) = true := decide_eq_true c25
                        clear c25
                        by_cases c26 : x9_1.length < 8796093022208
                        · rw [if_pos c26] at H
                          have LMc26 := Aside0.mk c26
                          clear c26
                          obtain ⟨y152, hy152⟩ : ∃ y_ : List ByteArray, y_ = (x9_1 ++ [a0.extract (x10_1 : Int).toNat (x11_1 : Int).toNat]) := ⟨_, rfl⟩
                          replace H : (graftbedref13_split.l0 kj7 a0 a1 a2 true y152 (wrap64 (x11_1 + 1)) (wrap64 (x11_1 + 1))) = some r := by first | (rw [hy152]; with_reducible exact H) | (have H2_ := (Option.bind_some _ _).symm.trans H; rw [hy152]; with_reducible exact H2_) | (have H2_ := (Option.bind_some _ _).symm.trans H; with_reducible exact H2_) | with_reducible exact H | (rw [hy152]; exact H) | exact H
                          have Ny152 := Aside0.mk hy152
                          clear hy152
                          have H' := Aside0.mk H
                          clear H
                          go_wp2_with (first | ((with_reducible refine gate_builtin (b := .append) (xs := #[.tmp 43, .tmp 48]) rfl ?_); at_builtin; refine Kd.R_append Kd.string (w0 := w) w.heap.size rfl (.tmp 43) (.tmp 48) 23 9 (.string ⟨#[]⟩) 16 rfl Tryd.underlying23 info9 rfl (by decide) (by omega) u9 x9_1 (a0.extract (x10_1 : Int).toNat (x11_1 : Int).toNat) [.string (a0.extract (x10_1 : Int).toNat (x11_1 : Int).toNat)] (fun _ => True) (fun _ => False) rfl rfl ?aP (fun _ hk => hk.elim) ?aF ?aO ?aB ?aS ?aL ?_; (case aP => exact rfl); (case aB => exact (by repeat (first | (with_reducible first | exact HB.out | apply below_alloc | apply pw_below_drewN | apply below_drew1) | exact HB.out))); (case aF => exact (fun _ _ => trivial)); (case aO => exact (by (with_reducible repeat (first | apply Kd.R_alloc | apply Kd.R_drewN | apply Kd.R_drew)); exact HO_9.out)); (case aS => exact (below_size (by repeat (first | (with_reducible first | exact HB.out | apply below_alloc | apply pw_below_drewN | apply below_drew1) | exact HB.out)))); (case aL => have := LMc26.out; omega); intro v153 w27 ho hb hg hat; rw [← Ny152.out] at ho; have n0_ := Aside0.mk (hb); have n1_ := Aside0.mk (ho); clear HB; clear HO_9; have HB := n0_; have HO154 := n1_; clear n0_ n1_; clear ho hb hg hat))
                          go_roundg kj7
                          case measure => have := HK1.out; have := HJ7.out; omega
                          case rel => exact ⟨(y152), (wrap64 (x11_1 + 1)), (wrap64 (x11_1 + 1)), (by first | rfl | (simp; done) | (simp [*]; done)), (by first | rfl | (simp; done) | (simp [*]; done)), H', ⟨by have := HK1.out; have := HJ7.out; omega⟩, ⟨by (with_reducible repeat (first | apply Kd.R_alloc | apply Kd.R_drewN | apply Kd.R_drew)); first | exact HO154.out | (have e_ := HO154.out; simp only [StrOrd.own_any] at e_ ⊢; exact e_)⟩, ⟨by repeat (first | (with_reducible first | exact HB.out | apply below_alloc | apply pw_below_drewN | apply below_drew1) | exact HB.out)⟩⟩
                        · rw [if_neg c26] at H
                          exact absurd H (by simp)
                      · rw [if_neg c25] at H
                        exact absurd H (by simp)
                    · rw [if_neg c24] at H
                      exact absurd H (by simp)
                  · rw [if_neg c23] at H
                    exact absurd H (by simp)
                · replace c22 := Bool.eq_false_iff.mpr c22
                  subst c22
                  have H1 : (graftbedref13_split.l0 kj7 a0 a1 a2 false x9_1 (wrap64 (x11_1 + 1)) (wrap64 (x11_1 + 1))) = some r := by rw [if_neg (show ¬ (false = true) by decide)] at H; exact H
                  clear H
                  have H := H1
                  clear H1
                  have H' := Aside0.mk H
                  clear H
                  go_wp2
                  go_roundg kj7
                  case measure => have := HK1.out; have := HJ7.out; omega
                  case rel => exact ⟨(x9_1), (wrap64 (x11_1 + 1)), (wrap64 (x11_1 + 1)), (by first | rfl | (simp; done) | (simp [*]; done)), (by first | rfl | (simp; done) | (simp [*]; done)), H', ⟨by have := HK1.out; have := HJ7.out; omega⟩, ⟨by (with_reducible repeat (first | apply Kd.R_alloc | apply Kd.R_drewN | apply Kd.R_drew)); first | exact HO_9.out | (have e_ := HO_9.out; simp only [StrOrd.own_any] at e_ ⊢; exact e_)⟩, ⟨by repeat (first | (with_reducible first | exact HB.out | apply below_alloc | apply pw_below_drewN | apply below_drew1) | exact HB.out)⟩⟩
            · replace c15 := Bool.eq_false_iff.mpr c15
              subst c15
              have H1 : (graftbedref13_split.l0 kj7 a0 a1 a2 a3 x9_1 x10_1 (wrap64 (x11_1 + 1))) = some r := by rw [if_neg (show ¬ (false = true) by decide)] at H; exact H
              clear H
              have H := H1
              clear H1
              have H' := Aside0.mk H
              clear H
              go_wp2
              go_roundg kj7
              case measure => have := HK1.out; have := HJ7.out; omega
              case rel => exact ⟨(x9_1), (x10_1), (wrap64 (x11_1 + 1)), (by first | rfl | (simp; done) | (simp [*]; done)), (by first | rfl | (simp; done) | (simp [*]; done)), H', ⟨by have := HK1.out; have := HJ7.out; omega⟩, ⟨by (with_reducible repeat (first | apply Kd.R_alloc | apply Kd.R_drewN | apply Kd.R_drew)); first | exact HO_9.out | (have e_ := HO_9.out; simp only [StrOrd.own_any] at e_ ⊢; exact e_)⟩, ⟨by repeat (first | (with_reducible first | exact HB.out | apply below_alloc | apply pw_below_drewN | apply below_drew1) | exact HB.out)⟩⟩
      · rw [if_neg c7] at H
        have c7b0 : decide (x11_1 ≤ (a0.size : Int)) = false := decide_eq_false c7
        clear c7
        obtain rfl := Option.some.inj H
        go_wp2
        go_ret
        exact ⟨_, by first | rfl | (simp [errW_none, errW_some] <;> rfl) | (simp [*, errW_none, errW_some] <;> rfl), by (with_reducible repeat (first | apply Kd.R_alloc | apply Kd.R_drewN | apply Kd.R_drew)); exact HO_9.out, by repeat (first | (with_reducible first | exact HB.out | apply below_alloc | apply pw_below_drewN | apply below_drew1) | exact HB.out)⟩

end Go.Proofs.YtjndccjpjknbkaaDoor.PPl

-- by hprint.py (wip/): the kit's print over contracts proved by hand; a text of this session
namespace Go.Proofs.YtjndccjpjknbkaaDoor.PPl
open Go.RowKit Go.Proofs.YtjndccjpjknbkaaDoorW.PrintWords Go.Proofs.YtjndccjpjknbkaaDoorW.PrintLast Go.Proofs.YtjndccjpjknbkaaDoorW.PrintMore
attribute [local go_sem] max2_int min2_int max_two min_two max_three min_three max_four min_four   -- for this text's walks alone
set_option linter.unusedVariables false
set_option linter.unusedSimpArgs false

/-! ### graftbedref13_Line: function 30 -/
mutual
def graftbedref13_Line.l0 : Nat → List (S61) → List ByteArray → Int → Option ((List (S61)) × Int)
  | 0, _, _, _ => none
  | k + 1, x4, x5, x6 => if x6 < (x5.length : Int) then (if 0 ≤ x6 then ((graftbedref13_split.f k (rdOf ByteArray.empty x5 x6) 44 44 true).bind fun t166 => (graftbedref13_Line.l1 k x4 x5 x6 (([] : List (S61))) t166 0)) else (none)) else ((graftbedref12_Check.f k x4).bind fun t161 => (if t161 = 0 then (some (x4, 0)) else (some (([] : List (S61)), 120))))
def graftbedref13_Line.l1 : Nat → List (S61) → List ByteArray → Int → List (S61) → List ByteArray → Int → Option ((List (S61)) × Int)
  | 0, _, _, _, _, _, _ => none
  | k + 1, x4, x5, x6, x7, x8, x9 => if x9 < (x8.length : Int) then (if 0 ≤ x9 then (if ((rdOf ByteArray.empty x8 x9).size : Int) > 0 then (if 0 < ((rdOf ByteArray.empty x8 x9).size : Int) then (graftbedref13_Line.j2 k x4 x5 x6 x7 x8 x9 (rdOf ByteArray.empty x8 x9) ((bt (rdOf ByteArray.empty x8 x9) 0) == 33)) else (none)) else (graftbedref13_Line.j2 k x4 x5 x6 x7 x8 x9 (rdOf ByteArray.empty x8 x9) false)) else (none)) else (if x6 = 0 then (graftbedref13_Line.l0 k x7 x5 (wrap64 (x6 + 1))) else ((graftbedref12_Or.f x4 x7).bind fun t169 => (graftbedref13_Line.l0 k t169 x5 (wrap64 (x6 + 1)))))
def graftbedref13_Line.j2 : Nat → List (S61) → List ByteArray → Int → List (S61) → List ByteArray → Int → ByteArray → Bool → Option ((List (S61)) × Int)
  | 0, _, _, _, _, _, _, _, _ => none
  | k + 1, x4, x5, x6, x7, x8, x9, x10, x11 => if x11 = true then (if 1 ≤ (x10.size : Int) then (graftbedref13_Line.j3 k x4 x5 x6 x7 x8 x9 (x10.extract 1 x10.size) x11) else (none)) else (graftbedref13_Line.j3 k x4 x5 x6 x7 x8 x9 x10 x11)
def graftbedref13_Line.j3 : Nat → List (S61) → List ByteArray → Int → List (S61) → List ByteArray → Int → ByteArray → Bool → Option ((List (S61)) × Int)
  | 0, _, _, _, _, _, _, _, _ => none
  | k + 1, x4, x5, x6, x7, x8, x9, x10, x11 => (graftbedref12_Tag.f k x10).bind fun t173 => (if t173 = true then ((some (([(⟨0, x10, 0, 0⟩ : S61)] : List (S61)) : List (S61))).bind fun y174 => (if x11 = true then ((graftbedref12_Not.f y174).bind fun t177 => (if x9 = 0 then (graftbedref13_Line.l1 k x4 x5 x6 t177 x8 (wrap64 (x9 + 1))) else ((graftbedref12_And.f x7 t177).bind fun t180 => (graftbedref13_Line.l1 k x4 x5 x6 t180 x8 (wrap64 (x9 + 1)))))) else (if x9 = 0 then (graftbedref13_Line.l1 k x4 x5 x6 y174 x8 (wrap64 (x9 + 1))) else ((graftbedref12_And.f x7 y174).bind fun t183 => (graftbedref13_Line.l1 k x4 x5 x6 t183 x8 (wrap64 (x9 + 1))))))) else (some (([] : List (S61)), 120)))
end
def graftbedref13_Line.f (k : Nat) (a0 : ByteArray) : Option ((List (S61)) × Int) := (graftbedref13_split.f k a0 32 9 false).bind fun t158 => (graftbedref13_Line.l0 k (([] : List (S61))) t158 0)
theorem graftbedref13_Line.mono_l : ∀ k, (∀ y0 y1 y2, LeO (graftbedref13_Line.l0 k y0 y1 y2) (graftbedref13_Line.l0 (k + 1) y0 y1 y2)) ∧ (∀ y0 y1 y2 y3 y4 y5, LeO (graftbedref13_Line.l1 k y0 y1 y2 y3 y4 y5) (graftbedref13_Line.l1 (k + 1) y0 y1 y2 y3 y4 y5)) ∧ (∀ y0 y1 y2 y3 y4 y5 y6 y7, LeO (graftbedref13_Line.j2 k y0 y1 y2 y3 y4 y5 y6 y7) (graftbedref13_Line.j2 (k + 1) y0 y1 y2 y3 y4 y5 y6 y7)) ∧ (∀ y0 y1 y2 y3 y4 y5 y6 y7, LeO (graftbedref13_Line.j3 k y0 y1 y2 y3 y4 y5 y6 y7) (graftbedref13_Line.j3 (k + 1) y0 y1 y2 y3 y4 y5 y6 y7))
  | 0 => ⟨fun _ _ _ r h => by simp [graftbedref13_Line.l0] at h, fun _ _ _ _ _ _ r h => by simp [graftbedref13_Line.l1] at h, fun _ _ _ _ _ _ _ _ r h => by simp [graftbedref13_Line.j2] at h, fun _ _ _ _ _ _ _ _ r h => by simp [graftbedref13_Line.j3] at h⟩
  | k + 1 => by
    obtain ⟨ih0, ih1, ih2, ih3⟩ := graftbedref13_Line.mono_l k
    refine ⟨?_, ?_, ?_, ?_⟩
    · intro y0 y1 y2
      unfold graftbedref13_Line.l0
      repeat' first
      | (with_reducible exact ih0 _ _ _)
      | (with_reducible exact ih1 _ _ _ _ _ _)
      | (with_reducible exact ih2 _ _ _ _ _ _ _ _)
      | (with_reducible exact ih3 _ _ _ _ _ _ _ _)
      | (with_reducible exact graftbedref12_Check.mono _ _)
      | (with_reducible exact graftbedref12_Tag.mono _ _)
      | (with_reducible exact graftbedref13_split.mono _ _ _ _ _)
      | (with_reducible exact LeO.refl _)
      | (with_reducible exact LeO.none _)
      | (with_reducible refine LeO.ite ?_ ?_)
      | (with_reducible refine LeO.bind ?_ (fun _ => ?_))
      | exact ih0 _ _ _
      | exact ih1 _ _ _ _ _ _
      | exact ih2 _ _ _ _ _ _ _ _
      | exact ih3 _ _ _ _ _ _ _ _
      | exact graftbedref12_Check.mono _ _
      | exact graftbedref12_Tag.mono _ _
      | exact graftbedref13_split.mono _ _ _ _ _
      | exact LeO.none _
      | refine LeO.ite ?_ ?_
      | refine LeO.bind ?_ (fun _ => ?_)
    · intro y0 y1 y2 y3 y4 y5
      unfold graftbedref13_Line.l1
      repeat' first
      | (with_reducible exact ih0 _ _ _)
      | (with_reducible exact ih1 _ _ _ _ _ _)
      | (with_reducible exact ih2 _ _ _ _ _ _ _ _)
      | (with_reducible exact ih3 _ _ _ _ _ _ _ _)
      | (with_reducible exact graftbedref12_Check.mono _ _)
      | (with_reducible exact graftbedref12_Tag.mono _ _)
      | (with_reducible exact graftbedref13_split.mono _ _ _ _ _)
      | (with_reducible exact LeO.refl _)
      | (with_reducible exact LeO.none _)
      | (with_reducible refine LeO.ite ?_ ?_)
      | (with_reducible refine LeO.bind ?_ (fun _ => ?_))
      | exact ih0 _ _ _
      | exact ih1 _ _ _ _ _ _
      | exact ih2 _ _ _ _ _ _ _ _
      | exact ih3 _ _ _ _ _ _ _ _
      | exact graftbedref12_Check.mono _ _
      | exact graftbedref12_Tag.mono _ _
      | exact graftbedref13_split.mono _ _ _ _ _
      | exact LeO.none _
      | refine LeO.ite ?_ ?_
      | refine LeO.bind ?_ (fun _ => ?_)
    · intro y0 y1 y2 y3 y4 y5 y6 y7
      unfold graftbedref13_Line.j2
      repeat' first
      | (with_reducible exact ih0 _ _ _)
      | (with_reducible exact ih1 _ _ _ _ _ _)
      | (with_reducible exact ih2 _ _ _ _ _ _ _ _)
      | (with_reducible exact ih3 _ _ _ _ _ _ _ _)
      | (with_reducible exact graftbedref12_Check.mono _ _)
      | (with_reducible exact graftbedref12_Tag.mono _ _)
      | (with_reducible exact graftbedref13_split.mono _ _ _ _ _)
      | (with_reducible exact LeO.refl _)
      | (with_reducible exact LeO.none _)
      | (with_reducible refine LeO.ite ?_ ?_)
      | (with_reducible refine LeO.bind ?_ (fun _ => ?_))
      | exact ih0 _ _ _
      | exact ih1 _ _ _ _ _ _
      | exact ih2 _ _ _ _ _ _ _ _
      | exact ih3 _ _ _ _ _ _ _ _
      | exact graftbedref12_Check.mono _ _
      | exact graftbedref12_Tag.mono _ _
      | exact graftbedref13_split.mono _ _ _ _ _
      | exact LeO.none _
      | refine LeO.ite ?_ ?_
      | refine LeO.bind ?_ (fun _ => ?_)
    · intro y0 y1 y2 y3 y4 y5 y6 y7
      unfold graftbedref13_Line.j3
      repeat' first
      | (with_reducible exact ih0 _ _ _)
      | (with_reducible exact ih1 _ _ _ _ _ _)
      | (with_reducible exact ih2 _ _ _ _ _ _ _ _)
      | (with_reducible exact ih3 _ _ _ _ _ _ _ _)
      | (with_reducible exact graftbedref12_Check.mono _ _)
      | (with_reducible exact graftbedref12_Tag.mono _ _)
      | (with_reducible exact graftbedref13_split.mono _ _ _ _ _)
      | (with_reducible exact LeO.refl _)
      | (with_reducible exact LeO.none _)
      | (with_reducible refine LeO.ite ?_ ?_)
      | (with_reducible refine LeO.bind ?_ (fun _ => ?_))
      | exact ih0 _ _ _
      | exact ih1 _ _ _ _ _ _
      | exact ih2 _ _ _ _ _ _ _ _
      | exact ih3 _ _ _ _ _ _ _ _
      | exact graftbedref12_Check.mono _ _
      | exact graftbedref12_Tag.mono _ _
      | exact graftbedref13_split.mono _ _ _ _ _
      | exact LeO.none _
      | refine LeO.ite ?_ ?_
      | refine LeO.bind ?_ (fun _ => ?_)
theorem graftbedref13_Line.mono : ∀ a0 k, LeO (graftbedref13_Line.f k a0) (graftbedref13_Line.f (k + 1) a0) := by
  intro a0 k
  obtain ⟨ih0, ih1, ih2, ih3⟩ := graftbedref13_Line.mono_l k
  unfold graftbedref13_Line.f
  repeat' first
      | (with_reducible exact ih0 _ _ _)
      | (with_reducible exact ih1 _ _ _ _ _ _)
      | (with_reducible exact ih2 _ _ _ _ _ _ _ _)
      | (with_reducible exact ih3 _ _ _ _ _ _ _ _)
      | (with_reducible exact graftbedref12_Check.mono _ _)
      | (with_reducible exact graftbedref12_Tag.mono _ _)
      | (with_reducible exact graftbedref13_split.mono _ _ _ _ _)
      | (with_reducible exact LeO.refl _)
      | (with_reducible exact LeO.none _)
      | (with_reducible refine LeO.ite ?_ ?_)
      | (with_reducible refine LeO.bind ?_ (fun _ => ?_))
      | exact ih0 _ _ _
      | exact ih1 _ _ _ _ _ _
      | exact ih2 _ _ _ _ _ _ _ _
      | exact ih3 _ _ _ _ _ _ _ _
      | exact graftbedref12_Check.mono _ _
      | exact graftbedref12_Tag.mono _ _
      | exact graftbedref13_split.mono _ _ _ _ _
      | exact LeO.none _
      | refine LeO.ite ?_ ?_
      | refine LeO.bind ?_ (fun _ => ?_)
set_option maxHeartbeats 8000000 in
set_option maxRecDepth 100000 in
theorem graftbedref13_Line.calls (k : Nat) (a0 : ByteArray) (r1 : List (S61)) (r2 : Int) (w : World) (h : graftbedref13_Line.f k a0 = some (r1, r2)) :
    Calls Tryd.prog 30 #[.string a0] w fun e w' => ∃ v0_ : Value, e = .returned (.tuple #[v0_, .int .i64 r2]) ∧ Kd.R k61 61 w' w.heap.size (fun _ => True) v0_ r1 ∧ Below w.heap.size w w' := by
  have hu61 := Tryd.underlying61
  have HB := Aside0.mk (Below.refl w.heap.size w)
  have H : ((graftbedref13_split.f k a0 32 9 false).bind fun t158 => (graftbedref13_Line.l0 k (([] : List (S61))) t158 0)) = some (r1, r2) := h
  clear h
  obtain ⟨y155, hy155⟩ : ∃ y_ : List (S61), y_ = (([] : List (S61))) := ⟨_, rfl⟩
  replace H : ((graftbedref13_split.f k a0 32 9 false).bind fun t158 => (graftbedref13_Line.l0 k y155 t158 0)) = some (r1, r2) := by first | (rw [hy155]; with_reducible exact H) | (have H2_ := (Option.bind_some _ _).symm.trans H; rw [hy155]; with_reducible exact H2_) | (have H2_ := (Option.bind_some _ _).symm.trans H; with_reducible exact H2_) | with_reducible exact H | (rw [hy155]; exact H) | exact H
  have Ny155 := Aside0.mk hy155
  clear hy155
  replace H := Option.bind_eq_some_iff.mp H
  obtain ⟨t158, A20, H⟩ := H
  replace H : (graftbedref13_Line.l0 k y155 t158 0) = some (r1, r2) := H
  have A2 := Aside0.mk A20
  clear A20
  have H' := Aside0.mk H
  clear H
  go_enter Tryd.func30, Tryd.ntmps30
  go_wp2_with (first | ((with_reducible refine gate_dst (N := 13) rfl ?_); refine Kd.R_lit k61 _ 61 ?hg (N := 13) ?hd (xs := ([] : List (S61))) (inner := []) (ok := fun _ => True) (okp := fun _ => True) ?hr ?hp (fun _ hk => hk) trivial (Below.refl _ _) (Nat.le_refl _) (by simp) ?_; (case hd => rfl); (case hg => rfl); (case hr => first | (go_simp; done) | (go_simp; rfl)); (case hp => exact (Reps.none _ _)); intro v156 w3 ho4 hb hg_ hnew_; clear hg_ hnew_; (first | rw [← Ny155.out] at ho4 | (simp only [Int.reduceToNat] at ho4; rw [← Ny155.out] at ho4)); have n0_ := Aside0.mk (Kd.R_lower ho4 (below_size (by repeat (first | (with_reducible first | exact HB.out | apply below_alloc | apply pw_below_drewN | apply below_drew1) | exact HB.out)))); have n1_ := Aside0.mk (below_step (by repeat (first | (with_reducible first | exact HB.out | apply below_alloc | apply pw_below_drewN | apply below_drew1) | exact HB.out)) hb); clear HB; have HO157 := n0_; have HB := n1_; clear n0_ n1_; clear hb ho4) | ((with_reducible refine gate_callee (f := 52) rfl ?_); refine goesL_ (some 15) rfl rfl Tryd.func52 (by kernel_rfl) rfl #[.string a0, .int .u8 32, .int .u8 9, .bool false] rfl (by (try simp only [List.map_toArray, List.map_cons, List.map_nil]); first | done | rfl | (simp only [List.length_drop, List.length_take]; rfl) | (simp only [ByteArray.size_extract, Nat.min_self]; done) | (simp only [ByteArray.size_append, StrMore.size_lit, List.length_cons, List.length_nil, Nat.zero_add, Nat.reduceAdd] <;> rfl)) ?_; (with_reducible refine (graftbedref13_split.calls k a0 32 9 false t158 _ A2.out).mono ?_); rintro e w5 ⟨v159, rfl, ho0, hb⟩; refine ⟨_, rfl, ?_⟩; have n0_ := Aside0.mk (Kd.R_below (by (with_reducible repeat (first | apply Kd.R_alloc | apply Kd.R_drewN | apply Kd.R_drew)); exact HO157.out) hb); have n1_ := Aside0.mk (Kd.R_lower ho0 (below_size (by repeat (first | (with_reducible first | exact HB.out | apply below_alloc | apply pw_below_drewN | apply below_drew1) | exact HB.out)))); have n2_ := Aside0.mk (below_step (by repeat (first | (with_reducible first | exact HB.out | apply below_alloc | apply pw_below_drewN | apply below_drew1) | exact HB.out)) hb); clear HO157; clear HB; have HO157 := n0_; have HO160 := n1_; have HB := n2_; clear n0_ n1_ n2_; (try clear hb); (try clear hb2); (try clear hk); (try clear hi); (try clear ho0)))
  go_loopg [4, 6] k (fun kq v4 v6 w' => ∃ (x4_1 : List (S61)) (x6_1 : Int), v6 = .int .i64 x6_1 ∧ Aside0 (graftbedref13_Line.l0 kq x4_1 t158 x6_1 = some (r1, r2)) ∧ Aside0 (kq ≤ k) ∧ Aside0 (Kd.R k61 61 w' w.heap.size (fun _ => True) v4 x4_1) ∧ Aside0 (Kd.R Kd.string 9 w' w.heap.size (fun _ => True) v159 t158) ∧ Aside0 (Below w.heap.size w w'))
  case atStart => exact ⟨(y155), (0), (by first | rfl | (simp; done) | (simp [*]; done)), H', ⟨Nat.le_refl _⟩, ⟨by (with_reducible repeat (first | apply Kd.R_alloc | apply Kd.R_drewN | apply Kd.R_drew)); first | exact HO157.out | (have e_ := HO157.out; simp only [StrOrd.own_any] at e_ ⊢; exact e_)⟩, ⟨by (with_reducible repeat (first | apply Kd.R_alloc | apply Kd.R_drewN | apply Kd.R_drew)); first | exact HO160.out | (have e_ := HO160.out; simp only [StrOrd.own_any] at e_ ⊢; exact e_)⟩, ⟨by repeat (first | (with_reducible first | exact HB.out | apply below_alloc | apply pw_below_drewN | apply below_drew1) | exact HB.out)⟩⟩
  case round =>
    clear H'
    try clear p2
    try clear c3
    try clear c5
    obtain ⟨x4_1, x6_1, rfl, HA, HK1, HO_4, HO_5, HB⟩ := hrel
    cases gk with
    | zero => exact absurd HA.out (by simp [graftbedref13_Line.l0])
    | succ k1 =>
      have H := HA.out
      clear HA
      simp only [graftbedref13_Line.l0] at H
      by_cases c6 : x6_1 < (t158.length : Int)
      · rw [if_pos c6] at H
        have c6b0 : decide (x6_1 < (t158.length : Int)) = true := decide_eq_true c6
        clear c6
        obtain ⟨y162, hy162⟩ : ∃ y_ : List (S61), y_ = (([] : List (S61))) := ⟨_, rfl⟩
        replace H : (if 0 ≤ x6_1 then ((graftbedref13_split.f k1 (rdOf ByteArray.empty t158 x6_1) 44 44 true).bind fun t166 => (graftbedref13_Line.l1 k1 x4_1 t158 x6_1 y162 t166 0)) else (none)) = some (r1, r2) := by first | (rw [hy162]; with_reducible exact H) | (have H2_ := (Option.bind_some _ _).symm.trans H; rw [hy162]; with_reducible exact H2_) | (have H2_ := (Option.bind_some _ _).symm.trans H; with_reducible exact H2_) | with_reducible exact H | (rw [hy162]; exact H) | exact H
        have Ny162 := Aside0.mk hy162
        clear hy162
        by_cases c7 : 0 ≤ x6_1
        · rw [if_pos c7] at H
          have c7b0 : decide (0 ≤ x6_1) = true := decide_eq_true c7
          clear c7
          replace H := Option.bind_eq_some_iff.mp H
          obtain ⟨t166, A80, H⟩ := H
          replace H : (graftbedref13_Line.l1 k1 x4_1 t158 x6_1 y162 t166 0) = some (r1, r2) := H
          have A8 := Aside0.mk A80
          clear A80
          have H' := Aside0.mk H
          clear H
          obtain ⟨Ao9, co9, eo9⟩ := Kd.R_slice HO_5.out
          subst eo9
          go_wp2_with (first | ((with_reducible refine gate_dst (N := 22) rfl ?_); refine Kd.R_lit k61 _ 61 ?hg (N := 22) ?hd (xs := ([] : List (S61))) (inner := []) (ok := fun _ => True) (okp := fun _ => True) ?hr ?hp (fun _ hk => hk) trivial (Below.refl _ _) (Nat.le_refl _) (by simp) ?_; (case hd => rfl); (case hg => rfl); (case hr => first | (go_simp; done) | (go_simp; rfl)); (case hp => exact (Reps.none _ _)); intro v163 w10 ho11 hb hg_ hnew_; clear hg_ hnew_; (first | rw [← Ny162.out] at ho11 | (simp only [Int.reduceToNat] at ho11; rw [← Ny162.out] at ho11)); have n0_ := Aside0.mk (Kd.R_elder' (by (with_reducible repeat (first | apply Kd.R_alloc | apply Kd.R_drewN | apply Kd.R_drew)); exact HO_4.out) (Kd.R_base ho11) hb); have n1_ := Aside0.mk (Kd.R_below (by (with_reducible repeat (first | apply Kd.R_alloc | apply Kd.R_drewN | apply Kd.R_drew)); exact HO_5.out) hb); have n2_ := Aside0.mk (Kd.R_lower (Kd.R_new' ho11 (Kd.R_lt (by (with_reducible repeat (first | apply Kd.R_alloc | apply Kd.R_drewN | apply Kd.R_drew)); exact HO_4.out))) (below_size (by repeat (first | (with_reducible first | exact HB.out | apply below_alloc | apply pw_below_drewN | apply below_drew1) | exact HB.out)))); have n3_ := Aside0.mk (below_step (by repeat (first | (with_reducible first | exact HB.out | apply below_alloc | apply pw_below_drewN | apply below_drew1) | exact HB.out)) hb); clear HO_4; clear HO_5; clear HB; have HO_4 := n0_; have HO_5 := n1_; have HO164 := n2_; have HB := n3_; clear n0_ n1_ n2_ n3_; clear hb ho11; have p165 : 0 ≤ (x6_1 : Int) := of_decide_eq_true (by first | (with_reducible assumption) | assumption); have q165 : x6_1 < (t158.length : Int) := of_decide_eq_true (by first | (with_reducible assumption) | assumption); obtain ⟨ad165, e165, hx165_0⟩ := Kd.at_string (Kd.R_reads' HO_5.out).2.2 x6_1 p165 q165; cases e165; replace p165 := eq_true p165; replace q165 := eq_true q165) | ((with_reducible refine gate_callee (f := 52) rfl ?_); refine goesL_ (some 27) rfl rfl Tryd.func52 (by kernel_rfl) rfl #[.string (rdOf ByteArray.empty t158 x6_1), .int .u8 44, .int .u8 44, .bool true] rfl (by (try simp only [List.map_toArray, List.map_cons, List.map_nil]); first | done | rfl | (simp only [List.length_drop, List.length_take]; rfl) | (simp only [ByteArray.size_extract, Nat.min_self]; done) | (simp only [ByteArray.size_append, StrMore.size_lit, List.length_cons, List.length_nil, Nat.zero_add, Nat.reduceAdd] <;> rfl)) ?_; (with_reducible refine (graftbedref13_split.calls k1 (rdOf ByteArray.empty t158 x6_1) 44 44 true t166 _ A8.out).mono ?_); rintro e w12 ⟨v167, rfl, ho0, hb⟩; refine ⟨_, rfl, ?_⟩; have n0_ := Aside0.mk (Kd.R_below (by (with_reducible repeat (first | apply Kd.R_alloc | apply Kd.R_drewN | apply Kd.R_drew)); exact HO_4.out) hb); have n1_ := Aside0.mk (Kd.R_elder' (by (with_reducible repeat (first | apply Kd.R_alloc | apply Kd.R_drewN | apply Kd.R_drew)); exact HO_5.out) (Kd.R_base ho0) hb); have n2_ := Aside0.mk (Kd.R_below (by (with_reducible repeat (first | apply Kd.R_alloc | apply Kd.R_drewN | apply Kd.R_drew)); exact HO164.out) hb); have n3_ := Aside0.mk (Kd.R_lower (Kd.R_new' ho0 (Kd.R_lt (by (with_reducible repeat (first | apply Kd.R_alloc | apply Kd.R_drewN | apply Kd.R_drew)); exact HO_5.out))) (below_size (by repeat (first | (with_reducible first | exact HB.out | apply below_alloc | apply pw_below_drewN | apply below_drew1) | exact HB.out)))); have n4_ := Aside0.mk (below_step (by repeat (first | (with_reducible first | exact HB.out | apply below_alloc | apply pw_below_drewN | apply below_drew1) | exact HB.out)) hb); clear HO_4; clear HO_5; clear HO164; clear HB; have HO_4 := n0_; have HO_5 := n1_; have HO164 := n2_; have HO168 := n3_; have HB := n4_; clear n0_ n1_ n2_ n3_ n4_; (try clear hb); (try clear hb2); (try clear hk); (try clear hi); (try clear ho0)))
          go_loopg [7, 9] k1 (fun kq v7 v9 w' => ∃ (x7_2 : List (S61)) (x9_2 : Int), v9 = .int .i64 x9_2 ∧ Aside0 (graftbedref13_Line.l1 kq x4_1 t158 x6_1 x7_2 t166 x9_2 = some (r1, r2)) ∧ Aside0 (kq ≤ k1) ∧ Aside0 (Kd.R k61 61 w' w.heap.size (fun k_ => some k_ ≠ (v7 : Value).ownBlock) u4 x4_1) ∧ Aside0 (Kd.R Kd.string 9 w' w.heap.size (fun k_ => some k_ ≠ (v167 : Value).ownBlock) (.slice (some ad165) t158.length co9) t158) ∧ Aside0 (Kd.R k61 61 w' w.heap.size (fun k_ => some k_ ≠ (u4 : Value).ownBlock) v7 x7_2) ∧ Aside0 (Kd.R Kd.string 9 w' w.heap.size (fun k_ => some k_ ≠ ((.slice (some ad165) t158.length co9) : Value).ownBlock) v167 t166) ∧ Aside0 (Below w.heap.size w w'))
          case atStart => exact ⟨(y162), (0), (by first | rfl | (simp; done) | (simp [*]; done)), H', ⟨Nat.le_refl _⟩, ⟨by (with_reducible repeat (first | apply Kd.R_alloc | apply Kd.R_drewN | apply Kd.R_drew)); exact Kd.R_mono HO_4.out (fun _ hk => hk.2)⟩, ⟨by (with_reducible repeat (first | apply Kd.R_alloc | apply Kd.R_drewN | apply Kd.R_drew)); exact Kd.R_mono HO_5.out (fun _ hk => hk.2)⟩, ⟨by (with_reducible repeat (first | apply Kd.R_alloc | apply Kd.R_drewN | apply Kd.R_drew)); exact Kd.R_mono HO164.out (fun _ hk => hk.2)⟩, ⟨by (with_reducible repeat (first | apply Kd.R_alloc | apply Kd.R_drewN | apply Kd.R_drew)); exact Kd.R_mono HO168.out (fun _ hk => hk.2)⟩, ⟨by repeat (first | (with_reducible first | exact HB.out | apply below_alloc | apply pw_below_drewN | apply below_drew1) | exact HB.out)⟩⟩
          case round =>
            clear H'
            try clear p1
            try clear q1
            try clear hx1
            try clear p2
            try clear c3
            try clear c5
            try clear c6
            try clear c6b0
            try clear c7
            try clear c7b0
            try clear hx165_0
            try clear p165
            try clear p2
            try clear q165
            obtain ⟨x7_2, x9_2, rfl, HA, HK2, HO_4, HO_5, HO_7, HO_8, HB⟩ := hrel
            cases gk with
            | zero => exact absurd HA.out (by simp [graftbedref13_Line.l1])
            | succ k2 =>
              have H := HA.out
              clear HA
              simp only [graftbedref13_Line.l1] at H
              by_cases c13 : x9_2 < (t166.length : Int)
              · rw [if_pos c13] at H
                have c13b0 : decide (x9_2 < (t166.length : Int)) = true := decide_eq_true c13
                clear c13
                by_cases c14 : 0 ≤ x9_2
                · rw [if_pos c14] at H
                  have c14b0 : decide (0 ≤ x9_2) = true := decide_eq_true c14
                  clear c14
                  have HC15 := Aside0.mk H
                  clear H
                  obtain ⟨Ao16, co16, eo16⟩ := Kd.R_slice HO_8.out
                  subst eo16
                  have p172 : 0 ≤ (x9_2 : Int) := of_decide_eq_true (by first | (with_reducible assumption) | assumption)
                  have q172 : x9_2 < (t166.length : Int) := of_decide_eq_true (by first | (with_reducible assumption) | assumption)
                  obtain ⟨ad172, e172, hx172_0⟩ := Kd.at_string (Kd.R_reads' HO_8.out).2.2 x9_2 p172 q172
                  cases e172
                  replace p172 := eq_true p172
                  replace q172 := eq_true q172
                  go_upto_region 12 with (fail)
                  go_cut [11] (fun v11 wc => ∃ (kq : Nat) (x11_14 : Bool), v11 = .bool x11_14 ∧ Aside0 (graftbedref13_Line.j2 kq x4_1 t158 x6_1 x7_2 t166 x9_2 (rdOf ByteArray.empty t166 x9_2) x11_14 = some (r1, r2)) ∧ Aside0 (kq ≤ k2) ∧ Aside0 (Kd.R k61 61 wc w.heap.size (fun k_ => some k_ ≠ (u7 : Value).ownBlock) u4 x4_1) ∧ Aside0 (Kd.R Kd.string 9 wc w.heap.size (fun k_ => some k_ ≠ ((.slice (some ad172) t166.length co16) : Value).ownBlock) (.slice (some ad165) t158.length co9) t158) ∧ Aside0 (Kd.R k61 61 wc w.heap.size (fun k_ => some k_ ≠ (u4 : Value).ownBlock) u7 x7_2) ∧ Aside0 (Kd.R Kd.string 9 wc w.heap.size (fun k_ => some k_ ≠ ((.slice (some ad165) t158.length co9) : Value).ownBlock) (.slice (some ad172) t166.length co16) t166) ∧ Aside0 (Below w.heap.size w wc))
                  case first =>
                    have H := HC15.out
                    clear HC15
                    by_cases c17 : ((rdOf ByteArray.empty t166 x9_2).size : Int) > 0
                    · rw [if_pos c17] at H
                      have c17b0 : decide (0 < ((rdOf ByteArray.empty t166 x9_2).size : Int)) = true := decide_eq_true c17
                      have c17b1 : decide (0 < (rdOf ByteArray.empty t166 x9_2).size) = true := decide_eq_true (by omega)
                      clear c17
                      (first | rw [c17b0] | (simp only [i64_w, i32_w]; rw [c17b0]) | skip)
                      by_cases c18 : 0 < ((rdOf ByteArray.empty t166 x9_2).size : Int)
                      · rw [if_pos c18] at H
                        have c18b0 : decide (0 < ((rdOf ByteArray.empty t166 x9_2).size : Int)) = true := decide_eq_true c18
                        have c18b1 : decide (0 < (rdOf ByteArray.empty t166 x9_2).size) = true := decide_eq_true (by omega)
                        clear c18
                        have H' := Aside0.mk H
                        clear H
                        have p19 : 0 ≤ (0 : Int) := (by omega)
                        have q19 : 0 < (rdOf ByteArray.empty t166 x9_2).size := (by have : (0 : Int) < ((rdOf ByteArray.empty t166 x9_2).size : Int) := of_decide_eq_true (by first | (with_reducible assumption) | assumption); omega)
                        have hx19 : ∀ h : 0 < (rdOf ByteArray.empty t166 x9_2).size, (((rdOf ByteArray.empty t166 x9_2)[0]'h).toNat : Int) = bt (rdOf ByteArray.empty t166 x9_2) 0 := bt_at (rdOf ByteArray.empty t166 x9_2) 0
                        clear p19
                        have qi19 : (0 < ((rdOf ByteArray.empty t166 x9_2).size : Int)) = True := eq_true (of_decide_eq_true (by first | (with_reducible assumption) | assumption))
                        replace q19 := eq_true q19
                        go_wp2
                        go_meet
                        case rel => exact ⟨_, (((bt (rdOf ByteArray.empty t166 x9_2) 0) == 33)), (by first | rfl | (simp; done) | (simp [*]; done)), H', ⟨by have := HK1.out; have := HK2.out; first | omega | exact Nat.le_refl _⟩, ⟨by (with_reducible repeat (first | apply Kd.R_alloc | apply Kd.R_drewN | apply Kd.R_drew)); first | exact HO_4.out | (have e_ := HO_4.out; simp only [StrOrd.own_any] at e_ ⊢; exact e_)⟩, ⟨by (with_reducible repeat (first | apply Kd.R_alloc | apply Kd.R_drewN | apply Kd.R_drew)); first | exact HO_5.out | (have e_ := HO_5.out; simp only [StrOrd.own_any] at e_ ⊢; exact e_)⟩, ⟨by (with_reducible repeat (first | apply Kd.R_alloc | apply Kd.R_drewN | apply Kd.R_drew)); first | exact HO_7.out | (have e_ := HO_7.out; simp only [StrOrd.own_any] at e_ ⊢; exact e_)⟩, ⟨by (with_reducible repeat (first | apply Kd.R_alloc | apply Kd.R_drewN | apply Kd.R_drew)); first | exact HO_8.out | (have e_ := HO_8.out; simp only [StrOrd.own_any] at e_ ⊢; exact e_)⟩, ⟨by repeat (first | (with_reducible first | exact HB.out | apply below_alloc | apply pw_below_drewN | apply below_drew1) | exact HB.out)⟩⟩
                      · rw [if_neg c18] at H
                        exact absurd H (by simp)
                    · rw [if_neg c17] at H
                      have c17b0 : decide (0 < ((rdOf ByteArray.empty t166 x9_2).size : Int)) = false := decide_eq_false c17
                      have c17b1 : decide (0 < (rdOf ByteArray.empty t166 x9_2).size) = false := decide_eq_false (by omega)
                      clear c17
                      (first | rw [c17b0] | (simp only [i64_w, i32_w]; rw [c17b0]) | skip)
                      have H' := Aside0.mk H
                      clear H
                      go_wp2
                      go_meet
                      case rel => exact ⟨_, (false), (by first | rfl | (simp; done) | (simp [*]; done)), H', ⟨by have := HK1.out; have := HK2.out; first | omega | exact Nat.le_refl _⟩, ⟨by (with_reducible repeat (first | apply Kd.R_alloc | apply Kd.R_drewN | apply Kd.R_drew)); first | exact HO_4.out | (have e_ := HO_4.out; simp only [StrOrd.own_any] at e_ ⊢; exact e_)⟩, ⟨by (with_reducible repeat (first | apply Kd.R_alloc | apply Kd.R_drewN | apply Kd.R_drew)); first | exact HO_5.out | (have e_ := HO_5.out; simp only [StrOrd.own_any] at e_ ⊢; exact e_)⟩, ⟨by (with_reducible repeat (first | apply Kd.R_alloc | apply Kd.R_drewN | apply Kd.R_drew)); first | exact HO_7.out | (have e_ := HO_7.out; simp only [StrOrd.own_any] at e_ ⊢; exact e_)⟩, ⟨by (with_reducible repeat (first | apply Kd.R_alloc | apply Kd.R_drewN | apply Kd.R_drew)); first | exact HO_8.out | (have e_ := HO_8.out; simp only [StrOrd.own_any] at e_ ⊢; exact e_)⟩, ⟨by repeat (first | (with_reducible first | exact HB.out | apply below_alloc | apply pw_below_drewN | apply below_drew1) | exact HB.out)⟩⟩
                  case rest =>
                    clear HC15
                    try clear c1
                    try clear p1
                    try clear q1
                    try clear hx1
                    try clear qi1
                    try clear p2
                    try clear c3
                    try clear c5
                    try clear c6
                    try clear c6b0
                    try clear c7
                    try clear c7b0
                    try clear c13
                    try clear c13b0
                    try clear c14
                    try clear c14b0
                    try clear p16
                    try clear q16
                    try clear hx16
                    try clear c17
                    try clear c17b0
                    try clear c17b1
                    try clear p17
                    try clear q17
                    try clear hx17
                    try clear c18
                    try clear c18b0
                    try clear c18b1
                    try clear p19
                    try clear q19
                    try clear hx19
                    try clear qi19
                    try clear hx165_0
                    try clear hx172_0
                    try clear p1
                    try clear p165
                    try clear p172
                    try clear p19
                    try clear p2
                    try clear q1
                    try clear q165
                    try clear q172
                    try clear q19
                    obtain ⟨kq, x11_14, rfl, HA, HJ14, HO_4, HO_5, HO_7, HO_8, HB⟩ := hcut
                    cases kq with
                    | zero => exact absurd HA.out (by simp [graftbedref13_Line.j2])
                    | succ kj14 =>
                      have H := HA.out
                      clear HA
                      simp only [graftbedref13_Line.j2] at H
                      have HC20 := Aside0.mk H
                      clear H
                      go_upto_if 46 with (fail)
                      go_cut [10] (fun v10 wc => ∃ (kq : Nat) (x10_19 : ByteArray), v10 = .string x10_19 ∧ Aside0 (graftbedref13_Line.j3 kq x4_1 t158 x6_1 x7_2 t166 x9_2 x10_19 x11_14 = some (r1, r2)) ∧ Aside0 (kq ≤ kj14) ∧ Aside0 (Kd.R k61 61 wc w.heap.size (fun k_ => some k_ ≠ (u7 : Value).ownBlock) u4 x4_1) ∧ Aside0 (Kd.R Kd.string 9 wc w.heap.size (fun k_ => some k_ ≠ ((.slice (some ad172) t166.length co16) : Value).ownBlock) (.slice (some ad165) t158.length co9) t158) ∧ Aside0 (Kd.R k61 61 wc w.heap.size (fun k_ => some k_ ≠ (u4 : Value).ownBlock) u7 x7_2) ∧ Aside0 (Kd.R Kd.string 9 wc w.heap.size (fun k_ => some k_ ≠ ((.slice (some ad165) t158.length co9) : Value).ownBlock) (.slice (some ad172) t166.length co16) t166) ∧ Aside0 (Below w.heap.size w wc))
                      case first =>
                        have H := HC20.out
                        clear HC20
                        by_cases c21 : x11_14 = true
                        · subst c21
                          have H1 : (if 1 ≤ ((rdOf ByteArray.empty t166 x9_2).size : Int) then (graftbedref13_Line.j3 kj14 x4_1 t158 x6_1 x7_2 t166 x9_2 ((rdOf ByteArray.empty t166 x9_2).extract 1 (rdOf ByteArray.empty t166 x9_2).size) true) else (none)) = some (r1, r2) := by rw [if_pos rfl] at H; exact H
                          clear H
                          have H := H1
                          clear H1
                          by_cases c22 : 1 ≤ ((rdOf ByteArray.empty t166 x9_2).size : Int)
                          · rw [if_pos c22] at H
                            have c22b0 := eq_true c22
                            have c22b1 : decide (1 ≤ ((rdOf ByteArray.empty t166 x9_2).size : Int)) = true := decide_eq_true c22
                            clear c22
                            have H' := Aside0.mk H
                            clear H
                            go_wp2
                            go_meet
                            case rel => exact ⟨_, ((rdOf ByteArray.empty t166 x9_2).extract 1 (rdOf ByteArray.empty t166 x9_2).size), (by first | rfl | (simp; done) | (simp [*]; done)), H', ⟨by have := HK1.out; have := HK2.out; have := HJ14.out; first | omega | exact Nat.le_refl _⟩, ⟨by (with_reducible repeat (first | apply Kd.R_alloc | apply Kd.R_drewN | apply Kd.R_drew)); first | exact HO_4.out | (have e_ := HO_4.out; simp only [StrOrd.own_any] at e_ ⊢; exact e_)⟩, ⟨by (with_reducible repeat (first | apply Kd.R_alloc | apply Kd.R_drewN | apply Kd.R_drew)); first | exact HO_5.out | (have e_ := HO_5.out; simp only [StrOrd.own_any] at e_ ⊢; exact e_)⟩, ⟨by (with_reducible repeat (first | apply Kd.R_alloc | apply Kd.R_drewN | apply Kd.R_drew)); first | exact HO_7.out | (have e_ := HO_7.out; simp only [StrOrd.own_any] at e_ ⊢; exact e_)⟩, ⟨by (with_reducible repeat (first | apply Kd.R_alloc | apply Kd.R_drewN | apply Kd.R_drew)); first | exact HO_8.out | (have e_ := HO_8.out; simp only [StrOrd.own_any] at e_ ⊢; exact e_)⟩, ⟨by repeat (first | (with_reducible first | exact HB.out | apply below_alloc | apply pw_below_drewN | apply below_drew1) | exact HB.out)⟩⟩
                          · rw [if_neg c22] at H
                            exact absurd H (by simp)
                        · replace c21 := Bool.eq_false_iff.mpr c21
                          subst c21
                          have H1 : (graftbedref13_Line.j3 kj14 x4_1 t158 x6_1 x7_2 t166 x9_2 (rdOf ByteArray.empty t166 x9_2) false) = some (r1, r2) := by rw [if_neg (show ¬ (false = true) by decide)] at H; exact H
                          clear H
                          have H := H1
                          clear H1
                          have H' := Aside0.mk H
                          clear H
                          go_wp2
                          go_meet
                          case rel => exact ⟨_, ((rdOf ByteArray.empty t166 x9_2)), (by first | rfl | (simp; done) | (simp [*]; done)), H', ⟨by have := HK1.out; have := HK2.out; have := HJ14.out; first | omega | exact Nat.le_refl _⟩, ⟨by (with_reducible repeat (first | apply Kd.R_alloc | apply Kd.R_drewN | apply Kd.R_drew)); first | exact HO_4.out | (have e_ := HO_4.out; simp only [StrOrd.own_any] at e_ ⊢; exact e_)⟩, ⟨by (with_reducible repeat (first | apply Kd.R_alloc | apply Kd.R_drewN | apply Kd.R_drew)); first | exact HO_5.out | (have e_ := HO_5.out; simp only [StrOrd.own_any] at e_ ⊢; exact e_)⟩, ⟨by (with_reducible repeat (first | apply Kd.R_alloc | apply Kd.R_drewN | apply Kd.R_drew)); first | exact HO_7.out | (have e_ := HO_7.out; simp only [StrOrd.own_any] at e_ ⊢; exact e_)⟩, ⟨by (with_reducible repeat (first | apply Kd.R_alloc | apply Kd.R_drewN | apply Kd.R_drew)); first | exact HO_8.out | (have e_ := HO_8.out; simp only [StrOrd.own_any] at e_ ⊢; exact e_)⟩, ⟨by repeat (first | (with_reducible first | exact HB.out | apply below_alloc | apply pw_below_drewN | apply below_drew1) | exact HB.out)⟩⟩
                      case rest =>
                        clear HC20
                        try clear c1
                        try clear p1
                        try clear q1
                        try clear hx1
                        try clear qi1
                        try clear c2
                        try clear p2
                        try clear c3
                        try clear c5
                        try clear c6
                        try clear c6b0
                        try clear c7
                        try clear c7b0
                        try clear c13
                        try clear c13b0
                        try clear c14
                        try clear c14b0
                        try clear p16
                        try clear q16
                        try clear hx16
                        try clear c17
                        try clear c17b0
                        try clear c17b1
                        try clear p17
                        try clear q17
                        try clear hx17
                        try clear c18
                        try clear c18b0
                        try clear c18b1
                        try clear p19
                        try clear q19
                        try clear hx19
                        try clear qi19
                        try clear c21
                        try clear c22
                        try clear c22b0
                        try clear c22b1
                        try clear hx165_0
                        try clear hx172_0
                        try clear p1
                        try clear p16
                        try clear p165
                        try clear p17
                        try clear p172
                        try clear p19
                        try clear p2
                        try clear q1
                        try clear q16
                        try clear q165
                        try clear q17
                        try clear q172
                        try clear q19
                        obtain ⟨kq, x10_19, rfl, HA, HJ19, HO_4, HO_5, HO_7, HO_8, HB⟩ := hcut
                        cases kq with
                        | zero => exact absurd HA.out (by simp [graftbedref13_Line.j3])
                        | succ kj19 =>
                          have H := HA.out
                          clear HA
                          simp only [graftbedref13_Line.j3] at H
                          replace H := Option.bind_eq_some_iff.mp H
                          obtain ⟨t173, A230, H⟩ := H
                          replace H : (if t173 = true then ((some (([(⟨0, x10_19, 0, 0⟩ : S61)] : List (S61)) : List (S61))).bind fun y174 => (if x11_14 = true then ((graftbedref12_Not.f y174).bind fun t177 => (if x9_2 = 0 then (graftbedref13_Line.l1 kj19 x4_1 t158 x6_1 t177 t166 (wrap64 (x9_2 + 1))) else ((graftbedref12_And.f x7_2 t177).bind fun t180 => (graftbedref13_Line.l1 kj19 x4_1 t158 x6_1 t180 t166 (wrap64 (x9_2 + 1)))))) else (if x9_2 = 0 then (graftbedref13_Line.l1 kj19 x4_1 t158 x6_1 y174 t166 (wrap64 (x9_2 + 1))) else ((graftbedref12_And.f x7_2 y174).bind fun t183 => (graftbedref13_Line.l1 kj19 x4_1 t158 x6_1 t183 t166 (wrap64 (x9_2 + 1))))))) else (some (([] : List (S61)), 120))) = some (r1, r2) := H
                          have A23 := Aside0.mk A230
                          clear A230
                          by_cases c24 : t173 = true
                          · subst c24
                            have H1 : ((some (([(⟨0, x10_19, 0, 0⟩ : S61)] : List (S61)) : List (S61))).bind fun y174 => (if x11_14 = true then ((graftbedref12_Not.f y174).bind fun t177 => (if x9_2 = 0 then (graftbedref13_Line.l1 kj19 x4_1 t158 x6_1 t177 t166 (wrap64 (x9_2 + 1))) else ((graftbedref12_And.f x7_2 t177).bind fun t180 => (graftbedref13_Line.l1 kj19 x4_1 t158 x6_1 t180 t166 (wrap64 (x9_2 + 1)))))) else (if x9_2 = 0 then (graftbedref13_Line.l1 kj19 x4_1 t158 x6_1 y174 t166 (wrap64 (x9_2 + 1))) else ((graftbedref12_And.f x7_2 y174).bind fun t183 => (graftbedref13_Line.l1 kj19 x4_1 t158 x6_1 t183 t166 (wrap64 (x9_2 + 1))))))) = some (r1, r2) := by rw [if_pos rfl] at H; exact H
                            clear H
                            have H := H1
                            clear H1
                            obtain ⟨y174, hy174⟩ : ∃ y_ : List (S61), y_ = (([(⟨0, x10_19, 0, 0⟩ : S61)] : List (S61))) := ⟨_, rfl⟩
                            replace H : (if x11_14 = true then ((graftbedref12_Not.f y174).bind fun t177 => (if x9_2 = 0 then (graftbedref13_Line.l1 kj19 x4_1 t158 x6_1 t177 t166 (wrap64 (x9_2 + 1))) else ((graftbedref12_And.f x7_2 t177).bind fun t180 => (graftbedref13_Line.l1 kj19 x4_1 t158 x6_1 t180 t166 (wrap64 (x9_2 + 1)))))) else (if x9_2 = 0 then (graftbedref13_Line.l1 kj19 x4_1 t158 x6_1 y174 t166 (wrap64 (x9_2 + 1))) else ((graftbedref12_And.f x7_2 y174).bind fun t183 => (graftbedref13_Line.l1 kj19 x4_1 t158 x6_1 t183 t166 (wrap64 (x9_2 + 1)))))) = some (r1, r2) := by first | (rw [hy174]; with_reducible exact H) | (have H2_ := (Option.bind_some _ _).symm.trans H; rw [hy174]; with_reducible exact H2_) | (have H2_ := (Option.bind_some _ _).symm.trans H; with_reducible exact H2_) | with_reducible exact H | (rw [hy174]; exact H) | exact H
                            have Ny174 := Aside0.mk hy174
                            clear hy174
                            by_cases c25 : x11_14 = true
                            · subst c25
                              have H1 : ((graftbedref12_Not.f y174).bind fun t177 => (if x9_2 = 0 then (graftbedref13_Line.l1 kj19 x4_1 t158 x6_1 t177 t166 (wrap64 (x9_2 + 1))) else ((graftbedref12_And.f x7_2 t177).bind fun t180 => (graftbedref13_Line.l1 kj19 x4_1 t158 x6_1 t180 t166 (wrap64 (x9_2 + 1)))))) = some (r1, r2) := by rw [if_pos rfl] at H; exact H
                              clear H
                              have H := H1
                              clear H1
                              replace H := Option.bind_eq_some_iff.mp H
                              obtain ⟨t177, A260, H⟩ := H
                              replace H : (if x9_2 = 0 then (graftbedref13_Line.l1 kj19 x4_1 t158 x6_1 t177 t166 (wrap64 (x9_2 + 1))) else ((graftbedref12_And.f x7_2 t177).bind fun t180 => (graftbedref13_Line.l1 kj19 x4_1 t158 x6_1 t180 t166 (wrap64 (x9_2 + 1))))) = some (r1, r2) := H
                              have A26 := Aside0.mk A260
                              clear A260
                              by_cases c27 : x9_2 = 0
                              · rw [if_pos c27] at H
                                have c27b0 : (x9_2 == 0) = true := beq_iff_eq.mpr c27
                                have c27b1 : (x9_2 != 0) = false := bne_eq_false_iff_eq.mpr c27
                                clear c27
                                have H' := Aside0.mk H
                                clear H
                                go_wp2_with (first | ((with_reducible refine gate_callee (f := 53) rfl ?_); refine goesL_ (some 50) rfl rfl Tryd.func53 (by kernel_rfl) rfl #[.string x10_19] rfl (by (try simp only [List.map_toArray, List.map_cons, List.map_nil]); first | done | rfl | (simp only [List.length_drop, List.length_take]; rfl) | (simp only [ByteArray.size_extract, Nat.min_self]; done) | (simp only [ByteArray.size_append, StrMore.size_lit, List.length_cons, List.length_nil, Nat.zero_add, Nat.reduceAdd] <;> rfl)) ?_; (with_reducible refine (graftbedref12_Tag.calls kj19 x10_19 true _ A23.out).mono ?_); rintro e w' ⟨rfl, ⟨nd, rfl⟩⟩; refine ⟨_, rfl, ?_⟩) | ((with_reducible refine gate_dst (N := 54) rfl ?_); refine Kd.R_lit k61 _ 61 ?hg (N := 54) ?hd (xs := ([(⟨0, x10_19, 0, 0⟩ : S61)] : List (S61))) (inner := [.int .i64 0, .string x10_19, .int .i64 0, .int .i64 0]) (ok := fun _ => True) (okp := fun _ => True) ?hr ?hp (fun _ hk => hk) trivial (Below.refl _ _) (Nat.le_refl _) (by simp) ?_; (case hd => rfl); (case hg => rfl); (case hr => first | (go_simp; done) | (go_simp; rfl)); (case hp => exact (Reps.c4 (show Kd.M k61 _ _ _ (⟨0, x10_19, 0, 0⟩ : S61) [.int .i64 0, .string x10_19, .int .i64 0, .int .i64 0] from (k61_mkM _ _ _ (⟨0, x10_19, 0, 0⟩ : S61) )) (Reps.none _ _))); intro v175 w28 ho29 hb hg_ hnew_; clear hg_ hnew_; (first | rw [← Ny174.out] at ho29 | (simp only [Int.reduceToNat] at ho29; rw [← Ny174.out] at ho29)); have n0_ := Aside0.mk (Kd.R_elder' (by (with_reducible repeat (first | apply Kd.R_alloc | apply Kd.R_drewN | apply Kd.R_drew)); exact HO_4.out) (Kd.R_base ho29) hb); have n1_ := Aside0.mk (Kd.R_below (by (with_reducible repeat (first | apply Kd.R_alloc | apply Kd.R_drewN | apply Kd.R_drew)); exact HO_5.out) hb); have n2_ := Aside0.mk (Kd.R_elder' (by (with_reducible repeat (first | apply Kd.R_alloc | apply Kd.R_drewN | apply Kd.R_drew)); exact HO_7.out) (Kd.R_base ho29) hb); have n3_ := Aside0.mk (Kd.R_below (by (with_reducible repeat (first | apply Kd.R_alloc | apply Kd.R_drewN | apply Kd.R_drew)); exact HO_8.out) hb); have n4_ := Aside0.mk (Kd.R_lower (Kd.R_new' (Kd.R_new' ho29 (Kd.R_lt (by (with_reducible repeat (first | apply Kd.R_alloc | apply Kd.R_drewN | apply Kd.R_drew)); exact HO_4.out))) (Kd.R_lt (by (with_reducible repeat (first | apply Kd.R_alloc | apply Kd.R_drewN | apply Kd.R_drew)); exact HO_7.out))) (below_size (by repeat (first | (with_reducible first | exact HB.out | apply below_alloc | apply pw_below_drewN | apply below_drew1) | exact HB.out)))); have n5_ := Aside0.mk (below_step (by repeat (first | (with_reducible first | exact HB.out | apply below_alloc | apply pw_below_drewN | apply below_drew1) | exact HB.out)) hb); clear HO_4; clear HO_5; clear HO_7; clear HO_8; clear HB; have HO_4 := n0_; have HO_5 := n1_; have HO_7 := n2_; have HO_8 := n3_; have HO176 := n4_; have HB := n5_; clear n0_ n1_ n2_ n3_ n4_ n5_; clear hb ho29; obtain ⟨Ao30, co30, eo30⟩ := Kd.R_slice HO176.out; subst eo30) | ((with_reducible refine gate_callee (f := 25) rfl ?_); refine goesL_ (some 57) rfl rfl Tryd.func25 (by kernel_rfl) rfl #[.slice Ao30 y174.length co30] rfl (by (try simp only [List.map_toArray, List.map_cons, List.map_nil]); first | done | rfl | (simp only [List.length_drop, List.length_take]; rfl) | (simp only [ByteArray.size_extract, Nat.min_self]; done) | (simp only [ByteArray.size_append, StrMore.size_lit, List.length_cons, List.length_nil, Nat.zero_add, Nat.reduceAdd] <;> rfl)) ?_; (with_reducible refine (graftbedref12_Not.calls _ _ y174 t177 _ ?side1 ?side2 A26.out).mono ?_); (case side1 => repeat (first | exact (Kd.R_reads' HO176.out).2.2 | (with_reducible refine Kd.C_alloc ?_ _) | (with_reducible refine Kd.C_drewN ?_ _) | (with_reducible refine Kd.C_drew ?_))); (case side2 => exact (Kd.R_reads' HO176.out).2.1); rintro e w31 ⟨v178, rfl, ho0, hb⟩; refine ⟨_, rfl, ?_⟩; have n0_ := Aside0.mk (Kd.R_elder' (by (with_reducible repeat (first | apply Kd.R_alloc | apply Kd.R_drewN | apply Kd.R_drew)); exact HO_4.out) (Kd.R_base ho0) hb); have n1_ := Aside0.mk (Kd.R_below (by (with_reducible repeat (first | apply Kd.R_alloc | apply Kd.R_drewN | apply Kd.R_drew)); exact HO_5.out) hb); have n2_ := Aside0.mk (Kd.R_elder' (by (with_reducible repeat (first | apply Kd.R_alloc | apply Kd.R_drewN | apply Kd.R_drew)); exact HO_7.out) (Kd.R_base ho0) hb); have n3_ := Aside0.mk (Kd.R_below (by (with_reducible repeat (first | apply Kd.R_alloc | apply Kd.R_drewN | apply Kd.R_drew)); exact HO_8.out) hb); have n4_ := Aside0.mk (Kd.R_elder' (by (with_reducible repeat (first | apply Kd.R_alloc | apply Kd.R_drewN | apply Kd.R_drew)); exact HO176.out) (Kd.R_base ho0) hb); have n5_ := Aside0.mk (Kd.R_lower (Kd.R_new' (Kd.R_new' (Kd.R_new' ho0 (Kd.R_lt (by (with_reducible repeat (first | apply Kd.R_alloc | apply Kd.R_drewN | apply Kd.R_drew)); exact HO_4.out))) (Kd.R_lt (by (with_reducible repeat (first | apply Kd.R_alloc | apply Kd.R_drewN | apply Kd.R_drew)); exact HO_7.out))) (Kd.R_lt (by (with_reducible repeat (first | apply Kd.R_alloc | apply Kd.R_drewN | apply Kd.R_drew)); exact HO176.out))) (below_size (by repeat (first | (with_reducible first | exact HB.out | apply below_alloc | apply pw_below_drewN | apply below_drew1) | exact HB.out)))); have n6_ := Aside0.mk (below_step (by repeat (first | (with_reducible first | exact HB.out | apply below_alloc | apply pw_below_drewN | apply below_drew1) | exact HB.out)) hb); clear HO_4; clear HO_5; clear HO_7; clear HO_8; clear HO176; clear HB; have HO_4 := n0_; have HO_5 := n1_; have HO_7 := n2_; have HO_8 := n3_; have HO176 := n4_; have HO179 := n5_; have HB := n6_; clear n0_ n1_ n2_ n3_ n4_ n5_ n6_; (try clear hb); (try clear hb2); (try clear hk); (try clear hi); (try clear ho0)))
                                go_roundg kj19
                                case measure => have := HK1.out; have := HK2.out; have := HJ14.out; have := HJ19.out; omega
                                case rel => exact ⟨(t177), (wrap64 (x9_2 + 1)), (by first | rfl | (simp; done) | (simp [*]; done)), H', ⟨by have := HK1.out; have := HK2.out; have := HJ14.out; have := HJ19.out; omega⟩, ⟨by (with_reducible repeat (first | apply Kd.R_alloc | apply Kd.R_drewN | apply Kd.R_drew)); exact Kd.R_mono HO_4.out (fun _ hk => hk.2)⟩, ⟨by (with_reducible repeat (first | apply Kd.R_alloc | apply Kd.R_drewN | apply Kd.R_drew)); first | exact HO_5.out | (have e_ := HO_5.out; simp only [StrOrd.own_any] at e_ ⊢; exact e_)⟩, ⟨by (with_reducible repeat (first | apply Kd.R_alloc | apply Kd.R_drewN | apply Kd.R_drew)); exact Kd.R_mono HO179.out (fun _ hk => hk.1.1.2)⟩, ⟨by (with_reducible repeat (first | apply Kd.R_alloc | apply Kd.R_drewN | apply Kd.R_drew)); first | exact HO_8.out | (have e_ := HO_8.out; simp only [StrOrd.own_any] at e_ ⊢; exact e_)⟩, ⟨by repeat (first | (with_reducible first | exact HB.out | apply below_alloc | apply pw_below_drewN | apply below_drew1) | exact HB.out)⟩⟩
                              · rw [if_neg c27] at H
                                have c27b0 : (x9_2 == 0) = false := beq_eq_false_iff_ne.mpr c27
                                have c27b1 : (x9_2 != 0) = true := bne_iff_ne.mpr c27
                                replace H := Option.bind_eq_some_iff.mp H
                                obtain ⟨t180, A320, H⟩ := H
                                replace H : (graftbedref13_Line.l1 kj19 x4_1 t158 x6_1 t180 t166 (wrap64 (x9_2 + 1))) = some (r1, r2) := H
                                have A32 := Aside0.mk A320
                                clear A320
                                have H' := Aside0.mk H
                                clear H
                                go_wp2_with (first | ((with_reducible refine gate_callee (f := 53) rfl ?_); refine goesL_ (some 50) rfl rfl Tryd.func53 (by kernel_rfl) rfl #[.string x10_19] rfl (by (try simp only [List.map_toArray, List.map_cons, List.map_nil]); first | done | rfl | (simp only [List.length_drop, List.length_take]; rfl) | (simp only [ByteArray.size_extract, Nat.min_self]; done) | (simp only [ByteArray.size_append, StrMore.size_lit, List.length_cons, List.length_nil, Nat.zero_add, Nat.reduceAdd] <;> rfl)) ?_; (with_reducible refine (graftbedref12_Tag.calls kj19 x10_19 true _ A23.out).mono ?_); rintro e w' ⟨rfl, ⟨nd, rfl⟩⟩; refine ⟨_, rfl, ?_⟩) | ((with_reducible refine gate_dst (N := 54) rfl ?_); refine Kd.R_lit k61 _ 61 ?hg (N := 54) ?hd (xs := ([(⟨0, x10_19, 0, 0⟩ : S61)] : List (S61))) (inner := [.int .i64 0, .string x10_19, .int .i64 0, .int .i64 0]) (ok := fun _ => True) (okp := fun _ => True) ?hr ?hp (fun _ hk => hk) trivial (Below.refl _ _) (Nat.le_refl _) (by simp) ?_; (case hd => rfl); (case hg => rfl); (case hr => first | (go_simp; done) | (go_simp; rfl)); (case hp => exact (Reps.c4 (show Kd.M k61 _ _ _ (⟨0, x10_19, 0, 0⟩ : S61) [.int .i64 0, .string x10_19, .int .i64 0, .int .i64 0] from (k61_mkM _ _ _ (⟨0, x10_19, 0, 0⟩ : S61) )) (Reps.none _ _))); intro v175 w33 ho34 hb hg_ hnew_; clear hg_ hnew_; (first | rw [← Ny174.out] at ho34 | (simp only [Int.reduceToNat] at ho34; rw [← Ny174.out] at ho34)); have n0_ := Aside0.mk (Kd.R_elder' (by (with_reducible repeat (first | apply Kd.R_alloc | apply Kd.R_drewN | apply Kd.R_drew)); exact HO_4.out) (Kd.R_base ho34) hb); have n1_ := Aside0.mk (Kd.R_below (by (with_reducible repeat (first | apply Kd.R_alloc | apply Kd.R_drewN | apply Kd.R_drew)); exact HO_5.out) hb); have n2_ := Aside0.mk (Kd.R_elder' (by (with_reducible repeat (first | apply Kd.R_alloc | apply Kd.R_drewN | apply Kd.R_drew)); exact HO_7.out) (Kd.R_base ho34) hb); have n3_ := Aside0.mk (Kd.R_below (by (with_reducible repeat (first | apply Kd.R_alloc | apply Kd.R_drewN | apply Kd.R_drew)); exact HO_8.out) hb); have n4_ := Aside0.mk (Kd.R_lower (Kd.R_new' (Kd.R_new' ho34 (Kd.R_lt (by (with_reducible repeat (first | apply Kd.R_alloc | apply Kd.R_drewN | apply Kd.R_drew)); exact HO_4.out))) (Kd.R_lt (by (with_reducible repeat (first | apply Kd.R_alloc | apply Kd.R_drewN | apply Kd.R_drew)); exact HO_7.out))) (below_size (by repeat (first | (with_reducible first | exact HB.out | apply below_alloc | apply pw_below_drewN | apply below_drew1) | exact HB.out)))); have n5_ := Aside0.mk (below_step (by repeat (first | (with_reducible first | exact HB.out | apply below_alloc | apply pw_below_drewN | apply below_drew1) | exact HB.out)) hb); clear HO_4; clear HO_5; clear HO_7; clear HO_8; clear HB; have HO_4 := n0_; have HO_5 := n1_; have HO_7 := n2_; have HO_8 := n3_; have HO176 := n4_; have HB := n5_; clear n0_ n1_ n2_ n3_ n4_ n5_; clear hb ho34; obtain ⟨Ao35, co35, eo35⟩ := Kd.R_slice HO176.out; subst eo35) | ((with_reducible refine gate_callee (f := 25) rfl ?_); refine goesL_ (some 57) rfl rfl Tryd.func25 (by kernel_rfl) rfl #[.slice Ao35 y174.length co35] rfl (by (try simp only [List.map_toArray, List.map_cons, List.map_nil]); first | done | rfl | (simp only [List.length_drop, List.length_take]; rfl) | (simp only [ByteArray.size_extract, Nat.min_self]; done) | (simp only [ByteArray.size_append, StrMore.size_lit, List.length_cons, List.length_nil, Nat.zero_add, Nat.reduceAdd] <;> rfl)) ?_; (with_reducible refine (graftbedref12_Not.calls _ _ y174 t177 _ ?side1 ?side2 A26.out).mono ?_); (case side1 => repeat (first | exact (Kd.R_reads' HO176.out).2.2 | (with_reducible refine Kd.C_alloc ?_ _) | (with_reducible refine Kd.C_drewN ?_ _) | (with_reducible refine Kd.C_drew ?_))); (case side2 => exact (Kd.R_reads' HO176.out).2.1); rintro e w36 ⟨v178, rfl, ho0, hb⟩; refine ⟨_, rfl, ?_⟩; have n0_ := Aside0.mk (Kd.R_elder' (by (with_reducible repeat (first | apply Kd.R_alloc | apply Kd.R_drewN | apply Kd.R_drew)); exact HO_4.out) (Kd.R_base ho0) hb); have n1_ := Aside0.mk (Kd.R_below (by (with_reducible repeat (first | apply Kd.R_alloc | apply Kd.R_drewN | apply Kd.R_drew)); exact HO_5.out) hb); have n2_ := Aside0.mk (Kd.R_elder' (by (with_reducible repeat (first | apply Kd.R_alloc | apply Kd.R_drewN | apply Kd.R_drew)); exact HO_7.out) (Kd.R_base ho0) hb); have n3_ := Aside0.mk (Kd.R_below (by (with_reducible repeat (first | apply Kd.R_alloc | apply Kd.R_drewN | apply Kd.R_drew)); exact HO_8.out) hb); have n4_ := Aside0.mk (Kd.R_elder' (by (with_reducible repeat (first | apply Kd.R_alloc | apply Kd.R_drewN | apply Kd.R_drew)); exact HO176.out) (Kd.R_base ho0) hb); have n5_ := Aside0.mk (Kd.R_lower (Kd.R_new' (Kd.R_new' (Kd.R_new' ho0 (Kd.R_lt (by (with_reducible repeat (first | apply Kd.R_alloc | apply Kd.R_drewN | apply Kd.R_drew)); exact HO_4.out))) (Kd.R_lt (by (with_reducible repeat (first | apply Kd.R_alloc | apply Kd.R_drewN | apply Kd.R_drew)); exact HO_7.out))) (Kd.R_lt (by (with_reducible repeat (first | apply Kd.R_alloc | apply Kd.R_drewN | apply Kd.R_drew)); exact HO176.out))) (below_size (by repeat (first | (with_reducible first | exact HB.out | apply below_alloc | apply pw_below_drewN | apply below_drew1) | exact HB.out)))); have n6_ := Aside0.mk (below_step (by repeat (first | (with_reducible first | exact HB.out | apply below_alloc | apply pw_below_drewN | apply below_drew1) | exact HB.out)) hb); clear HO_4; clear HO_5; clear HO_7; clear HO_8; clear HO176; clear HB; have HO_4 := n0_; have HO_5 := n1_; have HO_7 := n2_; have HO_8 := n3_; have HO176 := n4_; have HO179 := n5_; have HB := n6_; clear n0_ n1_ n2_ n3_ n4_ n5_ n6_; (try clear hb); (try clear hb2); (try clear hk); (try clear hi); (try clear ho0); obtain ⟨Ao37, co37, eo37⟩ := Kd.R_slice HO_7.out; subst eo37; obtain ⟨Ao38, co38, eo38⟩ := Kd.R_slice HO179.out; subst eo38) | ((with_reducible refine gate_callee (f := 23) rfl ?_); refine goesL_ (some 63) rfl rfl Tryd.func23 (by kernel_rfl) rfl #[.slice Ao37 x7_2.length co37, .slice Ao38 t177.length co38] rfl (by (try simp only [List.map_toArray, List.map_cons, List.map_nil]); first | done | rfl | (simp only [List.length_drop, List.length_take]; rfl) | (simp only [ByteArray.size_extract, Nat.min_self]; done) | (simp only [ByteArray.size_append, StrMore.size_lit, List.length_cons, List.length_nil, Nat.zero_add, Nat.reduceAdd] <;> rfl)) ?_; (with_reducible refine (graftbedref12_And.calls _ _ x7_2 _ _ t177 t180 _ ?side1 ?side2 ?side3 ?side4 A32.out).mono ?_); (case side1 => repeat (first | exact (Kd.R_reads' HO_7.out).2.2 | (with_reducible refine Kd.C_alloc ?_ _) | (with_reducible refine Kd.C_drewN ?_ _) | (with_reducible refine Kd.C_drew ?_))); (case side2 => exact (Kd.R_reads' HO_7.out).2.1); (case side3 => repeat (first | exact (Kd.R_reads' HO179.out).2.2 | (with_reducible refine Kd.C_alloc ?_ _) | (with_reducible refine Kd.C_drewN ?_ _) | (with_reducible refine Kd.C_drew ?_))); (case side4 => exact (Kd.R_reads' HO179.out).2.1); rintro e w39 ⟨v181, rfl, ho0, hb⟩; refine ⟨_, rfl, ?_⟩; have n0_ := Aside0.mk (Kd.R_elder' (by (with_reducible repeat (first | apply Kd.R_alloc | apply Kd.R_drewN | apply Kd.R_drew)); exact HO_4.out) (Kd.R_base ho0) hb); have n1_ := Aside0.mk (Kd.R_below (by (with_reducible repeat (first | apply Kd.R_alloc | apply Kd.R_drewN | apply Kd.R_drew)); exact HO_5.out) hb); have n2_ := Aside0.mk (Kd.R_elder' (by (with_reducible repeat (first | apply Kd.R_alloc | apply Kd.R_drewN | apply Kd.R_drew)); exact HO_7.out) (Kd.R_base ho0) hb); have n3_ := Aside0.mk (Kd.R_below (by (with_reducible repeat (first | apply Kd.R_alloc | apply Kd.R_drewN | apply Kd.R_drew)); exact HO_8.out) hb); have n4_ := Aside0.mk (Kd.R_elder' (by (with_reducible repeat (first | apply Kd.R_alloc | apply Kd.R_drewN | apply Kd.R_drew)); exact HO176.out) (Kd.R_base ho0) hb); have n5_ := Aside0.mk (Kd.R_elder' (by (with_reducible repeat (first | apply Kd.R_alloc | apply Kd.R_drewN | apply Kd.R_drew)); exact HO179.out) (Kd.R_base ho0) hb); have n6_ := Aside0.mk (Kd.R_lower (Kd.R_new' (Kd.R_new' (Kd.R_new' (Kd.R_new' ho0 (Kd.R_lt (by (with_reducible repeat (first | apply Kd.R_alloc | apply Kd.R_drewN | apply Kd.R_drew)); exact HO_4.out))) (Kd.R_lt (by (with_reducible repeat (first | apply Kd.R_alloc | apply Kd.R_drewN | apply Kd.R_drew)); exact HO_7.out))) (Kd.R_lt (by (with_reducible repeat (first | apply Kd.R_alloc | apply Kd.R_drewN | apply Kd.R_drew)); exact HO176.out))) (Kd.R_lt (by (with_reducible repeat (first | apply Kd.R_alloc | apply Kd.R_drewN | apply Kd.R_drew)); exact HO179.out))) (below_size (by repeat (first | (with_reducible first | exact HB.out | apply below_alloc | apply pw_below_drewN | apply below_drew1) | exact HB.out)))); have n7_ := Aside0.mk (below_step (by repeat (first | (with_reducible first | exact HB.out | apply below_alloc | apply pw_below_drewN | apply below_drew1) | exact HB.out)) hb); clear HO_4; clear HO_5; clear HO_7; clear HO_8; clear HO176; clear HO179; clear HB; have HO_4 := n0_; have HO_5 := n1_; have HO_7 := n2_; have HO_8 := n3_; have HO176 := n4_; have HO179 := n5_; have HO182 := n6_; have HB := n7_; clear n0_ n1_ n2_ n3_ n4_ n5_ n6_ n7_; (try clear hb); (try clear hb2); (try clear hk); (try clear hi); (try clear ho0)))
                                go_roundg kj19
                                case measure => have := HK1.out; have := HK2.out; have := HJ14.out; have := HJ19.out; omega
                                case rel => exact ⟨(t180), (wrap64 (x9_2 + 1)), (by first | rfl | (simp; done) | (simp [*]; done)), H', ⟨by have := HK1.out; have := HK2.out; have := HJ14.out; have := HJ19.out; omega⟩, ⟨by (with_reducible repeat (first | apply Kd.R_alloc | apply Kd.R_drewN | apply Kd.R_drew)); exact Kd.R_mono HO_4.out (fun _ hk => hk.2)⟩, ⟨by (with_reducible repeat (first | apply Kd.R_alloc | apply Kd.R_drewN | apply Kd.R_drew)); first | exact HO_5.out | (have e_ := HO_5.out; simp only [StrOrd.own_any] at e_ ⊢; exact e_)⟩, ⟨by (with_reducible repeat (first | apply Kd.R_alloc | apply Kd.R_drewN | apply Kd.R_drew)); exact Kd.R_mono HO182.out (fun _ hk => hk.1.1.1.2)⟩, ⟨by (with_reducible repeat (first | apply Kd.R_alloc | apply Kd.R_drewN | apply Kd.R_drew)); first | exact HO_8.out | (have e_ := HO_8.out; simp only [StrOrd.own_any] at e_ ⊢; exact e_)⟩, ⟨by repeat (first | (with_reducible first | exact HB.out | apply below_alloc | apply pw_below_drewN | apply below_drew1) | exact HB.out)⟩⟩
                            · replace c25 := Bool.eq_false_iff.mpr c25
                              subst c25
                              have H1 : (if x9_2 = 0 then (graftbedref13_Line.l1 kj19 x4_1 t158 x6_1 y174 t166 (wrap64 (x9_2 + 1))) else ((graftbedref12_And.f x7_2 y174).bind fun t183 => (graftbedref13_Line.l1 kj19 x4_1 t158 x6_1 t183 t166 (wrap64 (x9_2 + 1))))) = some (r1, r2) := by rw [if_neg (show ¬ (false = true) by decide)] at H; exact H
                              clear H
                              have H := H1
                              clear H1
                              by_cases c40 : x9_2 = 0
                              · rw [if_pos c40] at H
                                have c40b0 : (x9_2 == 0) = true := beq_iff_eq.mpr c40
                                have c40b1 : (x9_2 != 0) = false := bne_eq_false_iff_eq.mpr c40
                                clear c40
                                have H' := Aside0.mk H
                                clear H
                                go_wp2_with (first | ((with_reducible refine gate_callee (f := 53) rfl ?_); refine goesL_ (some 50) rfl rfl Tryd.func53 (by kernel_rfl) rfl #[.string x10_19] rfl (by (try simp only [List.map_toArray, List.map_cons, List.map_nil]); first | done | rfl | (simp only [List.length_drop, List.length_take]; rfl) | (simp only [ByteArray.size_extract, Nat.min_self]; done) | (simp only [ByteArray.size_append, StrMore.size_lit, List.length_cons, List.length_nil, Nat.zero_add, Nat.reduceAdd] <;> rfl)) ?_; (with_reducible refine (graftbedref12_Tag.calls kj19 x10_19 true _ A23.out).mono ?_); rintro e w' ⟨rfl, ⟨nd, rfl⟩⟩; refine ⟨_, rfl, ?_⟩) | ((with_reducible refine gate_dst (N := 54) rfl ?_); refine Kd.R_lit k61 _ 61 ?hg (N := 54) ?hd (xs := ([(⟨0, x10_19, 0, 0⟩ : S61)] : List (S61))) (inner := [.int .i64 0, .string x10_19, .int .i64 0, .int .i64 0]) (ok := fun _ => True) (okp := fun _ => True) ?hr ?hp (fun _ hk => hk) trivial (Below.refl _ _) (Nat.le_refl _) (by simp) ?_; (case hd => rfl); (case hg => rfl); (case hr => first | (go_simp; done) | (go_simp; rfl)); (case hp => exact (Reps.c4 (show Kd.M k61 _ _ _ (⟨0, x10_19, 0, 0⟩ : S61) [.int .i64 0, .string x10_19, .int .i64 0, .int .i64 0] from (k61_mkM _ _ _ (⟨0, x10_19, 0, 0⟩ : S61) )) (Reps.none _ _))); intro v175 w41 ho42 hb hg_ hnew_; clear hg_ hnew_; (first | rw [← Ny174.out] at ho42 | (simp only [Int.reduceToNat] at ho42; rw [← Ny174.out] at ho42)); have n0_ := Aside0.mk (Kd.R_elder' (by (with_reducible repeat (first | apply Kd.R_alloc | apply Kd.R_drewN | apply Kd.R_drew)); exact HO_4.out) (Kd.R_base ho42) hb); have n1_ := Aside0.mk (Kd.R_below (by (with_reducible repeat (first | apply Kd.R_alloc | apply Kd.R_drewN | apply Kd.R_drew)); exact HO_5.out) hb); have n2_ := Aside0.mk (Kd.R_elder' (by (with_reducible repeat (first | apply Kd.R_alloc | apply Kd.R_drewN | apply Kd.R_drew)); exact HO_7.out) (Kd.R_base ho42) hb); have n3_ := Aside0.mk (Kd.R_below (by (with_reducible repeat (first | apply Kd.R_alloc | apply Kd.R_drewN | apply Kd.R_drew)); exact HO_8.out) hb); have n4_ := Aside0.mk (Kd.R_lower (Kd.R_new' (Kd.R_new' ho42 (Kd.R_lt (by (with_reducible repeat (first | apply Kd.R_alloc | apply Kd.R_drewN | apply Kd.R_drew)); exact HO_4.out))) (Kd.R_lt (by (with_reducible repeat (first | apply Kd.R_alloc | apply Kd.R_drewN | apply Kd.R_drew)); exact HO_7.out))) (below_size (by repeat (first | (with_reducible first | exact HB.out | apply below_alloc | apply pw_below_drewN | apply below_drew1) | exact HB.out)))); have n5_ := Aside0.mk (below_step (by repeat (first | (with_reducible first | exact HB.out | apply below_alloc | apply pw_below_drewN | apply below_drew1) | exact HB.out)) hb); clear HO_4; clear HO_5; clear HO_7; clear HO_8; clear HB; have HO_4 := n0_; have HO_5 := n1_; have HO_7 := n2_; have HO_8 := n3_; have HO176 := n4_; have HB := n5_; clear n0_ n1_ n2_ n3_ n4_ n5_; clear hb ho42))
                                go_roundg kj19
                                case measure => have := HK1.out; have := HK2.out; have := HJ14.out; have := HJ19.out; omega
                                case rel => exact ⟨(y174), (wrap64 (x9_2 + 1)), (by first | rfl | (simp; done) | (simp [*]; done)), H', ⟨by have := HK1.out; have := HK2.out; have := HJ14.out; have := HJ19.out; omega⟩, ⟨by (with_reducible repeat (first | apply Kd.R_alloc | apply Kd.R_drewN | apply Kd.R_drew)); exact Kd.R_mono HO_4.out (fun _ hk => hk.2)⟩, ⟨by (with_reducible repeat (first | apply Kd.R_alloc | apply Kd.R_drewN | apply Kd.R_drew)); first | exact HO_5.out | (have e_ := HO_5.out; simp only [StrOrd.own_any] at e_ ⊢; exact e_)⟩, ⟨by (with_reducible repeat (first | apply Kd.R_alloc | apply Kd.R_drewN | apply Kd.R_drew)); exact Kd.R_mono HO176.out (fun _ hk => hk.1.2)⟩, ⟨by (with_reducible repeat (first | apply Kd.R_alloc | apply Kd.R_drewN | apply Kd.R_drew)); first | exact HO_8.out | (have e_ := HO_8.out; simp only [StrOrd.own_any] at e_ ⊢; exact e_)⟩, ⟨by repeat (first | (with_reducible first | exact HB.out | apply below_alloc | apply pw_below_drewN | apply below_drew1) | exact HB.out)⟩⟩
                              · rw [if_neg c40] at H
                                have c40b0 : (x9_2 == 0) = false := beq_eq_false_iff_ne.mpr c40
                                have c40b1 : (x9_2 != 0) = true := bne_iff_ne.mpr c40
                                replace H := Option.bind_eq_some_iff.mp H
                                obtain ⟨t183, A430, H⟩ := H
                                replace H : (graftbedref13_Line.l1 kj19 x4_1 t158 x6_1 t183 t166 (wrap64 (x9_2 + 1))) = some (r1, r2) := H
                                have A43 := Aside0.mk A430
                                clear A430
                                have H' := Aside0.mk H
                                clear H
                                go_wp2_with (first | ((with_reducible refine gate_callee (f := 53) rfl ?_); refine goesL_ (some 50) rfl rfl Tryd.func53 (by kernel_rfl) rfl #[.string x10_19] rfl (by (try simp only [List.map_toArray, List.map_cons, List.map_nil]); first | done | rfl | (simp only [List.length_drop, List.length_take]; rfl) | (simp only [ByteArray.size_extract, Nat.min_self]; done) | (simp only [ByteArray.size_append, StrMore.size_lit, List.length_cons, List.length_nil, Nat.zero_add, Nat.reduceAdd] <;> rfl)) ?_; (with_reducible refine (graftbedref12_Tag.calls kj19 x10_19 true _ A23.out).mono ?_); rintro e w' ⟨rfl, ⟨nd, rfl⟩⟩; refine ⟨_, rfl, ?_⟩) | ((with_reducible refine gate_dst (N := 54) rfl ?_); refine Kd.R_lit k61 _ 61 ?hg (N := 54) ?hd (xs := ([(⟨0, x10_19, 0, 0⟩ : S61)] : List (S61))) (inner := [.int .i64 0, .string x10_19, .int .i64 0, .int .i64 0]) (ok := fun _ => True) (okp := fun _ => True) ?hr ?hp (fun _ hk => hk) trivial (Below.refl _ _) (Nat.le_refl _) (by simp) ?_; (case hd => rfl); (case hg => rfl); (case hr => first | (go_simp; done) | (go_simp; rfl)); (case hp => exact (Reps.c4 (show Kd.M k61 _ _ _ (⟨0, x10_19, 0, 0⟩ : S61) [.int .i64 0, .string x10_19, .int .i64 0, .int .i64 0] from (k61_mkM _ _ _ (⟨0, x10_19, 0, 0⟩ : S61) )) (Reps.none _ _))); intro v175 w44 ho45 hb hg_ hnew_; clear hg_ hnew_; (first | rw [← Ny174.out] at ho45 | (simp only [Int.reduceToNat] at ho45; rw [← Ny174.out] at ho45)); have n0_ := Aside0.mk (Kd.R_elder' (by (with_reducible repeat (first | apply Kd.R_alloc | apply Kd.R_drewN | apply Kd.R_drew)); exact HO_4.out) (Kd.R_base ho45) hb); have n1_ := Aside0.mk (Kd.R_below (by (with_reducible repeat (first | apply Kd.R_alloc | apply Kd.R_drewN | apply Kd.R_drew)); exact HO_5.out) hb); have n2_ := Aside0.mk (Kd.R_elder' (by (with_reducible repeat (first | apply Kd.R_alloc | apply Kd.R_drewN | apply Kd.R_drew)); exact HO_7.out) (Kd.R_base ho45) hb); have n3_ := Aside0.mk (Kd.R_below (by (with_reducible repeat (first | apply Kd.R_alloc | apply Kd.R_drewN | apply Kd.R_drew)); exact HO_8.out) hb); have n4_ := Aside0.mk (Kd.R_lower (Kd.R_new' (Kd.R_new' ho45 (Kd.R_lt (by (with_reducible repeat (first | apply Kd.R_alloc | apply Kd.R_drewN | apply Kd.R_drew)); exact HO_4.out))) (Kd.R_lt (by (with_reducible repeat (first | apply Kd.R_alloc | apply Kd.R_drewN | apply Kd.R_drew)); exact HO_7.out))) (below_size (by repeat (first | (with_reducible first | exact HB.out | apply below_alloc | apply pw_below_drewN | apply below_drew1) | exact HB.out)))); have n5_ := Aside0.mk (below_step (by repeat (first | (with_reducible first | exact HB.out | apply below_alloc | apply pw_below_drewN | apply below_drew1) | exact HB.out)) hb); clear HO_4; clear HO_5; clear HO_7; clear HO_8; clear HB; have HO_4 := n0_; have HO_5 := n1_; have HO_7 := n2_; have HO_8 := n3_; have HO176 := n4_; have HB := n5_; clear n0_ n1_ n2_ n3_ n4_ n5_; clear hb ho45; obtain ⟨Ao46, co46, eo46⟩ := Kd.R_slice HO_7.out; subst eo46; obtain ⟨Ao47, co47, eo47⟩ := Kd.R_slice HO176.out; subst eo47) | ((with_reducible refine gate_callee (f := 23) rfl ?_); refine goesL_ (some 63) rfl rfl Tryd.func23 (by kernel_rfl) rfl #[.slice Ao46 x7_2.length co46, .slice Ao47 y174.length co47] rfl (by (try simp only [List.map_toArray, List.map_cons, List.map_nil]); first | done | rfl | (simp only [List.length_drop, List.length_take]; rfl) | (simp only [ByteArray.size_extract, Nat.min_self]; done) | (simp only [ByteArray.size_append, StrMore.size_lit, List.length_cons, List.length_nil, Nat.zero_add, Nat.reduceAdd] <;> rfl)) ?_; (with_reducible refine (graftbedref12_And.calls _ _ x7_2 _ _ y174 t183 _ ?side1 ?side2 ?side3 ?side4 A43.out).mono ?_); (case side1 => repeat (first | exact (Kd.R_reads' HO_7.out).2.2 | (with_reducible refine Kd.C_alloc ?_ _) | (with_reducible refine Kd.C_drewN ?_ _) | (with_reducible refine Kd.C_drew ?_))); (case side2 => exact (Kd.R_reads' HO_7.out).2.1); (case side3 => repeat (first | exact (Kd.R_reads' HO176.out).2.2 | (with_reducible refine Kd.C_alloc ?_ _) | (with_reducible refine Kd.C_drewN ?_ _) | (with_reducible refine Kd.C_drew ?_))); (case side4 => exact (Kd.R_reads' HO176.out).2.1); rintro e w48 ⟨v184, rfl, ho0, hb⟩; refine ⟨_, rfl, ?_⟩; have n0_ := Aside0.mk (Kd.R_elder' (by (with_reducible repeat (first | apply Kd.R_alloc | apply Kd.R_drewN | apply Kd.R_drew)); exact HO_4.out) (Kd.R_base ho0) hb); have n1_ := Aside0.mk (Kd.R_below (by (with_reducible repeat (first | apply Kd.R_alloc | apply Kd.R_drewN | apply Kd.R_drew)); exact HO_5.out) hb); have n2_ := Aside0.mk (Kd.R_elder' (by (with_reducible repeat (first | apply Kd.R_alloc | apply Kd.R_drewN | apply Kd.R_drew)); exact HO_7.out) (Kd.R_base ho0) hb); have n3_ := Aside0.mk (Kd.R_below (by (with_reducible repeat (first | apply Kd.R_alloc | apply Kd.R_drewN | apply Kd.R_drew)); exact HO_8.out) hb); have n4_ := Aside0.mk (Kd.R_elder' (by (with_reducible repeat (first | apply Kd.R_alloc | apply Kd.R_drewN | apply Kd.R_drew)); exact HO176.out) (Kd.R_base ho0) hb); have n5_ := Aside0.mk (Kd.R_lower (Kd.R_new' (Kd.R_new' (Kd.R_new' ho0 (Kd.R_lt (by (with_reducible repeat (first | apply Kd.R_alloc | apply Kd.R_drewN | apply Kd.R_drew)); exact HO_4.out))) (Kd.R_lt (by (with_reducible repeat (first | apply Kd.R_alloc | apply Kd.R_drewN | apply Kd.R_drew)); exact HO_7.out))) (Kd.R_lt (by (with_reducible repeat (first | apply Kd.R_alloc | apply Kd.R_drewN | apply Kd.R_drew)); exact HO176.out))) (below_size (by repeat (first | (with_reducible first | exact HB.out | apply below_alloc | apply pw_below_drewN | apply below_drew1) | exact HB.out)))); have n6_ := Aside0.mk (below_step (by repeat (first | (with_reducible first | exact HB.out | apply below_alloc | apply pw_below_drewN | apply below_drew1) | exact HB.out)) hb); clear HO_4; clear HO_5; clear HO_7; clear HO_8; clear HO176; clear HB; have HO_4 := n0_; have HO_5 := n1_; have HO_7 := n2_; have HO_8 := n3_; have HO176 := n4_; have HO185 := n5_; have HB := n6_; clear n0_ n1_ n2_ n3_ n4_ n5_ n6_; (try clear hb); (try clear hb2); (try clear hk); (try clear hi); (try clear ho0)))
                                go_roundg kj19
                                case measure => have := HK1.out; have := HK2.out; have := HJ14.out; have := HJ19.out; omega
                                case rel => exact ⟨(t183), (wrap64 (x9_2 + 1)), (by first | rfl | (simp; done) | (simp [*]; done)), H', ⟨by have := HK1.out; have := HK2.out; have := HJ14.out; have := HJ19.out; omega⟩, ⟨by (with_reducible repeat (first | apply Kd.R_alloc | apply Kd.R_drewN | apply Kd.R_drew)); exact Kd.R_mono HO_4.out (fun _ hk => hk.2)⟩, ⟨by (with_reducible repeat (first | apply Kd.R_alloc | apply Kd.R_drewN | apply Kd.R_drew)); first | exact HO_5.out | (have e_ := HO_5.out; simp only [StrOrd.own_any] at e_ ⊢; exact e_)⟩, ⟨by (with_reducible repeat (first | apply Kd.R_alloc | apply Kd.R_drewN | apply Kd.R_drew)); exact Kd.R_mono HO185.out (fun _ hk => hk.1.1.2)⟩, ⟨by (with_reducible repeat (first | apply Kd.R_alloc | apply Kd.R_drewN | apply Kd.R_drew)); first | exact HO_8.out | (have e_ := HO_8.out; simp only [StrOrd.own_any] at e_ ⊢; exact e_)⟩, ⟨by repeat (first | (with_reducible first | exact HB.out | apply below_alloc | apply pw_below_drewN | apply below_drew1) | exact HB.out)⟩⟩
                          · replace c24 := Bool.eq_false_iff.mpr c24
                            subst c24
                            have H1 : (some (([] : List (S61)), 120)) = some (r1, r2) := by rw [if_neg (show ¬ (false = true) by decide)] at H; exact H
                            clear H
                            have H := H1
                            clear H1
                            simp only [Option.some.injEq, Prod.mk.injEq] at H
                            obtain ⟨rfl, rfl⟩ := H
                            go_wp2_with (first | ((with_reducible refine gate_callee (f := 53) rfl ?_); refine goesL_ (some 50) rfl rfl Tryd.func53 (by kernel_rfl) rfl #[.string x10_19] rfl (by (try simp only [List.map_toArray, List.map_cons, List.map_nil]); first | done | rfl | (simp only [List.length_drop, List.length_take]; rfl) | (simp only [ByteArray.size_extract, Nat.min_self]; done) | (simp only [ByteArray.size_append, StrMore.size_lit, List.length_cons, List.length_nil, Nat.zero_add, Nat.reduceAdd] <;> rfl)) ?_; (with_reducible refine (graftbedref12_Tag.calls kj19 x10_19 false _ A23.out).mono ?_); rintro e w' ⟨rfl, ⟨nd, rfl⟩⟩; refine ⟨_, rfl, ?_⟩))
                            go_ret2
                            exact ⟨_, by first | rfl | (simp [errW_none, errW_some] <;> rfl) | (simp [*, errW_none, errW_some] <;> rfl), by first | exact Kd.R_nil _ _ _ _ _ | exact Kd.N_nil _ _ _ _ _ | exact Kd.V_nil _ _ _ _ _ | exact Kd.Q_nil _ _ _ _ _ | exact Kd.S_nil _ _ _ _ _, by repeat (first | (with_reducible first | exact HB.out | apply below_alloc | apply pw_below_drewN | apply below_drew1) | exact HB.out)⟩
                · rw [if_neg c14] at H
                  exact absurd H (by simp)
              · rw [if_neg c13] at H
                have c13b0 : decide (x9_2 < (t166.length : Int)) = false := decide_eq_false c13
                clear c13
                by_cases c49 : x6_1 = 0
                · rw [if_pos c49] at H
                  have c49b0 : (x6_1 == 0) = true := beq_iff_eq.mpr c49
                  have c49b1 : (x6_1 != 0) = false := bne_eq_false_iff_eq.mpr c49
                  clear c49
                  have H' := Aside0.mk H
                  clear H
                  obtain ⟨Ao50, co50, eo50⟩ := Kd.R_slice HO_8.out
                  subst eo50
                  go_wp2
                  go_roundg k2
                  case measure => have := HK1.out; have := HK2.out; omega
                  case rel => exact ⟨(x7_2), (wrap64 (x6_1 + 1)), (by first | rfl | (simp; done) | (simp [*]; done)), H', ⟨by have := HK1.out; have := HK2.out; omega⟩, ⟨by (with_reducible repeat (first | apply Kd.R_alloc | apply Kd.R_drewN | apply Kd.R_drew)); exact Kd.R_mono HO_7.out (fun _ hk => trivial)⟩, ⟨by (with_reducible repeat (first | apply Kd.R_alloc | apply Kd.R_drewN | apply Kd.R_drew)); exact Kd.R_mono HO_5.out (fun _ hk => trivial)⟩, ⟨by repeat (first | (with_reducible first | exact HB.out | apply below_alloc | apply pw_below_drewN | apply below_drew1) | exact HB.out)⟩⟩
                · rw [if_neg c49] at H
                  have c49b0 : (x6_1 == 0) = false := beq_eq_false_iff_ne.mpr c49
                  have c49b1 : (x6_1 != 0) = true := bne_iff_ne.mpr c49
                  replace H := Option.bind_eq_some_iff.mp H
                  obtain ⟨t169, A510, H⟩ := H
                  replace H : (graftbedref13_Line.l0 k2 t169 t158 (wrap64 (x6_1 + 1))) = some (r1, r2) := H
                  have A51 := Aside0.mk A510
                  clear A510
                  have H' := Aside0.mk H
                  clear H
                  obtain ⟨Ao52, co52, eo52⟩ := Kd.R_slice HO_8.out
                  subst eo52
                  obtain ⟨Ao53, co53, eo53⟩ := Kd.R_slice HO_4.out
                  subst eo53
                  obtain ⟨Ao54, co54, eo54⟩ := Kd.R_slice HO_7.out
                  subst eo54
                  go_wp2_with (first | ((with_reducible refine gate_callee (f := 24) rfl ?_); refine goesL_ (some 69) rfl rfl Tryd.func24 (by kernel_rfl) rfl #[.slice Ao53 x4_1.length co53, .slice Ao54 x7_2.length co54] rfl (by (try simp only [List.map_toArray, List.map_cons, List.map_nil]); first | done | rfl | (simp only [List.length_drop, List.length_take]; rfl) | (simp only [ByteArray.size_extract, Nat.min_self]; done) | (simp only [ByteArray.size_append, StrMore.size_lit, List.length_cons, List.length_nil, Nat.zero_add, Nat.reduceAdd] <;> rfl)) ?_; (with_reducible refine (graftbedref12_Or.calls _ _ x4_1 _ _ x7_2 t169 _ ?side1 ?side2 ?side3 ?side4 A51.out).mono ?_); (case side1 => repeat (first | exact (Kd.R_reads' HO_4.out).2.2 | (with_reducible refine Kd.C_alloc ?_ _) | (with_reducible refine Kd.C_drewN ?_ _) | (with_reducible refine Kd.C_drew ?_))); (case side2 => exact (Kd.R_reads' HO_4.out).2.1); (case side3 => repeat (first | exact (Kd.R_reads' HO_7.out).2.2 | (with_reducible refine Kd.C_alloc ?_ _) | (with_reducible refine Kd.C_drewN ?_ _) | (with_reducible refine Kd.C_drew ?_))); (case side4 => exact (Kd.R_reads' HO_7.out).2.1); rintro e w55 ⟨v170, rfl, ho0, hb⟩; refine ⟨_, rfl, ?_⟩; have n0_ := Aside0.mk (Kd.R_elder' (by (with_reducible repeat (first | apply Kd.R_alloc | apply Kd.R_drewN | apply Kd.R_drew)); exact HO_4.out) (Kd.R_base ho0) hb); have n1_ := Aside0.mk (Kd.R_below (by (with_reducible repeat (first | apply Kd.R_alloc | apply Kd.R_drewN | apply Kd.R_drew)); exact HO_5.out) hb); have n2_ := Aside0.mk (Kd.R_elder' (by (with_reducible repeat (first | apply Kd.R_alloc | apply Kd.R_drewN | apply Kd.R_drew)); exact HO_7.out) (Kd.R_base ho0) hb); have n3_ := Aside0.mk (Kd.R_below (by (with_reducible repeat (first | apply Kd.R_alloc | apply Kd.R_drewN | apply Kd.R_drew)); exact HO_8.out) hb); have n4_ := Aside0.mk (Kd.R_lower (Kd.R_new' (Kd.R_new' ho0 (Kd.R_lt (by (with_reducible repeat (first | apply Kd.R_alloc | apply Kd.R_drewN | apply Kd.R_drew)); exact HO_4.out))) (Kd.R_lt (by (with_reducible repeat (first | apply Kd.R_alloc | apply Kd.R_drewN | apply Kd.R_drew)); exact HO_7.out))) (below_size (by repeat (first | (with_reducible first | exact HB.out | apply below_alloc | apply pw_below_drewN | apply below_drew1) | exact HB.out)))); have n5_ := Aside0.mk (below_step (by repeat (first | (with_reducible first | exact HB.out | apply below_alloc | apply pw_below_drewN | apply below_drew1) | exact HB.out)) hb); clear HO_4; clear HO_5; clear HO_7; clear HO_8; clear HB; have HO_4 := n0_; have HO_5 := n1_; have HO_7 := n2_; have HO_8 := n3_; have HO171 := n4_; have HB := n5_; clear n0_ n1_ n2_ n3_ n4_ n5_; (try clear hb); (try clear hb2); (try clear hk); (try clear hi); (try clear ho0)))
                  go_roundg k2
                  case measure => have := HK1.out; have := HK2.out; omega
                  case rel => exact ⟨(t169), (wrap64 (x6_1 + 1)), (by first | rfl | (simp; done) | (simp [*]; done)), H', ⟨by have := HK1.out; have := HK2.out; omega⟩, ⟨by (with_reducible repeat (first | apply Kd.R_alloc | apply Kd.R_drewN | apply Kd.R_drew)); exact Kd.R_mono HO171.out (fun _ hk => trivial)⟩, ⟨by (with_reducible repeat (first | apply Kd.R_alloc | apply Kd.R_drewN | apply Kd.R_drew)); exact Kd.R_mono HO_5.out (fun _ hk => trivial)⟩, ⟨by repeat (first | (with_reducible first | exact HB.out | apply below_alloc | apply pw_below_drewN | apply below_drew1) | exact HB.out)⟩⟩
        · rw [if_neg c7] at H
          exact absurd H (by simp)
      · rw [if_neg c6] at H
        have c6b0 : decide (x6_1 < (t158.length : Int)) = false := decide_eq_false c6
        clear c6
        replace H := Option.bind_eq_some_iff.mp H
        obtain ⟨t161, A560, H⟩ := H
        replace H : (if t161 = 0 then (some (x4_1, 0)) else (some (([] : List (S61)), 120))) = some (r1, r2) := H
        have A56 := Aside0.mk A560
        clear A560
        by_cases c57 : t161 = 0
        · rw [if_pos c57] at H
          have c57b0 : (t161 == 0) = true := beq_iff_eq.mpr c57
          have c57b1 : (t161 != 0) = false := bne_eq_false_iff_eq.mpr c57
          clear c57
          simp only [Option.some.injEq, Prod.mk.injEq] at H
          obtain ⟨rfl, rfl⟩ := H
          obtain ⟨Ao58, co58, eo58⟩ := Kd.R_slice HO_5.out
          subst eo58
          obtain ⟨Ao59, co59, eo59⟩ := Kd.R_slice HO_4.out
          subst eo59
          go_wp2_with (first | ((with_reducible refine gate_callee (f := 15) rfl ?_); refine goesL_ (some 71) rfl rfl Tryd.func15 (by kernel_rfl) rfl #[.slice Ao59 x4_1.length co59] rfl (by (try simp only [List.map_toArray, List.map_cons, List.map_nil]); first | done | rfl | (simp only [List.length_drop, List.length_take]; rfl) | (simp only [ByteArray.size_extract, Nat.min_self]; done) | (simp only [ByteArray.size_append, StrMore.size_lit, List.length_cons, List.length_nil, Nat.zero_add, Nat.reduceAdd] <;> rfl)) ?_; (with_reducible refine (graftbedref12_Check.calls k1 _ _ x4_1 t161 _ ?side1 ?side2 A56.out).mono ?_); (case side1 => repeat (first | exact (Kd.R_reads' HO_4.out).2.2 | (with_reducible refine Kd.C_alloc ?_ _) | (with_reducible refine Kd.C_drewN ?_ _) | (with_reducible refine Kd.C_drew ?_))); (case side2 => exact (Kd.R_reads' HO_4.out).2.1); rintro e w60 ⟨rfl, hb⟩; refine ⟨_, rfl, ?_⟩; have n0_ := Aside0.mk (Kd.R_below (by (with_reducible repeat (first | apply Kd.R_alloc | apply Kd.R_drewN | apply Kd.R_drew)); exact HO_4.out) hb); have n1_ := Aside0.mk (Kd.R_below (by (with_reducible repeat (first | apply Kd.R_alloc | apply Kd.R_drewN | apply Kd.R_drew)); exact HO_5.out) hb); have n2_ := Aside0.mk (below_step (by repeat (first | (with_reducible first | exact HB.out | apply below_alloc | apply pw_below_drewN | apply below_drew1) | exact HB.out)) hb); clear HO_4; clear HO_5; clear HB; have HO_4 := n0_; have HO_5 := n1_; have HB := n2_; clear n0_ n1_ n2_; (try clear hb); (try clear hb2); (try clear hk); (try clear hi)))
          go_ret2
          exact ⟨_, by first | rfl | (simp [errW_none, errW_some] <;> rfl) | (simp [*, errW_none, errW_some] <;> rfl), by (with_reducible repeat (first | apply Kd.R_alloc | apply Kd.R_drewN | apply Kd.R_drew)); exact HO_4.out, by repeat (first | (with_reducible first | exact HB.out | apply below_alloc | apply pw_below_drewN | apply below_drew1) | exact HB.out)⟩
        · rw [if_neg c57] at H
          have c57b0 : (t161 == 0) = false := beq_eq_false_iff_ne.mpr c57
          have c57b1 : (t161 != 0) = true := bne_iff_ne.mpr c57
          simp only [Option.some.injEq, Prod.mk.injEq] at H
          obtain ⟨rfl, rfl⟩ := H
          obtain ⟨Ao61, co61, eo61⟩ := Kd.R_slice HO_5.out
          subst eo61
          obtain ⟨Ao62, co62, eo62⟩ := Kd.R_slice HO_4.out
          subst eo62
          go_wp2_with (first | ((with_reducible refine gate_callee (f := 15) rfl ?_); refine goesL_ (some 71) rfl rfl Tryd.func15 (by kernel_rfl) rfl #[.slice Ao62 x4_1.length co62] rfl (by (try simp only [List.map_toArray, List.map_cons, List.map_nil]); first | done | rfl | (simp only [List.length_drop, List.length_take]; rfl) | (simp only [ByteArray.size_extract, Nat.min_self]; done) | (simp only [ByteArray.size_append, StrMore.size_lit, List.length_cons, List.length_nil, Nat.zero_add, Nat.reduceAdd] <;> rfl)) ?_; (with_reducible refine (graftbedref12_Check.calls k1 _ _ x4_1 t161 _ ?side1 ?side2 A56.out).mono ?_); (case side1 => repeat (first | exact (Kd.R_reads' HO_4.out).2.2 | (with_reducible refine Kd.C_alloc ?_ _) | (with_reducible refine Kd.C_drewN ?_ _) | (with_reducible refine Kd.C_drew ?_))); (case side2 => exact (Kd.R_reads' HO_4.out).2.1); rintro e w63 ⟨rfl, hb⟩; refine ⟨_, rfl, ?_⟩; have n0_ := Aside0.mk (Kd.R_below (by (with_reducible repeat (first | apply Kd.R_alloc | apply Kd.R_drewN | apply Kd.R_drew)); exact HO_4.out) hb); have n1_ := Aside0.mk (Kd.R_below (by (with_reducible repeat (first | apply Kd.R_alloc | apply Kd.R_drewN | apply Kd.R_drew)); exact HO_5.out) hb); have n2_ := Aside0.mk (below_step (by repeat (first | (with_reducible first | exact HB.out | apply below_alloc | apply pw_below_drewN | apply below_drew1) | exact HB.out)) hb); clear HO_4; clear HO_5; clear HB; have HO_4 := n0_; have HO_5 := n1_; have HB := n2_; clear n0_ n1_ n2_; (try clear hb); (try clear hb2); (try clear hk); (try clear hi)))
          go_ret2
          exact ⟨_, by first | rfl | (simp [errW_none, errW_some] <;> rfl) | (simp [*, errW_none, errW_some] <;> rfl), by first | exact Kd.R_nil _ _ _ _ _ | exact Kd.N_nil _ _ _ _ _ | exact Kd.V_nil _ _ _ _ _ | exact Kd.Q_nil _ _ _ _ _ | exact Kd.S_nil _ _ _ _ _, by repeat (first | (with_reducible first | exact HB.out | apply below_alloc | apply pw_below_drewN | apply below_drew1) | exact HB.out)⟩

end Go.Proofs.YtjndccjpjknbkaaDoor.PPl
