/- Printed parts, put together. -/
import Derived.Test.YtjndccjpjknbkaaDoorProg
import Derived.Below
import Derived.Deep.Draws
import Derived.Deep.AppendLies
import Derived.Maps.AppendAt
import Derived.OwnWalk
import Derived.Laws.BytesArg
import Derived.Laws.MakeOwn
import Derived.Laws.OwnMore
import Derived.Deep.OwnRows
import Derived.Tactics
import Derived.Lib.ConvBytes
import Derived.Laws.Slices
import Derived.WalkKit
import Derived.KernelRfl
import Derived.RowKit3
import Derived.Deep.LoopGhost
import Derived.Deep.QuietTactic
import Derived.BigQuiet
import Derived.WideLaws
import Derived.Deep.DeepCutAuto
import Derived.Deep.CutBlock
import Derived.Deep.RegionHeld3
import Derived.Laws.Rows
import Derived.Lib.AppendStr
import Derived.ArgAppend
import Derived.Laws.IdiomCopy
import Derived.OrdersHeld
import Derived.Laws.BitsLemmas
import Derived.RowKit
import Derived.Test.YtjndccjpjknbkaaDoorStrOrd
import Derived.Test.YtjndccjpjknbkaaDoorStrMore
import Derived.Test.YtjndccjpjknbkaaDoorExLib
import Derived.Test.YtjndccjpjknbkaaDoorExCheck
import Derived.Test.YtjndccjpjknbkaaDoorShelf
import Derived.Test.YtjndccjpjknbkaaDoorExPar
import Derived.Test.YtjndccjpjknbkaaDoorExNode
import Derived.Test.YtjndccjpjknbkaaDoorExRun
import Derived.Test.YtjndccjpjknbkaaDoorExAny
import Derived.Test.YtjndccjpjknbkaaDoorExBoth
import Derived.Test.YtjndccjpjknbkaaDoorWWords
import Derived.Test.YtjndccjpjknbkaaDoorWLast
import Derived.Test.YtjndccjpjknbkaaDoorWTab
import Derived.Test.YtjndccjpjknbkaaDoorWFour
import Derived.Test.YtjndccjpjknbkaaDoorWQPut
import Derived.Test.YtjndccjpjknbkaaDoorWApart
import Derived.Test.YtjndccjpjknbkaaDoorWArr
import Derived.Test.YtjndccjpjknbkaaDoorWZeros
import Derived.Test.YtjndccjpjknbkaaDoorWFoot
import Derived.Test.YtjndccjpjknbkaaDoorWKept
import Derived.Test.YtjndccjpjknbkaaDoorWShare
import Derived.Test.YtjndccjpjknbkaaDoorWN
import Derived.Test.YtjndccjpjknbkaaDoorWFootNe
import Derived.Test.YtjndccjpjknbkaaDoorWAt
import Derived.Test.YtjndccjpjknbkaaDoorWEqStruct
import Derived.Test.YtjndccjpjknbkaaDoorWRepsOne
import Derived.Test.YtjndccjpjknbkaaDoorWInv
import Derived.Test.YtjndccjpjknbkaaDoorWInvWords
import Derived.Test.YtjndccjpjknbkaaDoorWGuard
import Derived.Test.YtjndccjpjknbkaaDoorWNEv
import Derived.Test.YtjndccjpjknbkaaDoorWMore
-- by hprint.py (wip/): the kit's print over contracts proved by hand; a text of this session
namespace Go.Proofs.YtjndccjpjknbkaaDoor.PEx
open Go.RowKit Go.Proofs.YtjndccjpjknbkaaDoorW.PrintWords Go.Proofs.YtjndccjpjknbkaaDoorW.PrintLast Go.Proofs.YtjndccjpjknbkaaDoorW.PrintMore
attribute [local go_sem] max2_int min2_int max_two min_two max_three min_three max_four min_four   -- for this text's walks alone
set_option linter.unusedVariables false
set_option linter.unusedSimpArgs false



def errW : Option Int → Value
  | none => .nilIface
  | some c => .iface 0 (.int .i64 c)
theorem errW_none : errW none = .nilIface := rfl
theorem errW_some (c : Int) : errW (some c) = .iface 0 (.int .i64 c) := rfl

theorem info52 : (Tryd.prog.info? 52).map (fun i => (i.zero, i.size, i.bytes)) = some (some (.agg #[(.int .i64 0), (.string ⟨#[]⟩), (.int .i64 0), (.int .i64 0)]), 4, 40) := by kernel_rfl
theorem info61 : (Tryd.prog.info? 61).map (fun i => (i.zero, i.size, i.bytes)) = some (some (.agg #[(.int .i64 0), (.string ⟨#[]⟩), (.int .i64 0), (.int .i64 0)]), 4, 40) := by kernel_rfl
-- the values' own types
/-! #### struct type 52 -/
structure S52 where
  f0 : Int
  f1 : ByteArray
  f2 : Int
  f3 : Int
def z52 : S52 := ⟨(0 : Int), (⟨#[]⟩ : ByteArray), (0 : Int), (0 : Int)⟩
def k52 : Kd S52 := Kd.iso (Kd.pair (Kd.int .i64) (Kd.pair Kd.string (Kd.pair (Kd.int .i64) (Kd.int .i64)))) (fun x : S52 => (x.f0, x.f1, x.f2, x.f3))
theorem k52_open {w : World} {x : S52} {cs : List Value} (h : k52.K w x cs) : cs = [.int .i64 x.f0, .string x.f1, .int .i64 x.f2, .int .i64 x.f3] := by
  obtain ⟨_, _, rfl, rfl, ⟨_, _, rfl, rfl, ⟨_, _, rfl, rfl, rfl⟩⟩⟩ := h
  exact rfl
theorem k52_openM {w : World} {base : Nat} {ok : Nat → Prop} {x : S52} {cs : List Value} (h : k52.M w base ok x cs) : cs = [.int .i64 x.f0, .string x.f1, .int .i64 x.f2, .int .i64 x.f3] := by
  obtain ⟨_, _, rfl, rfl, ⟨_, _, rfl, rfl, ⟨_, _, rfl, rfl, rfl⟩⟩⟩ := h
  exact rfl
theorem k52_mk (w : World) (x : S52)  : k52.K w x [.int .i64 x.f0, .string x.f1, .int .i64 x.f2, .int .i64 x.f3] := ⟨[.int .i64 x.f0], [.string x.f1, .int .i64 x.f2, .int .i64 x.f3], rfl, rfl, ⟨[.string x.f1], [.int .i64 x.f2, .int .i64 x.f3], rfl, rfl, ⟨[.int .i64 x.f2], [.int .i64 x.f3], rfl, rfl, rfl⟩⟩⟩
theorem k52_mkM (w : World) (base : Nat) (ok : Nat → Prop) (x : S52)  : k52.M w base ok x [.int .i64 x.f0, .string x.f1, .int .i64 x.f2, .int .i64 x.f3] := ⟨[.int .i64 x.f0], [.string x.f1, .int .i64 x.f2, .int .i64 x.f3], rfl, rfl, ⟨[.string x.f1], [.int .i64 x.f2, .int .i64 x.f3], rfl, rfl, ⟨[.int .i64 x.f2], [.int .i64 x.f3], rfl, rfl, rfl⟩⟩⟩
def rd_T52 (xs : List S52) (i : Int) : S52 := xs.getD i.toNat z52
theorem at_T52 {w : World} {A : Option Addr} {n : Nat} {xs : List S52} (h : Kd.C k52 w A n xs) (i : Int) (h0 : 0 ≤ i) (h1 : i < n) : ∃ ad , A = some ad ∧ w.cell? (ad.add (i.toNat * 4)) = some (.int .i64 (rd_T52 xs i).f0) ∧ w.cell? ⟨(ad.add (i.toNat * 4)).block, (ad.add (i.toNat * 4)).off + 1, none⟩ = some (.string (rd_T52 xs i).f1) ∧ w.cell? ⟨(ad.add (i.toNat * 4)).block, (ad.add (i.toNat * 4)).off + 2, none⟩ = some (.int .i64 (rd_T52 xs i).f2) ∧ w.cell? ⟨(ad.add (i.toNat * 4)).block, (ad.add (i.toNat * 4)).off + 3, none⟩ = some (.int .i64 (rd_T52 xs i).f3) := by
  obtain ⟨ad, c, e, _, hK, hc0⟩ := Kd.C_get h z52 i h0 h1
  have hc : ∀ j u, c[j]? = some u → w.cell? (ad.add (i.toNat * 4 + j)) = some u := hc0
  obtain rfl := k52_open hK
  exact ⟨ad, e, hc 0 _ rfl, by rw [← add_field _ _ 1 (by omega)]; exact hc 1 _ rfl, by rw [← add_field _ _ 2 (by omega)]; exact hc 2 _ rfl, by rw [← add_field _ _ 3 (by omega)]; exact hc 3 _ rfl⟩

def rd_L3 (xs : List (List S52)) (i : Int) : (List S52) := xs.getD i.toNat ([] : List S52)
theorem at_L3 {w : World} {A : Option Addr} {n : Nat} {xs : List (List S52)} (h : Kd.C (Kd.slice 52 k52) w A n xs) (i : Int) (h0 : 0 ≤ i) (h1 : i < n) : ∃ ad A0 c0, A = some ad ∧ w.cell? (ad.add i.toNat) = some (.slice A0 (rd_L3 xs i).length c0) ∧ (rd_L3 xs i).length ≤ c0 ∧ k52.C w A0 (rd_L3 xs i).length (rd_L3 xs i) := by
  obtain ⟨ad, c, e, _, hK, hc0⟩ := Kd.C_get h ([] : List S52) i h0 h1
  have hc : ∀ j u, c[j]? = some u → w.cell? (ad.add (i.toNat * 1 + j)) = some u := hc0
  obtain ⟨A0, c0, rfl, l0, g0⟩ := hK
  exact ⟨ad, A0, c0, e, by have hq := hc 0 _ rfl; rwa [Nat.mul_one, Nat.add_zero] at hq, l0, g0⟩

/-! #### struct type 61 -/
structure S61 where
  f0 : Int
  f1 : ByteArray
  f2 : Int
  f3 : Int
def z61 : S61 := ⟨(0 : Int), (⟨#[]⟩ : ByteArray), (0 : Int), (0 : Int)⟩
def k61 : Kd S61 := Kd.iso (Kd.pair (Kd.int .i64) (Kd.pair Kd.string (Kd.pair (Kd.int .i64) (Kd.int .i64)))) (fun x : S61 => (x.f0, x.f1, x.f2, x.f3))
theorem k61_open {w : World} {x : S61} {cs : List Value} (h : k61.K w x cs) : cs = [.int .i64 x.f0, .string x.f1, .int .i64 x.f2, .int .i64 x.f3] := by
  obtain ⟨_, _, rfl, rfl, ⟨_, _, rfl, rfl, ⟨_, _, rfl, rfl, rfl⟩⟩⟩ := h
  exact rfl
theorem k61_openM {w : World} {base : Nat} {ok : Nat → Prop} {x : S61} {cs : List Value} (h : k61.M w base ok x cs) : cs = [.int .i64 x.f0, .string x.f1, .int .i64 x.f2, .int .i64 x.f3] := by
  obtain ⟨_, _, rfl, rfl, ⟨_, _, rfl, rfl, ⟨_, _, rfl, rfl, rfl⟩⟩⟩ := h
  exact rfl
theorem k61_mk (w : World) (x : S61)  : k61.K w x [.int .i64 x.f0, .string x.f1, .int .i64 x.f2, .int .i64 x.f3] := ⟨[.int .i64 x.f0], [.string x.f1, .int .i64 x.f2, .int .i64 x.f3], rfl, rfl, ⟨[.string x.f1], [.int .i64 x.f2, .int .i64 x.f3], rfl, rfl, ⟨[.int .i64 x.f2], [.int .i64 x.f3], rfl, rfl, rfl⟩⟩⟩
theorem k61_mkM (w : World) (base : Nat) (ok : Nat → Prop) (x : S61)  : k61.M w base ok x [.int .i64 x.f0, .string x.f1, .int .i64 x.f2, .int .i64 x.f3] := ⟨[.int .i64 x.f0], [.string x.f1, .int .i64 x.f2, .int .i64 x.f3], rfl, rfl, ⟨[.string x.f1], [.int .i64 x.f2, .int .i64 x.f3], rfl, rfl, ⟨[.int .i64 x.f2], [.int .i64 x.f3], rfl, rfl, rfl⟩⟩⟩
def rd_T61 (xs : List S61) (i : Int) : S61 := xs.getD i.toNat z61
theorem at_T61 {w : World} {A : Option Addr} {n : Nat} {xs : List S61} (h : Kd.C k61 w A n xs) (i : Int) (h0 : 0 ≤ i) (h1 : i < n) : ∃ ad , A = some ad ∧ w.cell? (ad.add (i.toNat * 4)) = some (.int .i64 (rd_T61 xs i).f0) ∧ w.cell? ⟨(ad.add (i.toNat * 4)).block, (ad.add (i.toNat * 4)).off + 1, none⟩ = some (.string (rd_T61 xs i).f1) ∧ w.cell? ⟨(ad.add (i.toNat * 4)).block, (ad.add (i.toNat * 4)).off + 2, none⟩ = some (.int .i64 (rd_T61 xs i).f2) ∧ w.cell? ⟨(ad.add (i.toNat * 4)).block, (ad.add (i.toNat * 4)).off + 3, none⟩ = some (.int .i64 (rd_T61 xs i).f3) := by
  obtain ⟨ad, c, e, _, hK, hc0⟩ := Kd.C_get h z61 i h0 h1
  have hc : ∀ j u, c[j]? = some u → w.cell? (ad.add (i.toNat * 4 + j)) = some u := hc0
  obtain rfl := k61_open hK
  exact ⟨ad, e, hc 0 _ rfl, by rw [← add_field _ _ 1 (by omega)]; exact hc 1 _ rfl, by rw [← add_field _ _ 2 (by omega)]; exact hc 2 _ rfl, by rw [← add_field _ _ 3 (by omega)]; exact hc 3 _ rfl⟩

def rd_L5 (xs : List (List ByteArray)) (i : Int) : (List ByteArray) := xs.getD i.toNat ([] : List ByteArray)
theorem at_L5 {w : World} {A : Option Addr} {n : Nat} {xs : List (List ByteArray)} (h : Kd.C (Kd.slice 9 Kd.string) w A n xs) (i : Int) (h0 : 0 ≤ i) (h1 : i < n) : ∃ ad A0 c0, A = some ad ∧ w.cell? (ad.add i.toNat) = some (.slice A0 (rd_L5 xs i).length c0) ∧ (rd_L5 xs i).length ≤ c0 ∧ Kd.string.C w A0 (rd_L5 xs i).length (rd_L5 xs i) := by
  obtain ⟨ad, c, e, _, hK, hc0⟩ := Kd.C_get h ([] : List ByteArray) i h0 h1
  have hc : ∀ j u, c[j]? = some u → w.cell? (ad.add (i.toNat * 1 + j)) = some u := hc0
  obtain ⟨A0, c0, rfl, l0, g0⟩ := hK
  exact ⟨ad, A0, c0, e, by have hq := hc 0 _ rfl; rwa [Nat.mul_one, Nat.add_zero] at hq, l0, g0⟩

def rd_L7 (xs : List (List S61)) (i : Int) : (List S61) := xs.getD i.toNat ([] : List S61)
theorem at_L7 {w : World} {A : Option Addr} {n : Nat} {xs : List (List S61)} (h : Kd.C (Kd.slice 61 k61) w A n xs) (i : Int) (h0 : 0 ≤ i) (h1 : i < n) : ∃ ad A0 c0, A = some ad ∧ w.cell? (ad.add i.toNat) = some (.slice A0 (rd_L7 xs i).length c0) ∧ (rd_L7 xs i).length ≤ c0 ∧ k61.C w A0 (rd_L7 xs i).length (rd_L7 xs i) := by
  obtain ⟨ad, c, e, _, hK, hc0⟩ := Kd.C_get h ([] : List S61) i h0 h1
  have hc : ∀ j u, c[j]? = some u → w.cell? (ad.add (i.toNat * 1 + j)) = some u := hc0
  obtain ⟨A0, c0, rfl, l0, g0⟩ := hK
  exact ⟨ad, A0, c0, e, by have hq := hc 0 _ rfl; rwa [Nat.mul_one, Nat.add_zero] at hq, l0, g0⟩

end Go.Proofs.YtjndccjpjknbkaaDoor.PEx

-- by hprint.py (wip/): the kit's print over contracts proved by hand; a text of this session
namespace Go.Proofs.YtjndccjpjknbkaaDoor.PEx
open Go.RowKit Go.Proofs.YtjndccjpjknbkaaDoorW.PrintWords Go.Proofs.YtjndccjpjknbkaaDoorW.PrintLast Go.Proofs.YtjndccjpjknbkaaDoorW.PrintMore
attribute [local go_sem] max2_int min2_int max_two min_two max_three min_three max_four min_four   -- for this text's walks alone
set_option linter.unusedVariables false
set_option linter.unusedSimpArgs false

/-! ### expr_Parse: function 19 -/
def expr_Parse.enc (x : S52) : ExNode.Nd := ⟨x.f0, x.f1, x.f2, x.f3⟩
def expr_Parse.dec (x : ExNode.Nd) : S52 := ⟨x.kind, x.tag, x.a, x.b⟩
def expr_Parse.f (a0 : ByteArray) : Option (List (S52) × Int) := if a0.size ≤ 1099511627776 then some ((ExPar.parseF a0).1.map expr_Parse.dec, (ExPar.parseF a0).2) else none
theorem expr_Parse.calls (a0 : ByteArray) (r1 : List (S52)) (r2 : Int) (w : World) (h : expr_Parse.f a0 = some (r1, r2)) :
    Calls Tryd.prog 19 #[.string a0] w fun e w' => ∃ v0_ : Value, e = .returned (.tuple #[v0_, .int .i64 r2]) ∧ Kd.R k52 52 w' w.heap.size (fun _ => True) v0_ r1 ∧ Below w.heap.size w w' := by
  unfold expr_Parse.f at h
  by_cases h1 : a0.size ≤ 1099511627776
  · rw [if_pos h1] at h
    have e1 := Option.some.inj h
    injection e1 with e1 e2
    subst e1 e2
    refine (ExPar.Parse_calls a0 h1 w).mono ?_
    rintro e w' ⟨v, rfl, ho, hb⟩
    refine ⟨v, rfl, RowsLib.R_of (f := fun x => ExNode.encN (expr_Parse.enc x)) (n := 4) (fun _ => rfl) rfl (fun ok x => k52_mkM _ _ _ x) ?_ (Nat.le_refl _), hb⟩
    have e1 : RowsLib.cellsL (fun x => ExNode.encN (expr_Parse.enc x)) ((ExPar.parseF a0).1.map expr_Parse.dec) = ExNode.cellsN (ExPar.parseF a0).1 := by
      unfold ExNode.cellsN RowsLib.cellsL
      rw [List.flatMap_map]
      rfl
    rw [e1, List.length_map]
    exact ho
  · rw [if_neg h1] at h
    cases h

end Go.Proofs.YtjndccjpjknbkaaDoor.PEx

-- by hprint.py (wip/): the kit's print over contracts proved by hand; a text of this session
namespace Go.Proofs.YtjndccjpjknbkaaDoor.PEx
open Go.RowKit Go.Proofs.YtjndccjpjknbkaaDoorW.PrintWords Go.Proofs.YtjndccjpjknbkaaDoorW.PrintLast Go.Proofs.YtjndccjpjknbkaaDoorW.PrintMore
attribute [local go_sem] max2_int min2_int max_two min_two max_three min_three max_four min_four   -- for this text's walks alone
set_option linter.unusedVariables false
set_option linter.unusedSimpArgs false

/-! ### graftbedlaw12_a: function 12 -/
def graftbedlaw12_a.f  : Option ((List (S52))) := (expr_Parse.f (⟨#[97]⟩ : ByteArray)).bind fun bt102 => (if bt102.2 = 0 then (if (bt102.1.length : Int) = 1 then (some bt102.1) else (some ([] : List (S52)))) else (some ([] : List (S52))))
set_option maxHeartbeats 8000000 in
set_option maxRecDepth 100000 in
theorem graftbedlaw12_a.calls  (r : List (S52)) (w : World) (h : graftbedlaw12_a.f  = some r) :
    Calls Tryd.prog 12 #[] w fun e w' => ∃ v0_ : Value, e = .returned (v0_) ∧ Kd.R k52 52 w' w.heap.size (fun _ => True) v0_ r ∧ Below w.heap.size w w' := by
  have HB := Aside0.mk (Below.refl w.heap.size w)
  have H : ((expr_Parse.f (⟨#[97]⟩ : ByteArray)).bind fun bt102 => (if bt102.2 = 0 then (if (bt102.1.length : Int) = 1 then (some bt102.1) else (some ([] : List (S52)))) else (some ([] : List (S52))))) = some r := h
  clear h
  replace H := Option.bind_eq_some_iff.mp H
  obtain ⟨⟨t102, t103⟩, A10, H⟩ := H
  replace H : (if t103 = 0 then (if (t102.length : Int) = 1 then (some t102) else (some ([] : List (S52)))) else (some ([] : List (S52)))) = some r := H
  have A1 := Aside0.mk A10
  clear A10
  by_cases c2 : t103 = 0
  · rw [if_pos c2] at H
    have c2b0 : (t103 == 0) = true := beq_iff_eq.mpr c2
    have c2b1 : (t103 != 0) = false := bne_eq_false_iff_eq.mpr c2
    clear c2
    by_cases c3 : (t102.length : Int) = 1
    · rw [if_pos c3] at H
      have c3b0 : ((t102.length : Int) == 1) = true := beq_iff_eq.mpr c3
      have c3b1 : ((t102.length : Int) != 1) = false := bne_eq_false_iff_eq.mpr c3
      clear c3
      obtain rfl := Option.some.inj H
      go_enter Tryd.func12, Tryd.ntmps12
      go_wp2_with (first | ((with_reducible refine gate_callee (f := 19) rfl ?_); refine goesL_ (some 4) rfl rfl Tryd.func19 (by kernel_rfl) rfl #[.string (⟨#[97]⟩ : ByteArray)] rfl (by (try simp only [List.map_toArray, List.map_cons, List.map_nil]); first | done | rfl | (simp only [List.length_drop, List.length_take]; rfl) | (simp only [ByteArray.size_extract, Nat.min_self]; done) | (simp only [ByteArray.size_append, StrMore.size_lit, List.length_cons, List.length_nil, Nat.zero_add, Nat.reduceAdd] <;> rfl)) ?_; (with_reducible refine (expr_Parse.calls (⟨#[97]⟩ : ByteArray) t102 t103 _ A1.out).mono ?_); rintro e w4 ⟨v104, rfl, ho0, hb⟩; refine ⟨_, rfl, ?_⟩; have n0_ := Aside0.mk (Kd.R_lower ho0 (below_size (by repeat (first | (with_reducible first | exact HB.out | apply below_alloc | apply pw_below_drewN | apply below_drew1) | exact HB.out)))); have n1_ := Aside0.mk (below_step (by repeat (first | (with_reducible first | exact HB.out | apply below_alloc | apply pw_below_drewN | apply below_drew1) | exact HB.out)) hb); clear HB; have HO105 := n0_; have HB := n1_; clear n0_ n1_; (try clear hb); (try clear hb2); (try clear hk); (try clear hi); (try clear ho0); obtain ⟨Ao5, co5, eo5⟩ := Kd.R_slice HO105.out; subst eo5))
      go_ret
      exact ⟨_, by first | rfl | (simp [errW_none, errW_some] <;> rfl) | (simp [*, errW_none, errW_some] <;> rfl), by (with_reducible repeat (first | apply Kd.R_alloc | apply Kd.R_drewN | apply Kd.R_drew)); exact HO105.out, by repeat (first | (with_reducible first | exact HB.out | apply below_alloc | apply pw_below_drewN | apply below_drew1) | exact HB.out)⟩
    · rw [if_neg c3] at H
      have c3b0 : ((t102.length : Int) == 1) = false := beq_eq_false_iff_ne.mpr c3
      have c3b1 : ((t102.length : Int) != 1) = true := bne_iff_ne.mpr c3
      obtain rfl := Option.some.inj H
      go_enter Tryd.func12, Tryd.ntmps12
      go_wp2_with (first | ((with_reducible refine gate_callee (f := 19) rfl ?_); refine goesL_ (some 4) rfl rfl Tryd.func19 (by kernel_rfl) rfl #[.string (⟨#[97]⟩ : ByteArray)] rfl (by (try simp only [List.map_toArray, List.map_cons, List.map_nil]); first | done | rfl | (simp only [List.length_drop, List.length_take]; rfl) | (simp only [ByteArray.size_extract, Nat.min_self]; done) | (simp only [ByteArray.size_append, StrMore.size_lit, List.length_cons, List.length_nil, Nat.zero_add, Nat.reduceAdd] <;> rfl)) ?_; (with_reducible refine (expr_Parse.calls (⟨#[97]⟩ : ByteArray) t102 t103 _ A1.out).mono ?_); rintro e w6 ⟨v104, rfl, ho0, hb⟩; refine ⟨_, rfl, ?_⟩; have n0_ := Aside0.mk (Kd.R_lower ho0 (below_size (by repeat (first | (with_reducible first | exact HB.out | apply below_alloc | apply pw_below_drewN | apply below_drew1) | exact HB.out)))); have n1_ := Aside0.mk (below_step (by repeat (first | (with_reducible first | exact HB.out | apply below_alloc | apply pw_below_drewN | apply below_drew1) | exact HB.out)) hb); clear HB; have HO105 := n0_; have HB := n1_; clear n0_ n1_; (try clear hb); (try clear hb2); (try clear hk); (try clear hi); (try clear ho0); obtain ⟨Ao7, co7, eo7⟩ := Kd.R_slice HO105.out; subst eo7))
      go_ret
      exact ⟨_, by first | rfl | (simp [errW_none, errW_some] <;> rfl) | (simp [*, errW_none, errW_some] <;> rfl), by first | exact Kd.R_nil _ _ _ _ _ | exact Kd.N_nil _ _ _ _ _ | exact Kd.V_nil _ _ _ _ _ | exact Kd.Q_nil _ _ _ _ _ | exact Kd.S_nil _ _ _ _ _, by repeat (first | (with_reducible first | exact HB.out | apply below_alloc | apply pw_below_drewN | apply below_drew1) | exact HB.out)⟩
  · rw [if_neg c2] at H
    have c2b0 : (t103 == 0) = false := beq_eq_false_iff_ne.mpr c2
    have c2b1 : (t103 != 0) = true := bne_iff_ne.mpr c2
    obtain rfl := Option.some.inj H
    go_enter Tryd.func12, Tryd.ntmps12
    go_wp2_with (first | ((with_reducible refine gate_callee (f := 19) rfl ?_); refine goesL_ (some 4) rfl rfl Tryd.func19 (by kernel_rfl) rfl #[.string (⟨#[97]⟩ : ByteArray)] rfl (by (try simp only [List.map_toArray, List.map_cons, List.map_nil]); first | done | rfl | (simp only [List.length_drop, List.length_take]; rfl) | (simp only [ByteArray.size_extract, Nat.min_self]; done) | (simp only [ByteArray.size_append, StrMore.size_lit, List.length_cons, List.length_nil, Nat.zero_add, Nat.reduceAdd] <;> rfl)) ?_; (with_reducible refine (expr_Parse.calls (⟨#[97]⟩ : ByteArray) t102 t103 _ A1.out).mono ?_); rintro e w8 ⟨v104, rfl, ho0, hb⟩; refine ⟨_, rfl, ?_⟩; have n0_ := Aside0.mk (Kd.R_lower ho0 (below_size (by repeat (first | (with_reducible first | exact HB.out | apply below_alloc | apply pw_below_drewN | apply below_drew1) | exact HB.out)))); have n1_ := Aside0.mk (below_step (by repeat (first | (with_reducible first | exact HB.out | apply below_alloc | apply pw_below_drewN | apply below_drew1) | exact HB.out)) hb); clear HB; have HO105 := n0_; have HB := n1_; clear n0_ n1_; (try clear hb); (try clear hb2); (try clear hk); (try clear hi); (try clear ho0)))
    go_ret
    exact ⟨_, by first | rfl | (simp [errW_none, errW_some] <;> rfl) | (simp [*, errW_none, errW_some] <;> rfl), by first | exact Kd.R_nil _ _ _ _ _ | exact Kd.N_nil _ _ _ _ _ | exact Kd.V_nil _ _ _ _ _ | exact Kd.Q_nil _ _ _ _ _ | exact Kd.S_nil _ _ _ _ _, by repeat (first | (with_reducible first | exact HB.out | apply below_alloc | apply pw_below_drewN | apply below_drew1) | exact HB.out)⟩

end Go.Proofs.YtjndccjpjknbkaaDoor.PEx

-- by hprint.py (wip/): the kit's print over contracts proved by hand; a text of this session
namespace Go.Proofs.YtjndccjpjknbkaaDoor.PEx
open Go.RowKit Go.Proofs.YtjndccjpjknbkaaDoorW.PrintWords Go.Proofs.YtjndccjpjknbkaaDoorW.PrintLast Go.Proofs.YtjndccjpjknbkaaDoorW.PrintMore
attribute [local go_sem] max2_int min2_int max_two min_two max_three min_three max_four min_four   -- for this text's walks alone
set_option linter.unusedVariables false
set_option linter.unusedSimpArgs false

/-! ### expr_Check: function 14 -/
def expr_Check.enc (x : S52) : ExNode.Nd := ⟨x.f0, x.f1, x.f2, x.f3⟩
def expr_Check.tagsOk (l0 : List (S52)) : Bool := l0.all fun x => decide (x.f1.size ≤ 4611686018427387904)
def expr_Check.f (l0 : List (S52)) : Option Int := if expr_Check.tagsOk l0 = true then some (ExCheck.checkF (l0.map expr_Check.enc)) else none
theorem expr_Check.tags_of {l0 : List (S52)} (h : expr_Check.tagsOk l0 = true) : ∀ x ∈ l0, (expr_Check.enc x).tag.size ≤ 4611686018427387904 := fun x hx => of_decide_eq_true (List.all_eq_true.1 h x hx)
theorem expr_Check.calls (A0 : Option Addr) (c0 : Nat) (l0 : List (S52)) (r : Int) (w : World) (hr0 : Kd.C k52 w A0 l0.length l0) (hc0 : l0.length ≤ c0) (h : expr_Check.f l0 = some r) :
    Calls Tryd.prog 14 #[.slice A0 l0.length c0] w fun e w' => e = .returned (.int .i64 r) ∧ Below w.heap.size w w' := by
  unfold expr_Check.f at h
  by_cases h1 : expr_Check.tagsOk l0 = true
  · rw [if_pos h1] at h
    obtain rfl := Option.some.inj h
    exact ExCheck.Check_calls k52 rfl expr_Check.enc (fun h => k52_open h) A0 c0 l0 w hr0 (expr_Check.tags_of h1)
  · rw [if_neg h1] at h
    cases h

end Go.Proofs.YtjndccjpjknbkaaDoor.PEx

-- by hprint.py (wip/): the kit's print over contracts proved by hand; a text of this session
namespace Go.Proofs.YtjndccjpjknbkaaDoor.PEx
open Go.RowKit Go.Proofs.YtjndccjpjknbkaaDoorW.PrintWords Go.Proofs.YtjndccjpjknbkaaDoorW.PrintLast Go.Proofs.YtjndccjpjknbkaaDoorW.PrintMore
attribute [local go_sem] max2_int min2_int max_two min_two max_three min_three max_four min_four   -- for this text's walks alone
set_option linter.unusedVariables false
set_option linter.unusedSimpArgs false

/-! ### expr_Eval: function 17 -/
def expr_Eval.enc (x : S52) : ExNode.Nd := ⟨x.f0, x.f1, x.f2, x.f3⟩
def expr_Eval.tagsOk (l0 : List (S52)) : Bool := l0.all fun x => decide (x.f1.size ≤ 4611686018427387904)
def expr_Eval.f (l0 : List (S52)) (l1 : List ByteArray) : Option Bool := if expr_Eval.tagsOk l0 = true then some (ExSem.evalF (l0.map expr_Eval.enc) l1) else none
theorem expr_Eval.tags_of {l0 : List (S52)} (h : expr_Eval.tagsOk l0 = true) : ∀ x ∈ l0, (expr_Eval.enc x).tag.size ≤ 4611686018427387904 := fun x hx => of_decide_eq_true (List.all_eq_true.1 h x hx)
theorem expr_Eval.calls (A0 : Option Addr) (c0 : Nat) (l0 : List (S52)) (A1 : Option Addr) (c1 : Nat) (l1 : List ByteArray) (r : Bool) (w : World) (hr0 : Kd.C k52 w A0 l0.length l0) (hc0 : l0.length ≤ c0) (hr1 : Kd.C Kd.string w A1 l1.length l1) (hc1 : l1.length ≤ c1) (h : expr_Eval.f l0 l1 = some r) :
    Calls Tryd.prog 17 #[.slice A0 l0.length c0, .slice A1 l1.length c1] w fun e w' => e = .returned (.bool r) ∧ Below w.heap.size w w' := by
  unfold expr_Eval.f at h
  by_cases h1 : expr_Eval.tagsOk l0 = true
  · rw [if_pos h1] at h
    obtain rfl := Option.some.inj h
    exact ExRun.Eval_calls k52 rfl expr_Eval.enc (fun h => k52_open h) A0 A1 c0 c1 l0 l1 w hr0 hr1 (expr_Eval.tags_of h1)
  · rw [if_neg h1] at h
    cases h

end Go.Proofs.YtjndccjpjknbkaaDoor.PEx

-- by hprint.py (wip/): the kit's print over contracts proved by hand; a text of this session
namespace Go.Proofs.YtjndccjpjknbkaaDoor.PEx
open Go.RowKit Go.Proofs.YtjndccjpjknbkaaDoorW.PrintWords Go.Proofs.YtjndccjpjknbkaaDoorW.PrintLast Go.Proofs.YtjndccjpjknbkaaDoorW.PrintMore
attribute [local go_sem] max2_int min2_int max_two min_two max_three min_three max_four min_four   -- for this text's walks alone
set_option linter.unusedVariables false
set_option linter.unusedSimpArgs false

/-! ### expr_both: function 44 -/
def expr_both.enc (x : S52) : ExNode.Nd := ⟨x.f0, x.f1, x.f2, x.f3⟩
def expr_both.dec (x : ExNode.Nd) : S52 := ⟨x.kind, x.tag, x.a, x.b⟩
def expr_both.f (a0 : Int) (l1 : List (S52)) (l2 : List (S52)) : Option (List (S52)) :=
  if l1.length ≤ 1000000 then (if l2.length ≤ 1000000 then some ((ExBoth.bothN a0 (l1.map expr_both.enc) (l2.map expr_both.enc)).map expr_both.dec) else none) else none
theorem expr_both.calls (a0 : Int) (A1 : Option Addr) (c1 : Nat) (l1 : List (S52)) (A2 : Option Addr) (c2 : Nat) (l2 : List (S52)) (r : List (S52)) (w : World) (hr1 : Kd.C k52 w A1 l1.length l1) (hc1 : l1.length ≤ c1) (hr2 : Kd.C k52 w A2 l2.length l2) (hc2 : l2.length ≤ c2) (h : expr_both.f a0 l1 l2 = some r) :
    Calls Tryd.prog 44 #[.int .i64 a0, .slice A1 l1.length c1, .slice A2 l2.length c2] w fun e w' => ∃ v0_ : Value, e = .returned (v0_) ∧ Kd.R k52 52 w' w.heap.size (fun _ => True) v0_ r ∧ Below w.heap.size w w' := by
  unfold expr_both.f at h
  by_cases h1 : l1.length ≤ 1000000
  · rw [if_pos h1] at h
    by_cases h2 : l2.length ≤ 1000000
    · rw [if_pos h2] at h
      obtain rfl := Option.some.inj h
      refine (ExBoth.both_calls k52 rfl expr_both.enc (fun h => k52_open h) k52 rfl expr_both.enc (fun h => k52_open h) a0 A1 A2 c1 c2 l1 l2 w hr1 hr2 h1 h2).mono ?_
      rintro e w' ⟨v, rfl, ho, hb⟩
      refine ⟨v, rfl, RowsLib.R_of (f := fun x => ExNode.encN (expr_both.enc x)) (n := 4) (fun _ => rfl) rfl (fun ok x => k52_mkM _ _ _ x) ?_ (Nat.le_refl _), hb⟩
      have e1 : ∀ l : List ExNode.Nd, RowsLib.cellsL (fun x => ExNode.encN (expr_both.enc x)) (l.map expr_both.dec) = ExNode.cellsN l := fun l => by
        unfold ExNode.cellsN RowsLib.cellsL
        rw [List.flatMap_map]
        rfl
      rw [e1, List.length_map]
      exact ho
    · rw [if_neg h2] at h
      cases h
  · rw [if_neg h1] at h
    cases h

end Go.Proofs.YtjndccjpjknbkaaDoor.PEx

-- by hprint.py (wip/): the kit's print over contracts proved by hand; a text of this session
namespace Go.Proofs.YtjndccjpjknbkaaDoor.PEx
open Go.RowKit Go.Proofs.YtjndccjpjknbkaaDoorW.PrintWords Go.Proofs.YtjndccjpjknbkaaDoorW.PrintLast Go.Proofs.YtjndccjpjknbkaaDoorW.PrintMore
attribute [local go_sem] max2_int min2_int max_two min_two max_three min_three max_four min_four   -- for this text's walks alone
set_option linter.unusedVariables false
set_option linter.unusedSimpArgs false

/-! ### expr_And: function 20 -/
def expr_And.f (l0 : List (S52)) (l1 : List (S52)) : Option ((List (S52))) := (expr_both.f 2 l0 l1).bind fun t169 => (some t169)
set_option maxHeartbeats 8000000 in
set_option maxRecDepth 100000 in
theorem expr_And.calls (A0 : Option Addr) (c0 : Nat) (l0 : List (S52)) (A1 : Option Addr) (c1 : Nat) (l1 : List (S52)) (r : List (S52)) (w : World) (hr0 : Kd.C k52 w A0 l0.length l0) (hc0 : l0.length ≤ c0) (hr1 : Kd.C k52 w A1 l1.length l1) (hc1 : l1.length ≤ c1) (h : expr_And.f l0 l1 = some r) :
    Calls Tryd.prog 20 #[.slice A0 l0.length c0, .slice A1 l1.length c1] w fun e w' => ∃ v0_ : Value, e = .returned (v0_) ∧ Kd.R k52 52 w' w.heap.size (fun _ => True) v0_ r ∧ Below w.heap.size w w' := by
  have HR0 := Aside0.mk hr0
  have HC0 := Aside0.mk hc0
  clear hr0 hc0
  have HR1 := Aside0.mk hr1
  have HC1 := Aside0.mk hc1
  clear hr1 hc1
  have HB := Aside0.mk (Below.refl w.heap.size w)
  have H : ((expr_both.f 2 l0 l1).bind fun t169 => (some t169)) = some r := h
  clear h
  replace H := Option.bind_eq_some_iff.mp H
  obtain ⟨t169, A30, H⟩ := H
  replace H : (some t169) = some r := H
  have A3 := Aside0.mk A30
  clear A30
  obtain rfl := Option.some.inj H
  go_enter Tryd.func20, Tryd.ntmps20
  go_wp2_with (first | ((with_reducible refine gate_callee (f := 44) rfl ?_); refine goesL_ (some 7) rfl rfl Tryd.func44 (by kernel_rfl) rfl #[.int .i64 2, .slice A0 l0.length c0, .slice A1 l1.length c1] rfl (by (try simp only [List.map_toArray, List.map_cons, List.map_nil]); first | done | rfl | (simp only [List.length_drop, List.length_take]; rfl) | (simp only [ByteArray.size_extract, Nat.min_self]; done) | (simp only [ByteArray.size_append, StrMore.size_lit, List.length_cons, List.length_nil, Nat.zero_add, Nat.reduceAdd] <;> rfl)) ?_; (with_reducible refine (expr_both.calls 2 _ _ l0 _ _ l1 t169 _ ?side1 ?side2 ?side3 ?side4 A3.out).mono ?_); (case side1 => repeat (first | exact HR0.out | (with_reducible refine Kd.C_alloc ?_ _) | (with_reducible refine Kd.C_drewN ?_ _) | (with_reducible refine Kd.C_drew ?_))); (case side2 => exact HC0.out); (case side3 => repeat (first | exact HR1.out | (with_reducible refine Kd.C_alloc ?_ _) | (with_reducible refine Kd.C_drewN ?_ _) | (with_reducible refine Kd.C_drew ?_))); (case side4 => exact HC1.out); rintro e w4 ⟨v170, rfl, ho0, hb⟩; refine ⟨_, rfl, ?_⟩; have n0_ := Aside0.mk (Kd.R_lower ho0 (below_size (by repeat (first | (with_reducible first | exact HB.out | apply below_alloc | apply pw_below_drewN | apply below_drew1) | exact HB.out)))); have n1_ := Aside0.mk (below_step (by repeat (first | (with_reducible first | exact HB.out | apply below_alloc | apply pw_below_drewN | apply below_drew1) | exact HB.out)) hb); clear HB; have HO171 := n0_; have HB := n1_; clear n0_ n1_; (try clear hb); (try clear hb2); (try clear hk); (try clear hi); (try clear ho0)))
  go_ret
  exact ⟨_, by first | rfl | (simp [errW_none, errW_some] <;> rfl) | (simp [*, errW_none, errW_some] <;> rfl), by (with_reducible repeat (first | apply Kd.R_alloc | apply Kd.R_drewN | apply Kd.R_drew)); exact HO171.out, by repeat (first | (with_reducible first | exact HB.out | apply below_alloc | apply pw_below_drewN | apply below_drew1) | exact HB.out)⟩

end Go.Proofs.YtjndccjpjknbkaaDoor.PEx

-- by hprint.py (wip/): the kit's print over contracts proved by hand; a text of this session
namespace Go.Proofs.YtjndccjpjknbkaaDoor.PEx
open Go.RowKit Go.Proofs.YtjndccjpjknbkaaDoorW.PrintWords Go.Proofs.YtjndccjpjknbkaaDoorW.PrintLast Go.Proofs.YtjndccjpjknbkaaDoorW.PrintMore
attribute [local go_sem] max2_int min2_int max_two min_two max_three min_three max_four min_four   -- for this text's walks alone
set_option linter.unusedVariables false
set_option linter.unusedSimpArgs false

/-! ### expr_Or: function 21 -/
def expr_Or.f (l0 : List (S52)) (l1 : List (S52)) : Option ((List (S52))) := (expr_both.f 3 l0 l1).bind fun t172 => (some t172)
set_option maxHeartbeats 8000000 in
set_option maxRecDepth 100000 in
theorem expr_Or.calls (A0 : Option Addr) (c0 : Nat) (l0 : List (S52)) (A1 : Option Addr) (c1 : Nat) (l1 : List (S52)) (r : List (S52)) (w : World) (hr0 : Kd.C k52 w A0 l0.length l0) (hc0 : l0.length ≤ c0) (hr1 : Kd.C k52 w A1 l1.length l1) (hc1 : l1.length ≤ c1) (h : expr_Or.f l0 l1 = some r) :
    Calls Tryd.prog 21 #[.slice A0 l0.length c0, .slice A1 l1.length c1] w fun e w' => ∃ v0_ : Value, e = .returned (v0_) ∧ Kd.R k52 52 w' w.heap.size (fun _ => True) v0_ r ∧ Below w.heap.size w w' := by
  have HR0 := Aside0.mk hr0
  have HC0 := Aside0.mk hc0
  clear hr0 hc0
  have HR1 := Aside0.mk hr1
  have HC1 := Aside0.mk hc1
  clear hr1 hc1
  have HB := Aside0.mk (Below.refl w.heap.size w)
  have H : ((expr_both.f 3 l0 l1).bind fun t172 => (some t172)) = some r := h
  clear h
  replace H := Option.bind_eq_some_iff.mp H
  obtain ⟨t172, A30, H⟩ := H
  replace H : (some t172) = some r := H
  have A3 := Aside0.mk A30
  clear A30
  obtain rfl := Option.some.inj H
  go_enter Tryd.func21, Tryd.ntmps21
  go_wp2_with (first | ((with_reducible refine gate_callee (f := 44) rfl ?_); refine goesL_ (some 7) rfl rfl Tryd.func44 (by kernel_rfl) rfl #[.int .i64 3, .slice A0 l0.length c0, .slice A1 l1.length c1] rfl (by (try simp only [List.map_toArray, List.map_cons, List.map_nil]); first | done | rfl | (simp only [List.length_drop, List.length_take]; rfl) | (simp only [ByteArray.size_extract, Nat.min_self]; done) | (simp only [ByteArray.size_append, StrMore.size_lit, List.length_cons, List.length_nil, Nat.zero_add, Nat.reduceAdd] <;> rfl)) ?_; (with_reducible refine (expr_both.calls 3 _ _ l0 _ _ l1 t172 _ ?side1 ?side2 ?side3 ?side4 A3.out).mono ?_); (case side1 => repeat (first | exact HR0.out | (with_reducible refine Kd.C_alloc ?_ _) | (with_reducible refine Kd.C_drewN ?_ _) | (with_reducible refine Kd.C_drew ?_))); (case side2 => exact HC0.out); (case side3 => repeat (first | exact HR1.out | (with_reducible refine Kd.C_alloc ?_ _) | (with_reducible refine Kd.C_drewN ?_ _) | (with_reducible refine Kd.C_drew ?_))); (case side4 => exact HC1.out); rintro e w4 ⟨v173, rfl, ho0, hb⟩; refine ⟨_, rfl, ?_⟩; have n0_ := Aside0.mk (Kd.R_lower ho0 (below_size (by repeat (first | (with_reducible first | exact HB.out | apply below_alloc | apply pw_below_drewN | apply below_drew1) | exact HB.out)))); have n1_ := Aside0.mk (below_step (by repeat (first | (with_reducible first | exact HB.out | apply below_alloc | apply pw_below_drewN | apply below_drew1) | exact HB.out)) hb); clear HB; have HO174 := n0_; have HB := n1_; clear n0_ n1_; (try clear hb); (try clear hb2); (try clear hk); (try clear hi); (try clear ho0)))
  go_ret
  exact ⟨_, by first | rfl | (simp [errW_none, errW_some] <;> rfl) | (simp [*, errW_none, errW_some] <;> rfl), by (with_reducible repeat (first | apply Kd.R_alloc | apply Kd.R_drewN | apply Kd.R_drew)); exact HO174.out, by repeat (first | (with_reducible first | exact HB.out | apply below_alloc | apply pw_below_drewN | apply below_drew1) | exact HB.out)⟩

end Go.Proofs.YtjndccjpjknbkaaDoor.PEx

-- by hprint.py (wip/): the kit's print over contracts proved by hand; a text of this session
namespace Go.Proofs.YtjndccjpjknbkaaDoor.PEx
open Go.RowKit Go.Proofs.YtjndccjpjknbkaaDoorW.PrintWords Go.Proofs.YtjndccjpjknbkaaDoorW.PrintLast Go.Proofs.YtjndccjpjknbkaaDoorW.PrintMore
attribute [local go_sem] max2_int min2_int max_two min_two max_three min_three max_four min_four   -- for this text's walks alone
set_option linter.unusedVariables false
set_option linter.unusedSimpArgs false

/-! ### graftbedlaw12_ExprEither: function 4 -/
mutual
def graftbedlaw12_ExprEither.j0 : Nat → ByteArray → ByteArray → List ByteArray → Bool → Option (Bool)
  | 0, _, _, _, _ => none
  | k + 1, x0, x1, x2, x30 => if x30 = true then ((graftbedlaw12_a.f).bind fun t337 => (if 0 < t337.length then (some true) else (none))) else ((expr_Parse.f x0).bind fun bt340 => ((expr_Parse.f x1).bind fun bt344 => (if bt340.2 = 0 then (if bt344.2 = 0 then (if (wrap64 ((bt340.1.length : Int) + (bt344.1.length : Int))) > 50 then (graftbedlaw12_ExprEither.j1 k x2 bt340.1 bt344.1 true) else (graftbedlaw12_ExprEither.j1 k x2 bt340.1 bt344.1 (decide ((bt340.1.length : Int) > 25)))) else (graftbedlaw12_ExprEither.j1 k x2 bt340.1 bt344.1 true)) else (graftbedlaw12_ExprEither.j1 k x2 bt340.1 bt344.1 true))))
def graftbedlaw12_ExprEither.j1 : Nat → List ByteArray → List (S52) → List (S52) → Bool → Option (Bool)
  | 0, _, _, _, _ => none
  | k + 1, x2, x7, x9, x61 => if x61 = true then ((graftbedlaw12_a.f).bind fun t348 => (if 0 < t348.length then (some true) else (none))) else ((expr_And.f x7 x9).bind fun t351 => ((expr_Or.f x7 x9).bind fun t354 => ((expr_Check.f t351).bind fun t357 => (if t357 = 0 then ((expr_Eval.f x7 x2).bind fun t358 => ((expr_Eval.f t351 x2).bind fun t359 => ((expr_And.f x9 x7).bind fun t360 => ((expr_Eval.f t360 x2).bind fun t363 => (if (t359 == t363) = true then ((expr_Eval.f t354 x2).bind fun t364 => ((expr_Or.f x9 x7).bind fun t365 => ((expr_Eval.f t365 x2).bind fun t368 => (if (t364 == t368) = true then ((expr_And.f x7 x7).bind fun t369 => ((expr_Eval.f t369 x2).bind fun t372 => (if (t372 == t358) = true then ((expr_Or.f x7 x7).bind fun t373 => ((expr_Eval.f t373 x2).bind fun t376 => (if (t376 == t358) = true then (some ((t351.length : Int) == (wrap64 ((wrap64 ((x7.length : Int) + (x9.length : Int))) + 1)))) else (some false)))) else (some false)))) else (some false))))) else (some false)))))) else (some true)))))
end
def graftbedlaw12_ExprEither.f (k : Nat) (a0 : ByteArray) (a1 : ByteArray) (l2 : List ByteArray) : Option (Bool) := if (a0.size : Int) > 128 then (graftbedlaw12_ExprEither.j0 k a0 a1 l2 true) else (if (a1.size : Int) > 128 then (graftbedlaw12_ExprEither.j0 k a0 a1 l2 true) else (if (l2.length : Int) > 50 then (graftbedlaw12_ExprEither.j0 k a0 a1 l2 true) else ((graftbedlaw12_a.f).bind fun t334 => (if 0 < t334.length then (graftbedlaw12_ExprEither.j0 k a0 a1 l2 false) else (none)))))
theorem graftbedlaw12_ExprEither.mono_l : ∀ k, (∀ y0 y1 y2 y3, LeO (graftbedlaw12_ExprEither.j0 k y0 y1 y2 y3) (graftbedlaw12_ExprEither.j0 (k + 1) y0 y1 y2 y3)) ∧ (∀ y0 y1 y2 y3, LeO (graftbedlaw12_ExprEither.j1 k y0 y1 y2 y3) (graftbedlaw12_ExprEither.j1 (k + 1) y0 y1 y2 y3))
  | 0 => ⟨fun _ _ _ _ r h => by simp [graftbedlaw12_ExprEither.j0] at h, fun _ _ _ _ r h => by simp [graftbedlaw12_ExprEither.j1] at h⟩
  | k + 1 => by
    obtain ⟨ih0, ih1⟩ := graftbedlaw12_ExprEither.mono_l k
    refine ⟨?_, ?_⟩
    · intro y0 y1 y2 y3
      unfold graftbedlaw12_ExprEither.j0
      repeat' first
      | (with_reducible exact ih0 _ _ _ _)
      | (with_reducible exact ih1 _ _ _ _)
      | (with_reducible exact LeO.refl _)
      | (with_reducible exact LeO.none _)
      | (with_reducible refine LeO.ite ?_ ?_)
      | (with_reducible refine LeO.bind ?_ (fun _ => ?_))
      | exact ih0 _ _ _ _
      | exact ih1 _ _ _ _
      | exact LeO.none _
      | refine LeO.ite ?_ ?_
      | refine LeO.bind ?_ (fun _ => ?_)
    · intro y0 y1 y2 y3
      unfold graftbedlaw12_ExprEither.j1
      repeat' first
      | (with_reducible exact ih0 _ _ _ _)
      | (with_reducible exact ih1 _ _ _ _)
      | (with_reducible exact LeO.refl _)
      | (with_reducible exact LeO.none _)
      | (with_reducible refine LeO.ite ?_ ?_)
      | (with_reducible refine LeO.bind ?_ (fun _ => ?_))
      | exact ih0 _ _ _ _
      | exact ih1 _ _ _ _
      | exact LeO.none _
      | refine LeO.ite ?_ ?_
      | refine LeO.bind ?_ (fun _ => ?_)
theorem graftbedlaw12_ExprEither.mono : ∀ a0 a1 a2 k, LeO (graftbedlaw12_ExprEither.f k a0 a1 a2) (graftbedlaw12_ExprEither.f (k + 1) a0 a1 a2) := by
  intro a0 a1 a2 k
  obtain ⟨ih0, ih1⟩ := graftbedlaw12_ExprEither.mono_l k
  unfold graftbedlaw12_ExprEither.f
  repeat' first
      | (with_reducible exact ih0 _ _ _ _)
      | (with_reducible exact ih1 _ _ _ _)
      | (with_reducible exact LeO.refl _)
      | (with_reducible exact LeO.none _)
      | (with_reducible refine LeO.ite ?_ ?_)
      | (with_reducible refine LeO.bind ?_ (fun _ => ?_))
      | exact ih0 _ _ _ _
      | exact ih1 _ _ _ _
      | exact LeO.none _
      | refine LeO.ite ?_ ?_
      | refine LeO.bind ?_ (fun _ => ?_)
set_option maxHeartbeats 8000000 in
set_option maxRecDepth 100000 in
theorem graftbedlaw12_ExprEither.calls (k : Nat) (a0 : ByteArray) (a1 : ByteArray) (A2 : Option Addr) (c2 : Nat) (l2 : List ByteArray) (r : Bool) (hr_ : Aside0 (r = true)) (w : World) (hr2 : Kd.C Kd.string w A2 l2.length l2) (hc2 : l2.length ≤ c2) (h : graftbedlaw12_ExprEither.f k a0 a1 l2 = some r) :
    Calls Tryd.prog 4 #[.string a0, .string a1, .slice A2 l2.length c2] w fun e w' => e = .returned (.bool r) ∧ Below w.heap.size w w' := by
  have HR2 := Aside0.mk hr2
  have HC2 := Aside0.mk hc2
  clear hr2 hc2
  have HB := Aside0.mk (Below.refl w.heap.size w)
  have H : (if (a0.size : Int) > 128 then (graftbedlaw12_ExprEither.j0 k a0 a1 l2 true) else (if (a1.size : Int) > 128 then (graftbedlaw12_ExprEither.j0 k a0 a1 l2 true) else (if (l2.length : Int) > 50 then (graftbedlaw12_ExprEither.j0 k a0 a1 l2 true) else ((graftbedlaw12_a.f).bind fun t334 => (if 0 < t334.length then (graftbedlaw12_ExprEither.j0 k a0 a1 l2 false) else (none)))))) = some r := h
  clear h
  have HC4 := Aside0.mk H
  clear H
  go_enter Tryd.func4, Tryd.ntmps4
  go_upto_region 1 with (fail)
  go_cut [30] (fun v30 wc => ∃ (kq : Nat) (x30_3 : Bool), v30 = .bool x30_3 ∧ Aside0 (graftbedlaw12_ExprEither.j0 kq a0 a1 l2 x30_3 = some r) ∧ Aside0 (kq ≤ k) ∧ Aside0 (Below w.heap.size w wc))
  case first =>
    have H := HC4.out
    clear HC4
    by_cases c5 : (a0.size : Int) > 128
    · rw [if_pos c5] at H
      have c5b0 : decide (128 < (a0.size : Int)) = true := decide_eq_true c5
      have c5b1 : decide (128 < a0.size) = true := decide_eq_true (by omega)
      clear c5
      (first | rw [c5b0] | (simp only [i64_w, i32_w]; rw [c5b0]) | skip)
      have H' := Aside0.mk H
      clear H
      go_wp2
      go_meet
      case rel => exact ⟨_, (true), (by first | rfl | (simp; done) | (simp [*]; done)), H', ⟨by first | omega | exact Nat.le_refl _⟩, ⟨by repeat (first | (with_reducible first | exact HB.out | apply below_alloc | apply pw_below_drewN | apply below_drew1) | exact HB.out)⟩⟩
    · rw [if_neg c5] at H
      have c5b0 : decide (128 < (a0.size : Int)) = false := decide_eq_false c5
      have c5b1 : decide (128 < a0.size) = false := decide_eq_false (by omega)
      clear c5
      (first | rw [c5b0] | (simp only [i64_w, i32_w]; rw [c5b0]) | skip)
      by_cases c6 : (a1.size : Int) > 128
      · rw [if_pos c6] at H
        have c6b0 : decide (128 < (a1.size : Int)) = true := decide_eq_true c6
        have c6b1 : decide (128 < a1.size) = true := decide_eq_true (by omega)
        clear c6
        have H' := Aside0.mk H
        clear H
        go_wp2
        go_meet
        case rel => exact ⟨_, (true), (by first | rfl | (simp; done) | (simp [*]; done)), H', ⟨by first | omega | exact Nat.le_refl _⟩, ⟨by repeat (first | (with_reducible first | exact HB.out | apply below_alloc | apply pw_below_drewN | apply below_drew1) | exact HB.out)⟩⟩
      · rw [if_neg c6] at H
        have c6b0 : decide (128 < (a1.size : Int)) = false := decide_eq_false c6
        have c6b1 : decide (128 < a1.size) = false := decide_eq_false (by omega)
        clear c6
        by_cases c7 : (l2.length : Int) > 50
        · rw [if_pos c7] at H
          have c7b0 : decide (50 < (l2.length : Int)) = true := decide_eq_true c7
          have c7b1 : decide (50 < l2.length) = true := decide_eq_true (by omega)
          clear c7
          have H' := Aside0.mk H
          clear H
          go_wp2
          go_meet
          case rel => exact ⟨_, (true), (by first | rfl | (simp; done) | (simp [*]; done)), H', ⟨by first | omega | exact Nat.le_refl _⟩, ⟨by repeat (first | (with_reducible first | exact HB.out | apply below_alloc | apply pw_below_drewN | apply below_drew1) | exact HB.out)⟩⟩
        · rw [if_neg c7] at H
          have c7b0 : decide (50 < (l2.length : Int)) = false := decide_eq_false c7
          have c7b1 : decide (50 < l2.length) = false := decide_eq_false (by omega)
          clear c7
          replace H := Option.bind_eq_some_iff.mp H
          obtain ⟨t334, A80, H⟩ := H
          replace H : (if 0 < t334.length then (graftbedlaw12_ExprEither.j0 k a0 a1 l2 false) else (none)) = some r := H
          have A8 := Aside0.mk A80
          clear A80
          by_cases c9 : 0 < t334.length
          · rw [if_pos c9] at H
            have c9b0 := eq_true c9
            have c9b1 : decide (0 < t334.length) = true := decide_eq_true c9
            clear c9
            have H' := Aside0.mk H
            clear H
            go_wp2_with (first | (go_at_call 12; (with_reducible refine (graftbedlaw12_a.calls  t334 _ A8.out).mono ?_); rintro e w10 ⟨v335, rfl, ho0, hb⟩; have n0_ := Aside0.mk (Kd.R_lower ho0 (below_size (by repeat (first | (with_reducible first | exact HB.out | apply below_alloc | apply pw_below_drewN | apply below_drew1) | exact HB.out)))); have n1_ := Aside0.mk (below_step (by repeat (first | (with_reducible first | exact HB.out | apply below_alloc | apply pw_below_drewN | apply below_drew1) | exact HB.out)) hb); clear HB; have HO336 := n0_; have HB := n1_; clear n0_ n1_; (try clear hb); (try clear hb2); (try clear hk); (try clear hi); (try clear ho0); obtain ⟨go11, co11, eo11, _⟩ := Kd.R_form HO336.out (of_eq_true (by assumption)); subst eo11; have hnilo11 : ∀ W, (binOp .eql 22 (.slice (some ⟨go11, 0, none⟩) t334.length co11) (.slice none 0 0)).run Tryd.prog W = .ok (.bool false) W := fun _ => rfl; have hnnlo11 : ∀ W, (binOp .neq 22 (.slice (some ⟨go11, 0, none⟩) t334.length co11) (.slice none 0 0)).run Tryd.prog W = .ok (.bool true) W := fun _ => rfl))
            go_meet
            case rel => exact ⟨_, (false), (by first | rfl | (simp; done) | (simp [*]; done)), H', ⟨by first | omega | exact Nat.le_refl _⟩, ⟨by repeat (first | (with_reducible first | exact HB.out | apply below_alloc | apply pw_below_drewN | apply below_drew1) | exact HB.out)⟩⟩
          · rw [if_neg c9] at H
            exact absurd H (by simp)
  case rest =>
    clear HC4
    try clear c2
    try clear p2
    try clear c4
    try clear c5
    try clear c5b0
    try clear c5b1
    try clear c6
    try clear c6b0
    try clear c6b1
    try clear c7
    try clear c7b0
    try clear c7b1
    try clear c9
    try clear c9b0
    try clear c9b1
    obtain ⟨kq, x30_3, rfl, HA, HJ3, HB⟩ := hcut
    cases kq with
    | zero => exact absurd HA.out (by simp [graftbedlaw12_ExprEither.j0])
    | succ kj3 =>
      have H := HA.out
      clear HA
      simp only [graftbedlaw12_ExprEither.j0] at H
      by_cases c12 : x30_3 = true
      · subst c12
        have H1 : ((graftbedlaw12_a.f).bind fun t337 => (if 0 < t337.length then (some true) else (none))) = some r := by rw [if_pos rfl] at H; exact H
        clear H
        have H := H1
        clear H1
        replace H := Option.bind_eq_some_iff.mp H
        obtain ⟨t337, A130, H⟩ := H
        replace H : (if 0 < t337.length then (some true) else (none)) = some r := H
        have A13 := Aside0.mk A130
        clear A130
        by_cases c14 : 0 < t337.length
        · rw [if_pos c14] at H
          have c14b0 := eq_true c14
          have c14b1 : decide (0 < t337.length) = true := decide_eq_true c14
          clear c14
          obtain rfl := Option.some.inj H
          go_wp2_with (first | ((with_reducible refine gate_callee (f := 12) rfl ?_); refine goesL_ (some 31) rfl rfl Tryd.func12 (by kernel_rfl) rfl #[] rfl (by (try simp only [List.map_toArray, List.map_cons, List.map_nil]); first | done | rfl | (simp only [List.length_drop, List.length_take]; rfl) | (simp only [ByteArray.size_extract, Nat.min_self]; done) | (simp only [ByteArray.size_append, StrMore.size_lit, List.length_cons, List.length_nil, Nat.zero_add, Nat.reduceAdd] <;> rfl)) ?_; (with_reducible refine (graftbedlaw12_a.calls  t337 _ A13.out).mono ?_); rintro e w15 ⟨v338, rfl, ho0, hb⟩; refine ⟨_, rfl, ?_⟩; have n0_ := Aside0.mk (Kd.R_lower ho0 (below_size (by repeat (first | (with_reducible first | exact HB.out | apply below_alloc | apply pw_below_drewN | apply below_drew1) | exact HB.out)))); have n1_ := Aside0.mk (below_step (by repeat (first | (with_reducible first | exact HB.out | apply below_alloc | apply pw_below_drewN | apply below_drew1) | exact HB.out)) hb); clear HB; have HO339 := n0_; have HB := n1_; clear n0_ n1_; (try clear hb); (try clear hb2); (try clear hk); (try clear hi); (try clear ho0); obtain ⟨go16, co16, eo16, _⟩ := Kd.R_form HO339.out (of_eq_true (by assumption)); subst eo16; have hnilo16 : ∀ W, (binOp .eql 22 (.slice (some ⟨go16, 0, none⟩) t337.length co16) (.slice none 0 0)).run Tryd.prog W = .ok (.bool false) W := fun _ => rfl; have hnnlo16 : ∀ W, (binOp .neq 22 (.slice (some ⟨go16, 0, none⟩) t337.length co16) (.slice none 0 0)).run Tryd.prog W = .ok (.bool true) W := fun _ => rfl))
          go_ret
          exact ⟨by first | rfl | (simp [errW_none, errW_some] <;> rfl) | (simp [*, errW_none, errW_some] <;> rfl) | (exfalso; simp only [decide_eq_true_eq, decide_eq_false_iff_not, beq_iff_eq, beq_eq_false_iff_ne] at *; first | contradiction | omega), by repeat (first | (with_reducible first | exact HB.out | apply below_alloc | apply pw_below_drewN | apply below_drew1) | exact HB.out)⟩
        · rw [if_neg c14] at H
          exact absurd H (by simp)
      · replace c12 := Bool.eq_false_iff.mpr c12
        subst c12
        have H1 : ((expr_Parse.f a0).bind fun bt340 => ((expr_Parse.f a1).bind fun bt344 => (if bt340.2 = 0 then (if bt344.2 = 0 then (if (wrap64 ((bt340.1.length : Int) + (bt344.1.length : Int))) > 50 then (graftbedlaw12_ExprEither.j1 kj3 l2 bt340.1 bt344.1 true) else (graftbedlaw12_ExprEither.j1 kj3 l2 bt340.1 bt344.1 (decide ((bt340.1.length : Int) > 25)))) else (graftbedlaw12_ExprEither.j1 kj3 l2 bt340.1 bt344.1 true)) else (graftbedlaw12_ExprEither.j1 kj3 l2 bt340.1 bt344.1 true)))) = some r := by rw [if_neg (show ¬ (false = true) by decide)] at H; exact H
        clear H
        have H := H1
        clear H1
        replace H := Option.bind_eq_some_iff.mp H
        obtain ⟨⟨t340, t341⟩, A170, H⟩ := H
        replace H : ((expr_Parse.f a1).bind fun bt344 => (if t341 = 0 then (if bt344.2 = 0 then (if (wrap64 ((t340.length : Int) + (bt344.1.length : Int))) > 50 then (graftbedlaw12_ExprEither.j1 kj3 l2 t340 bt344.1 true) else (graftbedlaw12_ExprEither.j1 kj3 l2 t340 bt344.1 (decide ((t340.length : Int) > 25)))) else (graftbedlaw12_ExprEither.j1 kj3 l2 t340 bt344.1 true)) else (graftbedlaw12_ExprEither.j1 kj3 l2 t340 bt344.1 true))) = some r := H
        have A17 := Aside0.mk A170
        clear A170
        replace H := Option.bind_eq_some_iff.mp H
        obtain ⟨⟨t344, t345⟩, A180, H⟩ := H
        replace H : (if t341 = 0 then (if t345 = 0 then (if (wrap64 ((t340.length : Int) + (t344.length : Int))) > 50 then (graftbedlaw12_ExprEither.j1 kj3 l2 t340 t344 true) else (graftbedlaw12_ExprEither.j1 kj3 l2 t340 t344 (decide ((t340.length : Int) > 25)))) else (graftbedlaw12_ExprEither.j1 kj3 l2 t340 t344 true)) else (graftbedlaw12_ExprEither.j1 kj3 l2 t340 t344 true)) = some r := H
        have A18 := Aside0.mk A180
        clear A180
        have HC19 := Aside0.mk H
        clear H
        go_upto_region 5 with (first | ((with_reducible refine gate_callee (f := 19) rfl ?_); refine goesL_ (some 35) rfl rfl Tryd.func19 (by kernel_rfl) rfl #[.string a0] rfl (by (try simp only [List.map_toArray, List.map_cons, List.map_nil]); first | done | rfl | (simp only [List.length_drop, List.length_take]; rfl) | (simp only [ByteArray.size_extract, Nat.min_self]; done) | (simp only [ByteArray.size_append, StrMore.size_lit, List.length_cons, List.length_nil, Nat.zero_add, Nat.reduceAdd] <;> rfl)) ?_; (with_reducible refine (expr_Parse.calls a0 t340 t341 _ A17.out).mono ?_); (all_goals (try clear A17)); rintro e w20 ⟨v342, rfl, ho0, hb⟩; refine ⟨_, rfl, ?_⟩; have n0_ := Aside0.mk (Kd.R_lower ho0 (below_size (by repeat (first | (with_reducible first | exact HB.out | apply below_alloc | apply pw_below_drewN | apply below_drew1) | exact HB.out)))); have n1_ := Aside0.mk (below_step (by repeat (first | (with_reducible first | exact HB.out | apply below_alloc | apply pw_below_drewN | apply below_drew1) | exact HB.out)) hb); clear HB; have HO343 := n0_; have HB := n1_; clear n0_ n1_; (try clear hb); (try clear hb2); (try clear hk); (try clear hi); (try clear ho0)) | ((with_reducible refine gate_callee (f := 19) rfl ?_); refine goesL_ (some 40) rfl rfl Tryd.func19 (by kernel_rfl) rfl #[.string a1] rfl (by (try simp only [List.map_toArray, List.map_cons, List.map_nil]); first | done | rfl | (simp only [List.length_drop, List.length_take]; rfl) | (simp only [ByteArray.size_extract, Nat.min_self]; done) | (simp only [ByteArray.size_append, StrMore.size_lit, List.length_cons, List.length_nil, Nat.zero_add, Nat.reduceAdd] <;> rfl)) ?_; (with_reducible refine (expr_Parse.calls a1 t344 t345 _ A18.out).mono ?_); (all_goals (try clear A18)); rintro e w21 ⟨v346, rfl, ho0, hb⟩; refine ⟨_, rfl, ?_⟩; have n0_ := Aside0.mk (Kd.R_elder' (by (with_reducible repeat (first | apply Kd.R_alloc | apply Kd.R_drewN | apply Kd.R_drew)); exact HO343.out) (Kd.R_base ho0) hb); have n1_ := Aside0.mk (Kd.R_lower (Kd.R_new' ho0 (Kd.R_lt (by (with_reducible repeat (first | apply Kd.R_alloc | apply Kd.R_drewN | apply Kd.R_drew)); exact HO343.out))) (below_size (by repeat (first | (with_reducible first | exact HB.out | apply below_alloc | apply pw_below_drewN | apply below_drew1) | exact HB.out)))); have n2_ := Aside0.mk (below_step (by repeat (first | (with_reducible first | exact HB.out | apply below_alloc | apply pw_below_drewN | apply below_drew1) | exact HB.out)) hb); clear HO343; clear HB; have HO343 := n0_; have HO347 := n1_; have HB := n2_; clear n0_ n1_ n2_; (try clear hb); (try clear hb2); (try clear hk); (try clear hi); (try clear ho0)))
        (try simp only [Act.put, List.setIfInBounds_toArray, List.set_cons_zero, List.set_cons_succ])
        go_cut [61] (fun v61 wc => ∃ (kq : Nat) (x61_18 : Bool), v61 = .bool x61_18 ∧ Aside0 (graftbedlaw12_ExprEither.j1 kq l2 t340 t344 x61_18 = some r) ∧ Aside0 (kq ≤ kj3) ∧ Aside0 (Kd.R k52 52 wc w.heap.size (fun k_ => some k_ ≠ (v346 : Value).ownBlock) v342 t340) ∧ Aside0 (Kd.R k52 52 wc w.heap.size (fun k_ => some k_ ≠ (v342 : Value).ownBlock) v346 t344) ∧ Aside0 (Below w.heap.size w wc))
        case first =>
          have H := HC19.out
          clear HC19
          by_cases c22 : t341 = 0
          · rw [if_pos c22] at H
            have c22b0 : (t341 == 0) = true := beq_iff_eq.mpr c22
            have c22b1 : (t341 != 0) = false := bne_eq_false_iff_eq.mpr c22
            clear c22
            (first | rw [c22b0] | (simp only [i64_w, i32_w]; rw [c22b0]) | skip)
            by_cases c23 : t345 = 0
            · rw [if_pos c23] at H
              have c23b0 : (t345 == 0) = true := beq_iff_eq.mpr c23
              have c23b1 : (t345 != 0) = false := bne_eq_false_iff_eq.mpr c23
              clear c23
              by_cases c24 : (wrap64 ((t340.length : Int) + (t344.length : Int))) > 50
              · rw [if_pos c24] at H
                have c24b0 : decide (50 < (wrap64 ((t340.length : Int) + (t344.length : Int)))) = true := decide_eq_true c24
                clear c24
                have H' := Aside0.mk H
                clear H
                obtain ⟨Ao25, co25, eo25⟩ := Kd.R_slice HO343.out
                subst eo25
                obtain ⟨Ao26, co26, eo26⟩ := Kd.R_slice HO347.out
                subst eo26
                go_wp2
                go_meet
                case rel => exact ⟨_, (true), (by first | rfl | (simp; done) | (simp [*]; done)), H', ⟨by have := HJ3.out; first | omega | exact Nat.le_refl _⟩, ⟨by (with_reducible repeat (first | apply Kd.R_alloc | apply Kd.R_drewN | apply Kd.R_drew)); exact Kd.R_mono HO343.out (fun _ hk => hk.2)⟩, ⟨by (with_reducible repeat (first | apply Kd.R_alloc | apply Kd.R_drewN | apply Kd.R_drew)); exact Kd.R_mono HO347.out (fun _ hk => hk.2)⟩, ⟨by repeat (first | (with_reducible first | exact HB.out | apply below_alloc | apply pw_below_drewN | apply below_drew1) | exact HB.out)⟩⟩
              · rw [if_neg c24] at H
                have c24b0 : decide (50 < (wrap64 ((t340.length : Int) + (t344.length : Int)))) = false := decide_eq_false c24
                clear c24
                have H' := Aside0.mk H
                clear H
                obtain ⟨Ao27, co27, eo27⟩ := Kd.R_slice HO343.out
                subst eo27
                obtain ⟨Ao28, co28, eo28⟩ := Kd.R_slice HO347.out
                subst eo28
                go_wp2
                go_meet
                case rel => exact ⟨_, (decide ((t340.length : Int) > 25)), (by first | rfl | (simp; done) | (simp [*]; done)), H', ⟨by have := HJ3.out; first | omega | exact Nat.le_refl _⟩, ⟨by (with_reducible repeat (first | apply Kd.R_alloc | apply Kd.R_drewN | apply Kd.R_drew)); exact Kd.R_mono HO343.out (fun _ hk => hk.2)⟩, ⟨by (with_reducible repeat (first | apply Kd.R_alloc | apply Kd.R_drewN | apply Kd.R_drew)); exact Kd.R_mono HO347.out (fun _ hk => hk.2)⟩, ⟨by repeat (first | (with_reducible first | exact HB.out | apply below_alloc | apply pw_below_drewN | apply below_drew1) | exact HB.out)⟩⟩
            · rw [if_neg c23] at H
              have c23b0 : (t345 == 0) = false := beq_eq_false_iff_ne.mpr c23
              have c23b1 : (t345 != 0) = true := bne_iff_ne.mpr c23
              have H' := Aside0.mk H
              clear H
              go_wp2
              go_meet
              case rel => exact ⟨_, (true), (by first | rfl | (simp; done) | (simp [*]; done)), H', ⟨by have := HJ3.out; first | omega | exact Nat.le_refl _⟩, ⟨by (with_reducible repeat (first | apply Kd.R_alloc | apply Kd.R_drewN | apply Kd.R_drew)); exact Kd.R_mono HO343.out (fun _ hk => hk.2)⟩, ⟨by (with_reducible repeat (first | apply Kd.R_alloc | apply Kd.R_drewN | apply Kd.R_drew)); exact Kd.R_mono HO347.out (fun _ hk => hk.2)⟩, ⟨by repeat (first | (with_reducible first | exact HB.out | apply below_alloc | apply pw_below_drewN | apply below_drew1) | exact HB.out)⟩⟩
          · rw [if_neg c22] at H
            have c22b0 : (t341 == 0) = false := beq_eq_false_iff_ne.mpr c22
            have c22b1 : (t341 != 0) = true := bne_iff_ne.mpr c22
            (first | rw [c22b0] | (simp only [i64_w, i32_w]; rw [c22b0]) | skip)
            have H' := Aside0.mk H
            clear H
            go_wp2
            go_meet
            case rel => exact ⟨_, (true), (by first | rfl | (simp; done) | (simp [*]; done)), H', ⟨by have := HJ3.out; first | omega | exact Nat.le_refl _⟩, ⟨by (with_reducible repeat (first | apply Kd.R_alloc | apply Kd.R_drewN | apply Kd.R_drew)); exact Kd.R_mono HO343.out (fun _ hk => hk.2)⟩, ⟨by (with_reducible repeat (first | apply Kd.R_alloc | apply Kd.R_drewN | apply Kd.R_drew)); exact Kd.R_mono HO347.out (fun _ hk => hk.2)⟩, ⟨by repeat (first | (with_reducible first | exact HB.out | apply below_alloc | apply pw_below_drewN | apply below_drew1) | exact HB.out)⟩⟩
        case rest =>
          clear HC19
          try clear c1
          try clear c2
          try clear p2
          try clear c4
          try clear c5
          try clear c5b0
          try clear c5b1
          try clear c6
          try clear c6b0
          try clear c6b1
          try clear p6
          try clear c7
          try clear c7b0
          try clear c7b1
          try clear c9
          try clear c9b0
          try clear c9b1
          try clear c12
          try clear c14
          try clear c14b0
          try clear c14b1
          try clear c19
          try clear c22
          try clear c22b0
          try clear c22b1
          try clear c23
          try clear c23b0
          try clear c23b1
          try clear c24
          try clear c24b0
          try clear p2
          obtain ⟨kq, x61_18, rfl, HA, HJ18, HO_7, HO_9, HB⟩ := hcut
          cases kq with
          | zero => exact absurd HA.out (by simp [graftbedlaw12_ExprEither.j1])
          | succ kj18 =>
            have H := HA.out
            clear HA
            simp only [graftbedlaw12_ExprEither.j1] at H
            by_cases c29 : x61_18 = true
            · subst c29
              have H1 : ((graftbedlaw12_a.f).bind fun t348 => (if 0 < t348.length then (some true) else (none))) = some r := by rw [if_pos rfl] at H; exact H
              clear H
              have H := H1
              clear H1
              replace H := Option.bind_eq_some_iff.mp H
              obtain ⟨t348, A300, H⟩ := H
              replace H : (if 0 < t348.length then (some true) else (none)) = some r := H
              have A30 := Aside0.mk A300
              clear A300
              by_cases c31 : 0 < t348.length
              · rw [if_pos c31] at H
                have c31b0 := eq_true c31
                have c31b1 : decide (0 < t348.length) = true := decide_eq_true c31
                clear c31
                obtain rfl := Option.some.inj H
                go_wp2_with (first | ((with_reducible refine gate_callee (f := 12) rfl ?_); refine goesL_ (some 62) rfl rfl Tryd.func12 (by kernel_rfl) rfl #[] rfl (by (try simp only [List.map_toArray, List.map_cons, List.map_nil]); first | done | rfl | (simp only [List.length_drop, List.length_take]; rfl) | (simp only [ByteArray.size_extract, Nat.min_self]; done) | (simp only [ByteArray.size_append, StrMore.size_lit, List.length_cons, List.length_nil, Nat.zero_add, Nat.reduceAdd] <;> rfl)) ?_; (with_reducible refine (graftbedlaw12_a.calls  t348 _ A30.out).mono ?_); rintro e w32 ⟨v349, rfl, ho0, hb⟩; refine ⟨_, rfl, ?_⟩; have n0_ := Aside0.mk (Kd.R_elder' (by (with_reducible repeat (first | apply Kd.R_alloc | apply Kd.R_drewN | apply Kd.R_drew)); exact HO_7.out) (Kd.R_base ho0) hb); have n1_ := Aside0.mk (Kd.R_elder' (by (with_reducible repeat (first | apply Kd.R_alloc | apply Kd.R_drewN | apply Kd.R_drew)); exact HO_9.out) (Kd.R_base ho0) hb); have n2_ := Aside0.mk (Kd.R_lower (Kd.R_new' (Kd.R_new' ho0 (Kd.R_lt (by (with_reducible repeat (first | apply Kd.R_alloc | apply Kd.R_drewN | apply Kd.R_drew)); exact HO_7.out))) (Kd.R_lt (by (with_reducible repeat (first | apply Kd.R_alloc | apply Kd.R_drewN | apply Kd.R_drew)); exact HO_9.out))) (below_size (by repeat (first | (with_reducible first | exact HB.out | apply below_alloc | apply pw_below_drewN | apply below_drew1) | exact HB.out)))); have n3_ := Aside0.mk (below_step (by repeat (first | (with_reducible first | exact HB.out | apply below_alloc | apply pw_below_drewN | apply below_drew1) | exact HB.out)) hb); clear HO_7; clear HO_9; clear HB; have HO_7 := n0_; have HO_9 := n1_; have HO350 := n2_; have HB := n3_; clear n0_ n1_ n2_ n3_; (try clear hb); (try clear hb2); (try clear hk); (try clear hi); (try clear ho0); obtain ⟨go33, co33, eo33, _⟩ := Kd.R_form HO350.out (of_eq_true (by assumption)); subst eo33; have hnilo33 : ∀ W, (binOp .eql 22 (.slice (some ⟨go33, 0, none⟩) t348.length co33) (.slice none 0 0)).run Tryd.prog W = .ok (.bool false) W := fun _ => rfl; have hnnlo33 : ∀ W, (binOp .neq 22 (.slice (some ⟨go33, 0, none⟩) t348.length co33) (.slice none 0 0)).run Tryd.prog W = .ok (.bool true) W := fun _ => rfl))
                go_ret
                exact ⟨by first | rfl | (simp [errW_none, errW_some] <;> rfl) | (simp [*, errW_none, errW_some] <;> rfl) | (exfalso; simp only [decide_eq_true_eq, decide_eq_false_iff_not, beq_iff_eq, beq_eq_false_iff_ne] at *; first | contradiction | omega), by repeat (first | (with_reducible first | exact HB.out | apply below_alloc | apply pw_below_drewN | apply below_drew1) | exact HB.out)⟩
              · rw [if_neg c31] at H
                exact absurd H (by simp)
            · replace c29 := Bool.eq_false_iff.mpr c29
              subst c29
              have H1 : ((expr_And.f t340 t344).bind fun t351 => ((expr_Or.f t340 t344).bind fun t354 => ((expr_Check.f t351).bind fun t357 => (if t357 = 0 then ((expr_Eval.f t340 l2).bind fun t358 => ((expr_Eval.f t351 l2).bind fun t359 => ((expr_And.f t344 t340).bind fun t360 => ((expr_Eval.f t360 l2).bind fun t363 => (if (t359 == t363) = true then ((expr_Eval.f t354 l2).bind fun t364 => ((expr_Or.f t344 t340).bind fun t365 => ((expr_Eval.f t365 l2).bind fun t368 => (if (t364 == t368) = true then ((expr_And.f t340 t340).bind fun t369 => ((expr_Eval.f t369 l2).bind fun t372 => (if (t372 == t358) = true then ((expr_Or.f t340 t340).bind fun t373 => ((expr_Eval.f t373 l2).bind fun t376 => (if (t376 == t358) = true then (some ((t351.length : Int) == (wrap64 ((wrap64 ((t340.length : Int) + (t344.length : Int))) + 1)))) else (some false)))) else (some false)))) else (some false))))) else (some false)))))) else (some true))))) = some r := by rw [if_neg (show ¬ (false = true) by decide)] at H; exact H
              clear H
              have H := H1
              clear H1
              replace H := Option.bind_eq_some_iff.mp H
              obtain ⟨t351, A340, H⟩ := H
              replace H : ((expr_Or.f t340 t344).bind fun t354 => ((expr_Check.f t351).bind fun t357 => (if t357 = 0 then ((expr_Eval.f t340 l2).bind fun t358 => ((expr_Eval.f t351 l2).bind fun t359 => ((expr_And.f t344 t340).bind fun t360 => ((expr_Eval.f t360 l2).bind fun t363 => (if (t359 == t363) = true then ((expr_Eval.f t354 l2).bind fun t364 => ((expr_Or.f t344 t340).bind fun t365 => ((expr_Eval.f t365 l2).bind fun t368 => (if (t364 == t368) = true then ((expr_And.f t340 t340).bind fun t369 => ((expr_Eval.f t369 l2).bind fun t372 => (if (t372 == t358) = true then ((expr_Or.f t340 t340).bind fun t373 => ((expr_Eval.f t373 l2).bind fun t376 => (if (t376 == t358) = true then (some ((t351.length : Int) == (wrap64 ((wrap64 ((t340.length : Int) + (t344.length : Int))) + 1)))) else (some false)))) else (some false)))) else (some false))))) else (some false)))))) else (some true)))) = some r := H
              have A34 := Aside0.mk A340
              clear A340
              replace H := Option.bind_eq_some_iff.mp H
              obtain ⟨t354, A350, H⟩ := H
              replace H : ((expr_Check.f t351).bind fun t357 => (if t357 = 0 then ((expr_Eval.f t340 l2).bind fun t358 => ((expr_Eval.f t351 l2).bind fun t359 => ((expr_And.f t344 t340).bind fun t360 => ((expr_Eval.f t360 l2).bind fun t363 => (if (t359 == t363) = true then ((expr_Eval.f t354 l2).bind fun t364 => ((expr_Or.f t344 t340).bind fun t365 => ((expr_Eval.f t365 l2).bind fun t368 => (if (t364 == t368) = true then ((expr_And.f t340 t340).bind fun t369 => ((expr_Eval.f t369 l2).bind fun t372 => (if (t372 == t358) = true then ((expr_Or.f t340 t340).bind fun t373 => ((expr_Eval.f t373 l2).bind fun t376 => (if (t376 == t358) = true then (some ((t351.length : Int) == (wrap64 ((wrap64 ((t340.length : Int) + (t344.length : Int))) + 1)))) else (some false)))) else (some false)))) else (some false))))) else (some false)))))) else (some true))) = some r := H
              have A35 := Aside0.mk A350
              clear A350
              replace H := Option.bind_eq_some_iff.mp H
              obtain ⟨t357, A360, H⟩ := H
              replace H : (if t357 = 0 then ((expr_Eval.f t340 l2).bind fun t358 => ((expr_Eval.f t351 l2).bind fun t359 => ((expr_And.f t344 t340).bind fun t360 => ((expr_Eval.f t360 l2).bind fun t363 => (if (t359 == t363) = true then ((expr_Eval.f t354 l2).bind fun t364 => ((expr_Or.f t344 t340).bind fun t365 => ((expr_Eval.f t365 l2).bind fun t368 => (if (t364 == t368) = true then ((expr_And.f t340 t340).bind fun t369 => ((expr_Eval.f t369 l2).bind fun t372 => (if (t372 == t358) = true then ((expr_Or.f t340 t340).bind fun t373 => ((expr_Eval.f t373 l2).bind fun t376 => (if (t376 == t358) = true then (some ((t351.length : Int) == (wrap64 ((wrap64 ((t340.length : Int) + (t344.length : Int))) + 1)))) else (some false)))) else (some false)))) else (some false))))) else (some false)))))) else (some true)) = some r := H
              have A36 := Aside0.mk A360
              clear A360
              by_cases c37 : t357 = 0
              · rw [if_pos c37] at H
                have c37b0 : (t357 == 0) = true := beq_iff_eq.mpr c37
                have c37b1 : (t357 != 0) = false := bne_eq_false_iff_eq.mpr c37
                clear c37
                replace H := Option.bind_eq_some_iff.mp H
                obtain ⟨t358, A380, H⟩ := H
                replace H : ((expr_Eval.f t351 l2).bind fun t359 => ((expr_And.f t344 t340).bind fun t360 => ((expr_Eval.f t360 l2).bind fun t363 => (if (t359 == t363) = true then ((expr_Eval.f t354 l2).bind fun t364 => ((expr_Or.f t344 t340).bind fun t365 => ((expr_Eval.f t365 l2).bind fun t368 => (if (t364 == t368) = true then ((expr_And.f t340 t340).bind fun t369 => ((expr_Eval.f t369 l2).bind fun t372 => (if (t372 == t358) = true then ((expr_Or.f t340 t340).bind fun t373 => ((expr_Eval.f t373 l2).bind fun t376 => (if (t376 == t358) = true then (some ((t351.length : Int) == (wrap64 ((wrap64 ((t340.length : Int) + (t344.length : Int))) + 1)))) else (some false)))) else (some false)))) else (some false))))) else (some false))))) = some r := H
                have A38 := Aside0.mk A380
                clear A380
                replace H := Option.bind_eq_some_iff.mp H
                obtain ⟨t359, A390, H⟩ := H
                replace H : ((expr_And.f t344 t340).bind fun t360 => ((expr_Eval.f t360 l2).bind fun t363 => (if (t359 == t363) = true then ((expr_Eval.f t354 l2).bind fun t364 => ((expr_Or.f t344 t340).bind fun t365 => ((expr_Eval.f t365 l2).bind fun t368 => (if (t364 == t368) = true then ((expr_And.f t340 t340).bind fun t369 => ((expr_Eval.f t369 l2).bind fun t372 => (if (t372 == t358) = true then ((expr_Or.f t340 t340).bind fun t373 => ((expr_Eval.f t373 l2).bind fun t376 => (if (t376 == t358) = true then (some ((t351.length : Int) == (wrap64 ((wrap64 ((t340.length : Int) + (t344.length : Int))) + 1)))) else (some false)))) else (some false)))) else (some false))))) else (some false)))) = some r := H
                have A39 := Aside0.mk A390
                clear A390
                replace H := Option.bind_eq_some_iff.mp H
                obtain ⟨t360, A400, H⟩ := H
                replace H : ((expr_Eval.f t360 l2).bind fun t363 => (if (t359 == t363) = true then ((expr_Eval.f t354 l2).bind fun t364 => ((expr_Or.f t344 t340).bind fun t365 => ((expr_Eval.f t365 l2).bind fun t368 => (if (t364 == t368) = true then ((expr_And.f t340 t340).bind fun t369 => ((expr_Eval.f t369 l2).bind fun t372 => (if (t372 == t358) = true then ((expr_Or.f t340 t340).bind fun t373 => ((expr_Eval.f t373 l2).bind fun t376 => (if (t376 == t358) = true then (some ((t351.length : Int) == (wrap64 ((wrap64 ((t340.length : Int) + (t344.length : Int))) + 1)))) else (some false)))) else (some false)))) else (some false))))) else (some false))) = some r := H
                have A40 := Aside0.mk A400
                clear A400
                replace H := Option.bind_eq_some_iff.mp H
                obtain ⟨t363, A410, H⟩ := H
                replace H : (if (t359 == t363) = true then ((expr_Eval.f t354 l2).bind fun t364 => ((expr_Or.f t344 t340).bind fun t365 => ((expr_Eval.f t365 l2).bind fun t368 => (if (t364 == t368) = true then ((expr_And.f t340 t340).bind fun t369 => ((expr_Eval.f t369 l2).bind fun t372 => (if (t372 == t358) = true then ((expr_Or.f t340 t340).bind fun t373 => ((expr_Eval.f t373 l2).bind fun t376 => (if (t376 == t358) = true then (some ((t351.length : Int) == (wrap64 ((wrap64 ((t340.length : Int) + (t344.length : Int))) + 1)))) else (some false)))) else (some false)))) else (some false))))) else (some false)) = some r := H
                have A41 := Aside0.mk A410
                clear A410
                by_cases c42 : (t359 == t363) = true
                · rw [if_pos c42] at H
                  have c42b0 : (t359 == t363) = true := c42
                  (try (have c42b1 : decide (t359 = t363) = true := by simpa using c42))
                  (try (have c42b2 : (t359 == t363) = true := by simpa using c42))
                  clear c42
                  replace H := Option.bind_eq_some_iff.mp H
                  obtain ⟨t364, A430, H⟩ := H
                  replace H : ((expr_Or.f t344 t340).bind fun t365 => ((expr_Eval.f t365 l2).bind fun t368 => (if (t364 == t368) = true then ((expr_And.f t340 t340).bind fun t369 => ((expr_Eval.f t369 l2).bind fun t372 => (if (t372 == t358) = true then ((expr_Or.f t340 t340).bind fun t373 => ((expr_Eval.f t373 l2).bind fun t376 => (if (t376 == t358) = true then (some ((t351.length : Int) == (wrap64 ((wrap64 ((t340.length : Int) + (t344.length : Int))) + 1)))) else (some false)))) else (some false)))) else (some false)))) = some r := H
                  have A43 := Aside0.mk A430
                  clear A430
                  replace H := Option.bind_eq_some_iff.mp H
                  obtain ⟨t365, A440, H⟩ := H
                  replace H : ((expr_Eval.f t365 l2).bind fun t368 => (if (t364 == t368) = true then ((expr_And.f t340 t340).bind fun t369 => ((expr_Eval.f t369 l2).bind fun t372 => (if (t372 == t358) = true then ((expr_Or.f t340 t340).bind fun t373 => ((expr_Eval.f t373 l2).bind fun t376 => (if (t376 == t358) = true then (some ((t351.length : Int) == (wrap64 ((wrap64 ((t340.length : Int) + (t344.length : Int))) + 1)))) else (some false)))) else (some false)))) else (some false))) = some r := H
                  have A44 := Aside0.mk A440
                  clear A440
                  replace H := Option.bind_eq_some_iff.mp H
                  obtain ⟨t368, A450, H⟩ := H
                  replace H : (if (t364 == t368) = true then ((expr_And.f t340 t340).bind fun t369 => ((expr_Eval.f t369 l2).bind fun t372 => (if (t372 == t358) = true then ((expr_Or.f t340 t340).bind fun t373 => ((expr_Eval.f t373 l2).bind fun t376 => (if (t376 == t358) = true then (some ((t351.length : Int) == (wrap64 ((wrap64 ((t340.length : Int) + (t344.length : Int))) + 1)))) else (some false)))) else (some false)))) else (some false)) = some r := H
                  have A45 := Aside0.mk A450
                  clear A450
                  by_cases c46 : (t364 == t368) = true
                  · rw [if_pos c46] at H
                    have c46b0 : (t364 == t368) = true := c46
                    (try (have c46b1 : decide (t364 = t368) = true := by simpa using c46))
                    (try (have c46b2 : (t364 == t368) = true := by simpa using c46))
                    clear c46
                    replace H := Option.bind_eq_some_iff.mp H
                    obtain ⟨t369, A470, H⟩ := H
                    replace H : ((expr_Eval.f t369 l2).bind fun t372 => (if (t372 == t358) = true then ((expr_Or.f t340 t340).bind fun t373 => ((expr_Eval.f t373 l2).bind fun t376 => (if (t376 == t358) = true then (some ((t351.length : Int) == (wrap64 ((wrap64 ((t340.length : Int) + (t344.length : Int))) + 1)))) else (some false)))) else (some false))) = some r := H
                    have A47 := Aside0.mk A470
                    clear A470
                    replace H := Option.bind_eq_some_iff.mp H
                    obtain ⟨t372, A480, H⟩ := H
                    replace H : (if (t372 == t358) = true then ((expr_Or.f t340 t340).bind fun t373 => ((expr_Eval.f t373 l2).bind fun t376 => (if (t376 == t358) = true then (some ((t351.length : Int) == (wrap64 ((wrap64 ((t340.length : Int) + (t344.length : Int))) + 1)))) else (some false)))) else (some false)) = some r := H
                    have A48 := Aside0.mk A480
                    clear A480
                    by_cases c49 : (t372 == t358) = true
                    · rw [if_pos c49] at H
                      have c49b0 : (t372 == t358) = true := c49
                      (try (have c49b1 : decide (t372 = t358) = true := by simpa using c49))
                      (try (have c49b2 : (t372 == t358) = true := by simpa using c49))
                      clear c49
                      replace H := Option.bind_eq_some_iff.mp H
                      obtain ⟨t373, A500, H⟩ := H
                      replace H : ((expr_Eval.f t373 l2).bind fun t376 => (if (t376 == t358) = true then (some ((t351.length : Int) == (wrap64 ((wrap64 ((t340.length : Int) + (t344.length : Int))) + 1)))) else (some false))) = some r := H
                      have A50 := Aside0.mk A500
                      clear A500
                      replace H := Option.bind_eq_some_iff.mp H
                      obtain ⟨t376, A510, H⟩ := H
                      replace H : (if (t376 == t358) = true then (some ((t351.length : Int) == (wrap64 ((wrap64 ((t340.length : Int) + (t344.length : Int))) + 1)))) else (some false)) = some r := H
                      have A51 := Aside0.mk A510
                      clear A510
                      by_cases c52 : (t376 == t358) = true
                      · rw [if_pos c52] at H
                        have c52b0 : (t376 == t358) = true := c52
                        (try (have c52b1 : decide (t376 = t358) = true := by simpa using c52))
                        (try (have c52b2 : (t376 == t358) = true := by simpa using c52))
                        clear c52
                        obtain rfl := Option.some.inj H
                        obtain ⟨Ao53, co53, eo53⟩ := Kd.R_slice HO_7.out
                        subst eo53
                        obtain ⟨Ao54, co54, eo54⟩ := Kd.R_slice HO_9.out
                        subst eo54
                        go_wp2_with (first | ((with_reducible refine gate_callee (f := 20) rfl ?_); refine goesL_ (some 66) rfl rfl Tryd.func20 (by kernel_rfl) rfl #[.slice Ao53 t340.length co53, .slice Ao54 t344.length co54] rfl (by (try simp only [List.map_toArray, List.map_cons, List.map_nil]); first | done | rfl | (simp only [List.length_drop, List.length_take]; rfl) | (simp only [ByteArray.size_extract, Nat.min_self]; done) | (simp only [ByteArray.size_append, StrMore.size_lit, List.length_cons, List.length_nil, Nat.zero_add, Nat.reduceAdd] <;> rfl)) ?_; (with_reducible refine (expr_And.calls _ _ t340 _ _ t344 t351 _ ?side1 ?side2 ?side3 ?side4 A34.out).mono ?_); (all_goals (try clear A34)); (case side1 => repeat (first | exact (Kd.R_reads' HO_7.out).2.2 | (with_reducible refine Kd.C_alloc ?_ _) | (with_reducible refine Kd.C_drewN ?_ _) | (with_reducible refine Kd.C_drew ?_))); (case side2 => exact (Kd.R_reads' HO_7.out).2.1); (case side3 => repeat (first | exact (Kd.R_reads' HO_9.out).2.2 | (with_reducible refine Kd.C_alloc ?_ _) | (with_reducible refine Kd.C_drewN ?_ _) | (with_reducible refine Kd.C_drew ?_))); (case side4 => exact (Kd.R_reads' HO_9.out).2.1); rintro e w55 ⟨v352, rfl, ho0, hb⟩; refine ⟨_, rfl, ?_⟩; have n0_ := Aside0.mk (Kd.R_elder' (by (with_reducible repeat (first | apply Kd.R_alloc | apply Kd.R_drewN | apply Kd.R_drew)); exact HO_7.out) (Kd.R_base ho0) hb); have n1_ := Aside0.mk (Kd.R_elder' (by (with_reducible repeat (first | apply Kd.R_alloc | apply Kd.R_drewN | apply Kd.R_drew)); exact HO_9.out) (Kd.R_base ho0) hb); have n2_ := Aside0.mk (Kd.R_lower (Kd.R_new' (Kd.R_new' ho0 (Kd.R_lt (by (with_reducible repeat (first | apply Kd.R_alloc | apply Kd.R_drewN | apply Kd.R_drew)); exact HO_7.out))) (Kd.R_lt (by (with_reducible repeat (first | apply Kd.R_alloc | apply Kd.R_drewN | apply Kd.R_drew)); exact HO_9.out))) (below_size (by repeat (first | (with_reducible first | exact HB.out | apply below_alloc | apply pw_below_drewN | apply below_drew1) | exact HB.out)))); have n3_ := Aside0.mk (below_step (by repeat (first | (with_reducible first | exact HB.out | apply below_alloc | apply pw_below_drewN | apply below_drew1) | exact HB.out)) hb); clear HO_7; clear HO_9; clear HB; have HO_7 := n0_; have HO_9 := n1_; have HO353 := n2_; have HB := n3_; clear n0_ n1_ n2_ n3_; (try clear hb); (try clear hb2); (try clear hk); (try clear hi); (try clear ho0)) | ((with_reducible refine gate_callee (f := 21) rfl ?_); refine goesL_ (some 69) rfl rfl Tryd.func21 (by kernel_rfl) rfl #[.slice Ao53 t340.length co53, .slice Ao54 t344.length co54] rfl (by (try simp only [List.map_toArray, List.map_cons, List.map_nil]); first | done | rfl | (simp only [List.length_drop, List.length_take]; rfl) | (simp only [ByteArray.size_extract, Nat.min_self]; done) | (simp only [ByteArray.size_append, StrMore.size_lit, List.length_cons, List.length_nil, Nat.zero_add, Nat.reduceAdd] <;> rfl)) ?_; (with_reducible refine (expr_Or.calls _ _ t340 _ _ t344 t354 _ ?side1 ?side2 ?side3 ?side4 A35.out).mono ?_); (all_goals (try clear A35)); (case side1 => repeat (first | exact (Kd.R_reads' HO_7.out).2.2 | (with_reducible refine Kd.C_alloc ?_ _) | (with_reducible refine Kd.C_drewN ?_ _) | (with_reducible refine Kd.C_drew ?_))); (case side2 => exact (Kd.R_reads' HO_7.out).2.1); (case side3 => repeat (first | exact (Kd.R_reads' HO_9.out).2.2 | (with_reducible refine Kd.C_alloc ?_ _) | (with_reducible refine Kd.C_drewN ?_ _) | (with_reducible refine Kd.C_drew ?_))); (case side4 => exact (Kd.R_reads' HO_9.out).2.1); rintro e w56 ⟨v355, rfl, ho0, hb⟩; refine ⟨_, rfl, ?_⟩; have n0_ := Aside0.mk (Kd.R_elder' (by (with_reducible repeat (first | apply Kd.R_alloc | apply Kd.R_drewN | apply Kd.R_drew)); exact HO_7.out) (Kd.R_base ho0) hb); have n1_ := Aside0.mk (Kd.R_elder' (by (with_reducible repeat (first | apply Kd.R_alloc | apply Kd.R_drewN | apply Kd.R_drew)); exact HO_9.out) (Kd.R_base ho0) hb); have n2_ := Aside0.mk (Kd.R_elder' (by (with_reducible repeat (first | apply Kd.R_alloc | apply Kd.R_drewN | apply Kd.R_drew)); exact HO353.out) (Kd.R_base ho0) hb); have n3_ := Aside0.mk (Kd.R_lower (Kd.R_new' (Kd.R_new' (Kd.R_new' ho0 (Kd.R_lt (by (with_reducible repeat (first | apply Kd.R_alloc | apply Kd.R_drewN | apply Kd.R_drew)); exact HO_7.out))) (Kd.R_lt (by (with_reducible repeat (first | apply Kd.R_alloc | apply Kd.R_drewN | apply Kd.R_drew)); exact HO_9.out))) (Kd.R_lt (by (with_reducible repeat (first | apply Kd.R_alloc | apply Kd.R_drewN | apply Kd.R_drew)); exact HO353.out))) (below_size (by repeat (first | (with_reducible first | exact HB.out | apply below_alloc | apply pw_below_drewN | apply below_drew1) | exact HB.out)))); have n4_ := Aside0.mk (below_step (by repeat (first | (with_reducible first | exact HB.out | apply below_alloc | apply pw_below_drewN | apply below_drew1) | exact HB.out)) hb); clear HO_7; clear HO_9; clear HO353; clear HB; have HO_7 := n0_; have HO_9 := n1_; have HO353 := n2_; have HO356 := n3_; have HB := n4_; clear n0_ n1_ n2_ n3_ n4_; (try clear hb); (try clear hb2); (try clear hk); (try clear hi); (try clear ho0); obtain ⟨Ao57, co57, eo57⟩ := Kd.R_slice HO353.out; subst eo57) | ((with_reducible refine gate_callee (f := 14) rfl ?_); refine goesL_ (some 71) rfl rfl Tryd.func14 (by kernel_rfl) rfl #[.slice Ao57 t351.length co57] rfl (by (try simp only [List.map_toArray, List.map_cons, List.map_nil]); first | done | rfl | (simp only [List.length_drop, List.length_take]; rfl) | (simp only [ByteArray.size_extract, Nat.min_self]; done) | (simp only [ByteArray.size_append, StrMore.size_lit, List.length_cons, List.length_nil, Nat.zero_add, Nat.reduceAdd] <;> rfl)) ?_; (with_reducible refine (expr_Check.calls _ _ t351 t357 _ ?side1 ?side2 A36.out).mono ?_); (case side1 => repeat (first | exact (Kd.R_reads' HO353.out).2.2 | (with_reducible refine Kd.C_alloc ?_ _) | (with_reducible refine Kd.C_drewN ?_ _) | (with_reducible refine Kd.C_drew ?_))); (case side2 => exact (Kd.R_reads' HO353.out).2.1); rintro e w58 ⟨rfl, hb⟩; refine ⟨_, rfl, ?_⟩; have n0_ := Aside0.mk (Kd.R_below (by (with_reducible repeat (first | apply Kd.R_alloc | apply Kd.R_drewN | apply Kd.R_drew)); exact HO_7.out) hb); have n1_ := Aside0.mk (Kd.R_below (by (with_reducible repeat (first | apply Kd.R_alloc | apply Kd.R_drewN | apply Kd.R_drew)); exact HO_9.out) hb); have n2_ := Aside0.mk (Kd.R_below (by (with_reducible repeat (first | apply Kd.R_alloc | apply Kd.R_drewN | apply Kd.R_drew)); exact HO353.out) hb); have n3_ := Aside0.mk (Kd.R_below (by (with_reducible repeat (first | apply Kd.R_alloc | apply Kd.R_drewN | apply Kd.R_drew)); exact HO356.out) hb); have n4_ := Aside0.mk (below_step (by repeat (first | (with_reducible first | exact HB.out | apply below_alloc | apply pw_below_drewN | apply below_drew1) | exact HB.out)) hb); clear HO_7; clear HO_9; clear HO353; clear HO356; clear HB; have HO_7 := n0_; have HO_9 := n1_; have HO353 := n2_; have HO356 := n3_; have HB := n4_; clear n0_ n1_ n2_ n3_ n4_; (try clear hb); (try clear hb2); (try clear hk); (try clear hi)) | ((with_reducible refine gate_callee (f := 17) rfl ?_); refine goesL_ (some 75) rfl rfl Tryd.func17 (by kernel_rfl) rfl #[.slice Ao53 t340.length co53, .slice A2 l2.length c2] rfl (by (try simp only [List.map_toArray, List.map_cons, List.map_nil]); first | done | rfl | (simp only [List.length_drop, List.length_take]; rfl) | (simp only [ByteArray.size_extract, Nat.min_self]; done) | (simp only [ByteArray.size_append, StrMore.size_lit, List.length_cons, List.length_nil, Nat.zero_add, Nat.reduceAdd] <;> rfl)) ?_; (with_reducible refine (expr_Eval.calls _ _ t340 _ _ l2 t358 _ ?side1 ?side2 ?side3 ?side4 A38.out).mono ?_); (all_goals (try clear A38)); (case side1 => repeat (first | exact (Kd.R_reads' HO_7.out).2.2 | (with_reducible refine Kd.C_alloc ?_ _) | (with_reducible refine Kd.C_drewN ?_ _) | (with_reducible refine Kd.C_drew ?_))); (case side2 => exact (Kd.R_reads' HO_7.out).2.1); (case side3 => repeat (first | exact (Kd.C_below HR2.out HB.out) | (with_reducible refine Kd.C_alloc ?_ _) | (with_reducible refine Kd.C_drewN ?_ _) | (with_reducible refine Kd.C_drew ?_))); (case side4 => exact HC2.out); rintro e w59 ⟨rfl, hb⟩; refine ⟨_, rfl, ?_⟩; have n0_ := Aside0.mk (Kd.R_below (by (with_reducible repeat (first | apply Kd.R_alloc | apply Kd.R_drewN | apply Kd.R_drew)); exact HO_7.out) hb); have n1_ := Aside0.mk (Kd.R_below (by (with_reducible repeat (first | apply Kd.R_alloc | apply Kd.R_drewN | apply Kd.R_drew)); exact HO_9.out) hb); have n2_ := Aside0.mk (Kd.R_below (by (with_reducible repeat (first | apply Kd.R_alloc | apply Kd.R_drewN | apply Kd.R_drew)); exact HO353.out) hb); have n3_ := Aside0.mk (Kd.R_below (by (with_reducible repeat (first | apply Kd.R_alloc | apply Kd.R_drewN | apply Kd.R_drew)); exact HO356.out) hb); have n4_ := Aside0.mk (below_step (by repeat (first | (with_reducible first | exact HB.out | apply below_alloc | apply pw_below_drewN | apply below_drew1) | exact HB.out)) hb); clear HO_7; clear HO_9; clear HO353; clear HO356; clear HB; have HO_7 := n0_; have HO_9 := n1_; have HO353 := n2_; have HO356 := n3_; have HB := n4_; clear n0_ n1_ n2_ n3_ n4_; (try clear hb); (try clear hb2); (try clear hk); (try clear hi)) | ((with_reducible refine gate_callee (f := 17) rfl ?_); refine goesL_ (some 78) rfl rfl Tryd.func17 (by kernel_rfl) rfl #[.slice Ao57 t351.length co57, .slice A2 l2.length c2] rfl (by (try simp only [List.map_toArray, List.map_cons, List.map_nil]); first | done | rfl | (simp only [List.length_drop, List.length_take]; rfl) | (simp only [ByteArray.size_extract, Nat.min_self]; done) | (simp only [ByteArray.size_append, StrMore.size_lit, List.length_cons, List.length_nil, Nat.zero_add, Nat.reduceAdd] <;> rfl)) ?_; (with_reducible refine (expr_Eval.calls _ _ t351 _ _ l2 t359 _ ?side1 ?side2 ?side3 ?side4 A39.out).mono ?_); (all_goals (try clear A39)); (case side1 => repeat (first | exact (Kd.R_reads' HO353.out).2.2 | (with_reducible refine Kd.C_alloc ?_ _) | (with_reducible refine Kd.C_drewN ?_ _) | (with_reducible refine Kd.C_drew ?_))); (case side2 => exact (Kd.R_reads' HO353.out).2.1); (case side3 => repeat (first | exact (Kd.C_below HR2.out HB.out) | (with_reducible refine Kd.C_alloc ?_ _) | (with_reducible refine Kd.C_drewN ?_ _) | (with_reducible refine Kd.C_drew ?_))); (case side4 => exact HC2.out); rintro e w60 ⟨rfl, hb⟩; refine ⟨_, rfl, ?_⟩; have n0_ := Aside0.mk (Kd.R_below (by (with_reducible repeat (first | apply Kd.R_alloc | apply Kd.R_drewN | apply Kd.R_drew)); exact HO_7.out) hb); have n1_ := Aside0.mk (Kd.R_below (by (with_reducible repeat (first | apply Kd.R_alloc | apply Kd.R_drewN | apply Kd.R_drew)); exact HO_9.out) hb); have n2_ := Aside0.mk (Kd.R_below (by (with_reducible repeat (first | apply Kd.R_alloc | apply Kd.R_drewN | apply Kd.R_drew)); exact HO353.out) hb); have n3_ := Aside0.mk (Kd.R_below (by (with_reducible repeat (first | apply Kd.R_alloc | apply Kd.R_drewN | apply Kd.R_drew)); exact HO356.out) hb); have n4_ := Aside0.mk (below_step (by repeat (first | (with_reducible first | exact HB.out | apply below_alloc | apply pw_below_drewN | apply below_drew1) | exact HB.out)) hb); clear HO_7; clear HO_9; clear HO353; clear HO356; clear HB; have HO_7 := n0_; have HO_9 := n1_; have HO353 := n2_; have HO356 := n3_; have HB := n4_; clear n0_ n1_ n2_ n3_ n4_; (try clear hb); (try clear hb2); (try clear hk); (try clear hi)) | ((with_reducible refine gate_callee (f := 20) rfl ?_); refine goesL_ (some 81) rfl rfl Tryd.func20 (by kernel_rfl) rfl #[.slice Ao54 t344.length co54, .slice Ao53 t340.length co53] rfl (by (try simp only [List.map_toArray, List.map_cons, List.map_nil]); first | done | rfl | (simp only [List.length_drop, List.length_take]; rfl) | (simp only [ByteArray.size_extract, Nat.min_self]; done) | (simp only [ByteArray.size_append, StrMore.size_lit, List.length_cons, List.length_nil, Nat.zero_add, Nat.reduceAdd] <;> rfl)) ?_; (with_reducible refine (expr_And.calls _ _ t344 _ _ t340 t360 _ ?side1 ?side2 ?side3 ?side4 A40.out).mono ?_); (all_goals (try clear A40)); (case side1 => repeat (first | exact (Kd.R_reads' HO_9.out).2.2 | (with_reducible refine Kd.C_alloc ?_ _) | (with_reducible refine Kd.C_drewN ?_ _) | (with_reducible refine Kd.C_drew ?_))); (case side2 => exact (Kd.R_reads' HO_9.out).2.1); (case side3 => repeat (first | exact (Kd.R_reads' HO_7.out).2.2 | (with_reducible refine Kd.C_alloc ?_ _) | (with_reducible refine Kd.C_drewN ?_ _) | (with_reducible refine Kd.C_drew ?_))); (case side4 => exact (Kd.R_reads' HO_7.out).2.1); rintro e w61 ⟨v361, rfl, ho0, hb⟩; refine ⟨_, rfl, ?_⟩; have n0_ := Aside0.mk (Kd.R_elder' (by (with_reducible repeat (first | apply Kd.R_alloc | apply Kd.R_drewN | apply Kd.R_drew)); exact HO_7.out) (Kd.R_base ho0) hb); have n1_ := Aside0.mk (Kd.R_elder' (by (with_reducible repeat (first | apply Kd.R_alloc | apply Kd.R_drewN | apply Kd.R_drew)); exact HO_9.out) (Kd.R_base ho0) hb); have n2_ := Aside0.mk (Kd.R_elder' (by (with_reducible repeat (first | apply Kd.R_alloc | apply Kd.R_drewN | apply Kd.R_drew)); exact HO353.out) (Kd.R_base ho0) hb); have n3_ := Aside0.mk (Kd.R_elder' (by (with_reducible repeat (first | apply Kd.R_alloc | apply Kd.R_drewN | apply Kd.R_drew)); exact HO356.out) (Kd.R_base ho0) hb); have n4_ := Aside0.mk (Kd.R_lower (Kd.R_new' (Kd.R_new' (Kd.R_new' (Kd.R_new' ho0 (Kd.R_lt (by (with_reducible repeat (first | apply Kd.R_alloc | apply Kd.R_drewN | apply Kd.R_drew)); exact HO_7.out))) (Kd.R_lt (by (with_reducible repeat (first | apply Kd.R_alloc | apply Kd.R_drewN | apply Kd.R_drew)); exact HO_9.out))) (Kd.R_lt (by (with_reducible repeat (first | apply Kd.R_alloc | apply Kd.R_drewN | apply Kd.R_drew)); exact HO353.out))) (Kd.R_lt (by (with_reducible repeat (first | apply Kd.R_alloc | apply Kd.R_drewN | apply Kd.R_drew)); exact HO356.out))) (below_size (by repeat (first | (with_reducible first | exact HB.out | apply below_alloc | apply pw_below_drewN | apply below_drew1) | exact HB.out)))); have n5_ := Aside0.mk (below_step (by repeat (first | (with_reducible first | exact HB.out | apply below_alloc | apply pw_below_drewN | apply below_drew1) | exact HB.out)) hb); clear HO_7; clear HO_9; clear HO353; clear HO356; clear HB; have HO_7 := n0_; have HO_9 := n1_; have HO353 := n2_; have HO356 := n3_; have HO362 := n4_; have HB := n5_; clear n0_ n1_ n2_ n3_ n4_ n5_; (try clear hb); (try clear hb2); (try clear hk); (try clear hi); (try clear ho0); obtain ⟨Ao62, co62, eo62⟩ := Kd.R_slice HO362.out; subst eo62) | ((with_reducible refine gate_callee (f := 17) rfl ?_); refine goesL_ (some 83) rfl rfl Tryd.func17 (by kernel_rfl) rfl #[.slice Ao62 t360.length co62, .slice A2 l2.length c2] rfl (by (try simp only [List.map_toArray, List.map_cons, List.map_nil]); first | done | rfl | (simp only [List.length_drop, List.length_take]; rfl) | (simp only [ByteArray.size_extract, Nat.min_self]; done) | (simp only [ByteArray.size_append, StrMore.size_lit, List.length_cons, List.length_nil, Nat.zero_add, Nat.reduceAdd] <;> rfl)) ?_; (with_reducible refine (expr_Eval.calls _ _ t360 _ _ l2 t363 _ ?side1 ?side2 ?side3 ?side4 A41.out).mono ?_); (all_goals (try clear A41)); (case side1 => repeat (first | exact (Kd.R_reads' HO362.out).2.2 | (with_reducible refine Kd.C_alloc ?_ _) | (with_reducible refine Kd.C_drewN ?_ _) | (with_reducible refine Kd.C_drew ?_))); (case side2 => exact (Kd.R_reads' HO362.out).2.1); (case side3 => repeat (first | exact (Kd.C_below HR2.out HB.out) | (with_reducible refine Kd.C_alloc ?_ _) | (with_reducible refine Kd.C_drewN ?_ _) | (with_reducible refine Kd.C_drew ?_))); (case side4 => exact HC2.out); rintro e w63 ⟨rfl, hb⟩; refine ⟨_, rfl, ?_⟩; have n0_ := Aside0.mk (Kd.R_below (by (with_reducible repeat (first | apply Kd.R_alloc | apply Kd.R_drewN | apply Kd.R_drew)); exact HO_7.out) hb); have n1_ := Aside0.mk (Kd.R_below (by (with_reducible repeat (first | apply Kd.R_alloc | apply Kd.R_drewN | apply Kd.R_drew)); exact HO_9.out) hb); have n2_ := Aside0.mk (Kd.R_below (by (with_reducible repeat (first | apply Kd.R_alloc | apply Kd.R_drewN | apply Kd.R_drew)); exact HO353.out) hb); have n3_ := Aside0.mk (Kd.R_below (by (with_reducible repeat (first | apply Kd.R_alloc | apply Kd.R_drewN | apply Kd.R_drew)); exact HO356.out) hb); have n4_ := Aside0.mk (Kd.R_below (by (with_reducible repeat (first | apply Kd.R_alloc | apply Kd.R_drewN | apply Kd.R_drew)); exact HO362.out) hb); have n5_ := Aside0.mk (below_step (by repeat (first | (with_reducible first | exact HB.out | apply below_alloc | apply pw_below_drewN | apply below_drew1) | exact HB.out)) hb); clear HO_7; clear HO_9; clear HO353; clear HO356; clear HO362; clear HB; have HO_7 := n0_; have HO_9 := n1_; have HO353 := n2_; have HO356 := n3_; have HO362 := n4_; have HB := n5_; clear n0_ n1_ n2_ n3_ n4_ n5_; (try clear hb); (try clear hb2); (try clear hk); (try clear hi); obtain ⟨Ao64, co64, eo64⟩ := Kd.R_slice HO356.out; subst eo64) | (go_at_call 17; (with_reducible refine (expr_Eval.calls _ _ t354 _ _ l2 t364 _ ?side1 ?side2 ?side3 ?side4 A43.out).mono ?_); (all_goals (try clear A43)); (case side1 => repeat (first | exact (Kd.R_reads' HO356.out).2.2 | (with_reducible refine Kd.C_alloc ?_ _) | (with_reducible refine Kd.C_drewN ?_ _) | (with_reducible refine Kd.C_drew ?_))); (case side2 => exact (Kd.R_reads' HO356.out).2.1); (case side3 => repeat (first | exact (Kd.C_below HR2.out HB.out) | (with_reducible refine Kd.C_alloc ?_ _) | (with_reducible refine Kd.C_drewN ?_ _) | (with_reducible refine Kd.C_drew ?_))); (case side4 => exact HC2.out); rintro e w65 ⟨rfl, hb⟩; have n0_ := Aside0.mk (Kd.R_below (by (with_reducible repeat (first | apply Kd.R_alloc | apply Kd.R_drewN | apply Kd.R_drew)); exact HO_7.out) hb); have n1_ := Aside0.mk (Kd.R_below (by (with_reducible repeat (first | apply Kd.R_alloc | apply Kd.R_drewN | apply Kd.R_drew)); exact HO_9.out) hb); have n2_ := Aside0.mk (Kd.R_below (by (with_reducible repeat (first | apply Kd.R_alloc | apply Kd.R_drewN | apply Kd.R_drew)); exact HO353.out) hb); have n3_ := Aside0.mk (Kd.R_below (by (with_reducible repeat (first | apply Kd.R_alloc | apply Kd.R_drewN | apply Kd.R_drew)); exact HO356.out) hb); have n4_ := Aside0.mk (Kd.R_below (by (with_reducible repeat (first | apply Kd.R_alloc | apply Kd.R_drewN | apply Kd.R_drew)); exact HO362.out) hb); have n5_ := Aside0.mk (below_step (by repeat (first | (with_reducible first | exact HB.out | apply below_alloc | apply pw_below_drewN | apply below_drew1) | exact HB.out)) hb); clear HO_7; clear HO_9; clear HO353; clear HO356; clear HO362; clear HB; have HO_7 := n0_; have HO_9 := n1_; have HO353 := n2_; have HO356 := n3_; have HO362 := n4_; have HB := n5_; clear n0_ n1_ n2_ n3_ n4_ n5_; (try clear hb); (try clear hb2); (try clear hk); (try clear hi)) | (go_at_call 21; (with_reducible refine (expr_Or.calls _ _ t344 _ _ t340 t365 _ ?side1 ?side2 ?side3 ?side4 A44.out).mono ?_); (all_goals (try clear A44)); (case side1 => repeat (first | exact (Kd.R_reads' HO_9.out).2.2 | (with_reducible refine Kd.C_alloc ?_ _) | (with_reducible refine Kd.C_drewN ?_ _) | (with_reducible refine Kd.C_drew ?_))); (case side2 => exact (Kd.R_reads' HO_9.out).2.1); (case side3 => repeat (first | exact (Kd.R_reads' HO_7.out).2.2 | (with_reducible refine Kd.C_alloc ?_ _) | (with_reducible refine Kd.C_drewN ?_ _) | (with_reducible refine Kd.C_drew ?_))); (case side4 => exact (Kd.R_reads' HO_7.out).2.1); rintro e w66 ⟨v366, rfl, ho0, hb⟩; have n0_ := Aside0.mk (Kd.R_elder' (by (with_reducible repeat (first | apply Kd.R_alloc | apply Kd.R_drewN | apply Kd.R_drew)); exact HO_7.out) (Kd.R_base ho0) hb); have n1_ := Aside0.mk (Kd.R_elder' (by (with_reducible repeat (first | apply Kd.R_alloc | apply Kd.R_drewN | apply Kd.R_drew)); exact HO_9.out) (Kd.R_base ho0) hb); have n2_ := Aside0.mk (Kd.R_elder' (by (with_reducible repeat (first | apply Kd.R_alloc | apply Kd.R_drewN | apply Kd.R_drew)); exact HO353.out) (Kd.R_base ho0) hb); have n3_ := Aside0.mk (Kd.R_elder' (by (with_reducible repeat (first | apply Kd.R_alloc | apply Kd.R_drewN | apply Kd.R_drew)); exact HO356.out) (Kd.R_base ho0) hb); have n4_ := Aside0.mk (Kd.R_elder' (by (with_reducible repeat (first | apply Kd.R_alloc | apply Kd.R_drewN | apply Kd.R_drew)); exact HO362.out) (Kd.R_base ho0) hb); have n5_ := Aside0.mk (Kd.R_lower (Kd.R_new' (Kd.R_new' (Kd.R_new' (Kd.R_new' (Kd.R_new' ho0 (Kd.R_lt (by (with_reducible repeat (first | apply Kd.R_alloc | apply Kd.R_drewN | apply Kd.R_drew)); exact HO_7.out))) (Kd.R_lt (by (with_reducible repeat (first | apply Kd.R_alloc | apply Kd.R_drewN | apply Kd.R_drew)); exact HO_9.out))) (Kd.R_lt (by (with_reducible repeat (first | apply Kd.R_alloc | apply Kd.R_drewN | apply Kd.R_drew)); exact HO353.out))) (Kd.R_lt (by (with_reducible repeat (first | apply Kd.R_alloc | apply Kd.R_drewN | apply Kd.R_drew)); exact HO356.out))) (Kd.R_lt (by (with_reducible repeat (first | apply Kd.R_alloc | apply Kd.R_drewN | apply Kd.R_drew)); exact HO362.out))) (below_size (by repeat (first | (with_reducible first | exact HB.out | apply below_alloc | apply pw_below_drewN | apply below_drew1) | exact HB.out)))); have n6_ := Aside0.mk (below_step (by repeat (first | (with_reducible first | exact HB.out | apply below_alloc | apply pw_below_drewN | apply below_drew1) | exact HB.out)) hb); clear HO_7; clear HO_9; clear HO353; clear HO356; clear HO362; clear HB; have HO_7 := n0_; have HO_9 := n1_; have HO353 := n2_; have HO356 := n3_; have HO362 := n4_; have HO367 := n5_; have HB := n6_; clear n0_ n1_ n2_ n3_ n4_ n5_ n6_; (try clear hb); (try clear hb2); (try clear hk); (try clear hi); (try clear ho0); obtain ⟨Ao67, co67, eo67⟩ := Kd.R_slice HO367.out; subst eo67) | (go_at_call 17; (with_reducible refine (expr_Eval.calls _ _ t365 _ _ l2 t368 _ ?side1 ?side2 ?side3 ?side4 A45.out).mono ?_); (all_goals (try clear A45)); (case side1 => repeat (first | exact (Kd.R_reads' HO367.out).2.2 | (with_reducible refine Kd.C_alloc ?_ _) | (with_reducible refine Kd.C_drewN ?_ _) | (with_reducible refine Kd.C_drew ?_))); (case side2 => exact (Kd.R_reads' HO367.out).2.1); (case side3 => repeat (first | exact (Kd.C_below HR2.out HB.out) | (with_reducible refine Kd.C_alloc ?_ _) | (with_reducible refine Kd.C_drewN ?_ _) | (with_reducible refine Kd.C_drew ?_))); (case side4 => exact HC2.out); rintro e w68 ⟨rfl, hb⟩; have n0_ := Aside0.mk (Kd.R_below (by (with_reducible repeat (first | apply Kd.R_alloc | apply Kd.R_drewN | apply Kd.R_drew)); exact HO_7.out) hb); have n1_ := Aside0.mk (Kd.R_below (by (with_reducible repeat (first | apply Kd.R_alloc | apply Kd.R_drewN | apply Kd.R_drew)); exact HO_9.out) hb); have n2_ := Aside0.mk (Kd.R_below (by (with_reducible repeat (first | apply Kd.R_alloc | apply Kd.R_drewN | apply Kd.R_drew)); exact HO353.out) hb); have n3_ := Aside0.mk (Kd.R_below (by (with_reducible repeat (first | apply Kd.R_alloc | apply Kd.R_drewN | apply Kd.R_drew)); exact HO356.out) hb); have n4_ := Aside0.mk (Kd.R_below (by (with_reducible repeat (first | apply Kd.R_alloc | apply Kd.R_drewN | apply Kd.R_drew)); exact HO362.out) hb); have n5_ := Aside0.mk (Kd.R_below (by (with_reducible repeat (first | apply Kd.R_alloc | apply Kd.R_drewN | apply Kd.R_drew)); exact HO367.out) hb); have n6_ := Aside0.mk (below_step (by repeat (first | (with_reducible first | exact HB.out | apply below_alloc | apply pw_below_drewN | apply below_drew1) | exact HB.out)) hb); clear HO_7; clear HO_9; clear HO353; clear HO356; clear HO362; clear HO367; clear HB; have HO_7 := n0_; have HO_9 := n1_; have HO353 := n2_; have HO356 := n3_; have HO362 := n4_; have HO367 := n5_; have HB := n6_; clear n0_ n1_ n2_ n3_ n4_ n5_ n6_; (try clear hb); (try clear hb2); (try clear hk); (try clear hi)) | (go_at_call 20; (with_reducible refine (expr_And.calls _ _ t340 _ _ t340 t369 _ ?side1 ?side2 ?side3 ?side4 A47.out).mono ?_); (all_goals (try clear A47)); (case side1 => repeat (first | exact (Kd.R_reads' HO_7.out).2.2 | (with_reducible refine Kd.C_alloc ?_ _) | (with_reducible refine Kd.C_drewN ?_ _) | (with_reducible refine Kd.C_drew ?_))); (case side2 => exact (Kd.R_reads' HO_7.out).2.1); (case side3 => repeat (first | exact (Kd.R_reads' HO_7.out).2.2 | (with_reducible refine Kd.C_alloc ?_ _) | (with_reducible refine Kd.C_drewN ?_ _) | (with_reducible refine Kd.C_drew ?_))); (case side4 => exact (Kd.R_reads' HO_7.out).2.1); rintro e w69 ⟨v370, rfl, ho0, hb⟩; have n0_ := Aside0.mk (Kd.R_elder' (by (with_reducible repeat (first | apply Kd.R_alloc | apply Kd.R_drewN | apply Kd.R_drew)); exact HO_7.out) (Kd.R_base ho0) hb); have n1_ := Aside0.mk (Kd.R_elder' (by (with_reducible repeat (first | apply Kd.R_alloc | apply Kd.R_drewN | apply Kd.R_drew)); exact HO_9.out) (Kd.R_base ho0) hb); have n2_ := Aside0.mk (Kd.R_elder' (by (with_reducible repeat (first | apply Kd.R_alloc | apply Kd.R_drewN | apply Kd.R_drew)); exact HO353.out) (Kd.R_base ho0) hb); have n3_ := Aside0.mk (Kd.R_elder' (by (with_reducible repeat (first | apply Kd.R_alloc | apply Kd.R_drewN | apply Kd.R_drew)); exact HO356.out) (Kd.R_base ho0) hb); have n4_ := Aside0.mk (Kd.R_elder' (by (with_reducible repeat (first | apply Kd.R_alloc | apply Kd.R_drewN | apply Kd.R_drew)); exact HO362.out) (Kd.R_base ho0) hb); have n5_ := Aside0.mk (Kd.R_elder' (by (with_reducible repeat (first | apply Kd.R_alloc | apply Kd.R_drewN | apply Kd.R_drew)); exact HO367.out) (Kd.R_base ho0) hb); have n6_ := Aside0.mk (Kd.R_lower (Kd.R_new' (Kd.R_new' (Kd.R_new' (Kd.R_new' (Kd.R_new' (Kd.R_new' ho0 (Kd.R_lt (by (with_reducible repeat (first | apply Kd.R_alloc | apply Kd.R_drewN | apply Kd.R_drew)); exact HO_7.out))) (Kd.R_lt (by (with_reducible repeat (first | apply Kd.R_alloc | apply Kd.R_drewN | apply Kd.R_drew)); exact HO_9.out))) (Kd.R_lt (by (with_reducible repeat (first | apply Kd.R_alloc | apply Kd.R_drewN | apply Kd.R_drew)); exact HO353.out))) (Kd.R_lt (by (with_reducible repeat (first | apply Kd.R_alloc | apply Kd.R_drewN | apply Kd.R_drew)); exact HO356.out))) (Kd.R_lt (by (with_reducible repeat (first | apply Kd.R_alloc | apply Kd.R_drewN | apply Kd.R_drew)); exact HO362.out))) (Kd.R_lt (by (with_reducible repeat (first | apply Kd.R_alloc | apply Kd.R_drewN | apply Kd.R_drew)); exact HO367.out))) (below_size (by repeat (first | (with_reducible first | exact HB.out | apply below_alloc | apply pw_below_drewN | apply below_drew1) | exact HB.out)))); have n7_ := Aside0.mk (below_step (by repeat (first | (with_reducible first | exact HB.out | apply below_alloc | apply pw_below_drewN | apply below_drew1) | exact HB.out)) hb); clear HO_7; clear HO_9; clear HO353; clear HO356; clear HO362; clear HO367; clear HB; have HO_7 := n0_; have HO_9 := n1_; have HO353 := n2_; have HO356 := n3_; have HO362 := n4_; have HO367 := n5_; have HO371 := n6_; have HB := n7_; clear n0_ n1_ n2_ n3_ n4_ n5_ n6_ n7_; (try clear hb); (try clear hb2); (try clear hk); (try clear hi); (try clear ho0); obtain ⟨Ao70, co70, eo70⟩ := Kd.R_slice HO371.out; subst eo70) | (go_at_call 17; (with_reducible refine (expr_Eval.calls _ _ t369 _ _ l2 t372 _ ?side1 ?side2 ?side3 ?side4 A48.out).mono ?_); (all_goals (try clear A48)); (case side1 => repeat (first | exact (Kd.R_reads' HO371.out).2.2 | (with_reducible refine Kd.C_alloc ?_ _) | (with_reducible refine Kd.C_drewN ?_ _) | (with_reducible refine Kd.C_drew ?_))); (case side2 => exact (Kd.R_reads' HO371.out).2.1); (case side3 => repeat (first | exact (Kd.C_below HR2.out HB.out) | (with_reducible refine Kd.C_alloc ?_ _) | (with_reducible refine Kd.C_drewN ?_ _) | (with_reducible refine Kd.C_drew ?_))); (case side4 => exact HC2.out); rintro e w71 ⟨rfl, hb⟩; have n0_ := Aside0.mk (Kd.R_below (by (with_reducible repeat (first | apply Kd.R_alloc | apply Kd.R_drewN | apply Kd.R_drew)); exact HO_7.out) hb); have n1_ := Aside0.mk (Kd.R_below (by (with_reducible repeat (first | apply Kd.R_alloc | apply Kd.R_drewN | apply Kd.R_drew)); exact HO_9.out) hb); have n2_ := Aside0.mk (Kd.R_below (by (with_reducible repeat (first | apply Kd.R_alloc | apply Kd.R_drewN | apply Kd.R_drew)); exact HO353.out) hb); have n3_ := Aside0.mk (Kd.R_below (by (with_reducible repeat (first | apply Kd.R_alloc | apply Kd.R_drewN | apply Kd.R_drew)); exact HO356.out) hb); have n4_ := Aside0.mk (Kd.R_below (by (with_reducible repeat (first | apply Kd.R_alloc | apply Kd.R_drewN | apply Kd.R_drew)); exact HO362.out) hb); have n5_ := Aside0.mk (Kd.R_below (by (with_reducible repeat (first | apply Kd.R_alloc | apply Kd.R_drewN | apply Kd.R_drew)); exact HO367.out) hb); have n6_ := Aside0.mk (Kd.R_below (by (with_reducible repeat (first | apply Kd.R_alloc | apply Kd.R_drewN | apply Kd.R_drew)); exact HO371.out) hb); have n7_ := Aside0.mk (below_step (by repeat (first | (with_reducible first | exact HB.out | apply below_alloc | apply pw_below_drewN | apply below_drew1) | exact HB.out)) hb); clear HO_7; clear HO_9; clear HO353; clear HO356; clear HO362; clear HO367; clear HO371; clear HB; have HO_7 := n0_; have HO_9 := n1_; have HO353 := n2_; have HO356 := n3_; have HO362 := n4_; have HO367 := n5_; have HO371 := n6_; have HB := n7_; clear n0_ n1_ n2_ n3_ n4_ n5_ n6_ n7_; (try clear hb); (try clear hb2); (try clear hk); (try clear hi)) | (go_at_call 21; (with_reducible refine (expr_Or.calls _ _ t340 _ _ t340 t373 _ ?side1 ?side2 ?side3 ?side4 A50.out).mono ?_); (all_goals (try clear A50)); (case side1 => repeat (first | exact (Kd.R_reads' HO_7.out).2.2 | (with_reducible refine Kd.C_alloc ?_ _) | (with_reducible refine Kd.C_drewN ?_ _) | (with_reducible refine Kd.C_drew ?_))); (case side2 => exact (Kd.R_reads' HO_7.out).2.1); (case side3 => repeat (first | exact (Kd.R_reads' HO_7.out).2.2 | (with_reducible refine Kd.C_alloc ?_ _) | (with_reducible refine Kd.C_drewN ?_ _) | (with_reducible refine Kd.C_drew ?_))); (case side4 => exact (Kd.R_reads' HO_7.out).2.1); rintro e w72 ⟨v374, rfl, ho0, hb⟩; have n0_ := Aside0.mk (Kd.R_elder' (by (with_reducible repeat (first | apply Kd.R_alloc | apply Kd.R_drewN | apply Kd.R_drew)); exact HO_7.out) (Kd.R_base ho0) hb); have n1_ := Aside0.mk (Kd.R_elder' (by (with_reducible repeat (first | apply Kd.R_alloc | apply Kd.R_drewN | apply Kd.R_drew)); exact HO_9.out) (Kd.R_base ho0) hb); have n2_ := Aside0.mk (Kd.R_elder' (by (with_reducible repeat (first | apply Kd.R_alloc | apply Kd.R_drewN | apply Kd.R_drew)); exact HO353.out) (Kd.R_base ho0) hb); have n3_ := Aside0.mk (Kd.R_elder' (by (with_reducible repeat (first | apply Kd.R_alloc | apply Kd.R_drewN | apply Kd.R_drew)); exact HO356.out) (Kd.R_base ho0) hb); have n4_ := Aside0.mk (Kd.R_elder' (by (with_reducible repeat (first | apply Kd.R_alloc | apply Kd.R_drewN | apply Kd.R_drew)); exact HO362.out) (Kd.R_base ho0) hb); have n5_ := Aside0.mk (Kd.R_elder' (by (with_reducible repeat (first | apply Kd.R_alloc | apply Kd.R_drewN | apply Kd.R_drew)); exact HO367.out) (Kd.R_base ho0) hb); have n6_ := Aside0.mk (Kd.R_elder' (by (with_reducible repeat (first | apply Kd.R_alloc | apply Kd.R_drewN | apply Kd.R_drew)); exact HO371.out) (Kd.R_base ho0) hb); have n7_ := Aside0.mk (Kd.R_lower (Kd.R_new' (Kd.R_new' (Kd.R_new' (Kd.R_new' (Kd.R_new' (Kd.R_new' (Kd.R_new' ho0 (Kd.R_lt (by (with_reducible repeat (first | apply Kd.R_alloc | apply Kd.R_drewN | apply Kd.R_drew)); exact HO_7.out))) (Kd.R_lt (by (with_reducible repeat (first | apply Kd.R_alloc | apply Kd.R_drewN | apply Kd.R_drew)); exact HO_9.out))) (Kd.R_lt (by (with_reducible repeat (first | apply Kd.R_alloc | apply Kd.R_drewN | apply Kd.R_drew)); exact HO353.out))) (Kd.R_lt (by (with_reducible repeat (first | apply Kd.R_alloc | apply Kd.R_drewN | apply Kd.R_drew)); exact HO356.out))) (Kd.R_lt (by (with_reducible repeat (first | apply Kd.R_alloc | apply Kd.R_drewN | apply Kd.R_drew)); exact HO362.out))) (Kd.R_lt (by (with_reducible repeat (first | apply Kd.R_alloc | apply Kd.R_drewN | apply Kd.R_drew)); exact HO367.out))) (Kd.R_lt (by (with_reducible repeat (first | apply Kd.R_alloc | apply Kd.R_drewN | apply Kd.R_drew)); exact HO371.out))) (below_size (by repeat (first | (with_reducible first | exact HB.out | apply below_alloc | apply pw_below_drewN | apply below_drew1) | exact HB.out)))); have n8_ := Aside0.mk (below_step (by repeat (first | (with_reducible first | exact HB.out | apply below_alloc | apply pw_below_drewN | apply below_drew1) | exact HB.out)) hb); clear HO_7; clear HO_9; clear HO353; clear HO356; clear HO362; clear HO367; clear HO371; clear HB; have HO_7 := n0_; have HO_9 := n1_; have HO353 := n2_; have HO356 := n3_; have HO362 := n4_; have HO367 := n5_; have HO371 := n6_; have HO375 := n7_; have HB := n8_; clear n0_ n1_ n2_ n3_ n4_ n5_ n6_ n7_ n8_; (try clear hb); (try clear hb2); (try clear hk); (try clear hi); (try clear ho0); obtain ⟨Ao73, co73, eo73⟩ := Kd.R_slice HO375.out; subst eo73) | (go_at_call 17; (with_reducible refine (expr_Eval.calls _ _ t373 _ _ l2 t376 _ ?side1 ?side2 ?side3 ?side4 A51.out).mono ?_); (all_goals (try clear A51)); (case side1 => repeat (first | exact (Kd.R_reads' HO375.out).2.2 | (with_reducible refine Kd.C_alloc ?_ _) | (with_reducible refine Kd.C_drewN ?_ _) | (with_reducible refine Kd.C_drew ?_))); (case side2 => exact (Kd.R_reads' HO375.out).2.1); (case side3 => repeat (first | exact (Kd.C_below HR2.out HB.out) | (with_reducible refine Kd.C_alloc ?_ _) | (with_reducible refine Kd.C_drewN ?_ _) | (with_reducible refine Kd.C_drew ?_))); (case side4 => exact HC2.out); rintro e w74 ⟨rfl, hb⟩; have n0_ := Aside0.mk (Kd.R_below (by (with_reducible repeat (first | apply Kd.R_alloc | apply Kd.R_drewN | apply Kd.R_drew)); exact HO_7.out) hb); have n1_ := Aside0.mk (Kd.R_below (by (with_reducible repeat (first | apply Kd.R_alloc | apply Kd.R_drewN | apply Kd.R_drew)); exact HO_9.out) hb); have n2_ := Aside0.mk (Kd.R_below (by (with_reducible repeat (first | apply Kd.R_alloc | apply Kd.R_drewN | apply Kd.R_drew)); exact HO353.out) hb); have n3_ := Aside0.mk (Kd.R_below (by (with_reducible repeat (first | apply Kd.R_alloc | apply Kd.R_drewN | apply Kd.R_drew)); exact HO356.out) hb); have n4_ := Aside0.mk (Kd.R_below (by (with_reducible repeat (first | apply Kd.R_alloc | apply Kd.R_drewN | apply Kd.R_drew)); exact HO362.out) hb); have n5_ := Aside0.mk (Kd.R_below (by (with_reducible repeat (first | apply Kd.R_alloc | apply Kd.R_drewN | apply Kd.R_drew)); exact HO367.out) hb); have n6_ := Aside0.mk (Kd.R_below (by (with_reducible repeat (first | apply Kd.R_alloc | apply Kd.R_drewN | apply Kd.R_drew)); exact HO371.out) hb); have n7_ := Aside0.mk (Kd.R_below (by (with_reducible repeat (first | apply Kd.R_alloc | apply Kd.R_drewN | apply Kd.R_drew)); exact HO375.out) hb); have n8_ := Aside0.mk (below_step (by repeat (first | (with_reducible first | exact HB.out | apply below_alloc | apply pw_below_drewN | apply below_drew1) | exact HB.out)) hb); clear HO_7; clear HO_9; clear HO353; clear HO356; clear HO362; clear HO367; clear HO371; clear HO375; clear HB; have HO_7 := n0_; have HO_9 := n1_; have HO353 := n2_; have HO356 := n3_; have HO362 := n4_; have HO367 := n5_; have HO371 := n6_; have HO375 := n7_; have HB := n8_; clear n0_ n1_ n2_ n3_ n4_ n5_ n6_ n7_ n8_; (try clear hb); (try clear hb2); (try clear hk); (try clear hi)))
                        go_ret
                        exact ⟨by first | rfl | (simp [errW_none, errW_some] <;> rfl) | (simp [*, errW_none, errW_some] <;> rfl) | (exfalso; simp only [decide_eq_true_eq, decide_eq_false_iff_not, beq_iff_eq, beq_eq_false_iff_ne] at *; first | contradiction | omega), by repeat (first | (with_reducible first | exact HB.out | apply below_alloc | apply pw_below_drewN | apply below_drew1) | exact HB.out)⟩
                      · rw [if_neg c52] at H
                        have c52b0 : (t376 == t358) = false := by simpa using c52
                        (try (have c52b1 : decide (t376 = t358) = false := by simpa using c52))
                        (try (have c52b2 : (t376 == t358) = false := by simpa using c52))
                        (try (have c52b3 : ¬ (t376 = t358) := by simpa using c52))
                        clear c52
                        exact absurd (Option.some.inj H) (by rw [hr_.out]; decide)
                    · rw [if_neg c49] at H
                      have c49b0 : (t372 == t358) = false := by simpa using c49
                      (try (have c49b1 : decide (t372 = t358) = false := by simpa using c49))
                      (try (have c49b2 : (t372 == t358) = false := by simpa using c49))
                      (try (have c49b3 : ¬ (t372 = t358) := by simpa using c49))
                      clear c49
                      exact absurd (Option.some.inj H) (by rw [hr_.out]; decide)
                  · rw [if_neg c46] at H
                    have c46b0 : (t364 == t368) = false := by simpa using c46
                    (try (have c46b1 : decide (t364 = t368) = false := by simpa using c46))
                    (try (have c46b2 : (t364 == t368) = false := by simpa using c46))
                    (try (have c46b3 : ¬ (t364 = t368) := by simpa using c46))
                    clear c46
                    exact absurd (Option.some.inj H) (by rw [hr_.out]; decide)
                · rw [if_neg c42] at H
                  have c42b0 : (t359 == t363) = false := by simpa using c42
                  (try (have c42b1 : decide (t359 = t363) = false := by simpa using c42))
                  (try (have c42b2 : (t359 == t363) = false := by simpa using c42))
                  (try (have c42b3 : ¬ (t359 = t363) := by simpa using c42))
                  clear c42
                  exact absurd (Option.some.inj H) (by rw [hr_.out]; decide)
              · rw [if_neg c37] at H
                have c37b0 : (t357 == 0) = false := beq_eq_false_iff_ne.mpr c37
                have c37b1 : (t357 != 0) = true := bne_iff_ne.mpr c37
                obtain rfl := Option.some.inj H
                obtain ⟨Ao143, co143, eo143⟩ := Kd.R_slice HO_7.out
                subst eo143
                obtain ⟨Ao144, co144, eo144⟩ := Kd.R_slice HO_9.out
                subst eo144
                go_wp2_with (first | ((with_reducible refine gate_callee (f := 20) rfl ?_); refine goesL_ (some 66) rfl rfl Tryd.func20 (by kernel_rfl) rfl #[.slice Ao143 t340.length co143, .slice Ao144 t344.length co144] rfl (by (try simp only [List.map_toArray, List.map_cons, List.map_nil]); first | done | rfl | (simp only [List.length_drop, List.length_take]; rfl) | (simp only [ByteArray.size_extract, Nat.min_self]; done) | (simp only [ByteArray.size_append, StrMore.size_lit, List.length_cons, List.length_nil, Nat.zero_add, Nat.reduceAdd] <;> rfl)) ?_; (with_reducible refine (expr_And.calls _ _ t340 _ _ t344 t351 _ ?side1 ?side2 ?side3 ?side4 A34.out).mono ?_); (case side1 => repeat (first | exact (Kd.R_reads' HO_7.out).2.2 | (with_reducible refine Kd.C_alloc ?_ _) | (with_reducible refine Kd.C_drewN ?_ _) | (with_reducible refine Kd.C_drew ?_))); (case side2 => exact (Kd.R_reads' HO_7.out).2.1); (case side3 => repeat (first | exact (Kd.R_reads' HO_9.out).2.2 | (with_reducible refine Kd.C_alloc ?_ _) | (with_reducible refine Kd.C_drewN ?_ _) | (with_reducible refine Kd.C_drew ?_))); (case side4 => exact (Kd.R_reads' HO_9.out).2.1); rintro e w145 ⟨v352, rfl, ho0, hb⟩; refine ⟨_, rfl, ?_⟩; have n0_ := Aside0.mk (Kd.R_elder' (by (with_reducible repeat (first | apply Kd.R_alloc | apply Kd.R_drewN | apply Kd.R_drew)); exact HO_7.out) (Kd.R_base ho0) hb); have n1_ := Aside0.mk (Kd.R_elder' (by (with_reducible repeat (first | apply Kd.R_alloc | apply Kd.R_drewN | apply Kd.R_drew)); exact HO_9.out) (Kd.R_base ho0) hb); have n2_ := Aside0.mk (Kd.R_lower (Kd.R_new' (Kd.R_new' ho0 (Kd.R_lt (by (with_reducible repeat (first | apply Kd.R_alloc | apply Kd.R_drewN | apply Kd.R_drew)); exact HO_7.out))) (Kd.R_lt (by (with_reducible repeat (first | apply Kd.R_alloc | apply Kd.R_drewN | apply Kd.R_drew)); exact HO_9.out))) (below_size (by repeat (first | (with_reducible first | exact HB.out | apply below_alloc | apply pw_below_drewN | apply below_drew1) | exact HB.out)))); have n3_ := Aside0.mk (below_step (by repeat (first | (with_reducible first | exact HB.out | apply below_alloc | apply pw_below_drewN | apply below_drew1) | exact HB.out)) hb); clear HO_7; clear HO_9; clear HB; have HO_7 := n0_; have HO_9 := n1_; have HO353 := n2_; have HB := n3_; clear n0_ n1_ n2_ n3_; (try clear hb); (try clear hb2); (try clear hk); (try clear hi); (try clear ho0)) | ((with_reducible refine gate_callee (f := 21) rfl ?_); refine goesL_ (some 69) rfl rfl Tryd.func21 (by kernel_rfl) rfl #[.slice Ao143 t340.length co143, .slice Ao144 t344.length co144] rfl (by (try simp only [List.map_toArray, List.map_cons, List.map_nil]); first | done | rfl | (simp only [List.length_drop, List.length_take]; rfl) | (simp only [ByteArray.size_extract, Nat.min_self]; done) | (simp only [ByteArray.size_append, StrMore.size_lit, List.length_cons, List.length_nil, Nat.zero_add, Nat.reduceAdd] <;> rfl)) ?_; (with_reducible refine (expr_Or.calls _ _ t340 _ _ t344 t354 _ ?side1 ?side2 ?side3 ?side4 A35.out).mono ?_); (case side1 => repeat (first | exact (Kd.R_reads' HO_7.out).2.2 | (with_reducible refine Kd.C_alloc ?_ _) | (with_reducible refine Kd.C_drewN ?_ _) | (with_reducible refine Kd.C_drew ?_))); (case side2 => exact (Kd.R_reads' HO_7.out).2.1); (case side3 => repeat (first | exact (Kd.R_reads' HO_9.out).2.2 | (with_reducible refine Kd.C_alloc ?_ _) | (with_reducible refine Kd.C_drewN ?_ _) | (with_reducible refine Kd.C_drew ?_))); (case side4 => exact (Kd.R_reads' HO_9.out).2.1); rintro e w146 ⟨v355, rfl, ho0, hb⟩; refine ⟨_, rfl, ?_⟩; have n0_ := Aside0.mk (Kd.R_elder' (by (with_reducible repeat (first | apply Kd.R_alloc | apply Kd.R_drewN | apply Kd.R_drew)); exact HO_7.out) (Kd.R_base ho0) hb); have n1_ := Aside0.mk (Kd.R_elder' (by (with_reducible repeat (first | apply Kd.R_alloc | apply Kd.R_drewN | apply Kd.R_drew)); exact HO_9.out) (Kd.R_base ho0) hb); have n2_ := Aside0.mk (Kd.R_elder' (by (with_reducible repeat (first | apply Kd.R_alloc | apply Kd.R_drewN | apply Kd.R_drew)); exact HO353.out) (Kd.R_base ho0) hb); have n3_ := Aside0.mk (Kd.R_lower (Kd.R_new' (Kd.R_new' (Kd.R_new' ho0 (Kd.R_lt (by (with_reducible repeat (first | apply Kd.R_alloc | apply Kd.R_drewN | apply Kd.R_drew)); exact HO_7.out))) (Kd.R_lt (by (with_reducible repeat (first | apply Kd.R_alloc | apply Kd.R_drewN | apply Kd.R_drew)); exact HO_9.out))) (Kd.R_lt (by (with_reducible repeat (first | apply Kd.R_alloc | apply Kd.R_drewN | apply Kd.R_drew)); exact HO353.out))) (below_size (by repeat (first | (with_reducible first | exact HB.out | apply below_alloc | apply pw_below_drewN | apply below_drew1) | exact HB.out)))); have n4_ := Aside0.mk (below_step (by repeat (first | (with_reducible first | exact HB.out | apply below_alloc | apply pw_below_drewN | apply below_drew1) | exact HB.out)) hb); clear HO_7; clear HO_9; clear HO353; clear HB; have HO_7 := n0_; have HO_9 := n1_; have HO353 := n2_; have HO356 := n3_; have HB := n4_; clear n0_ n1_ n2_ n3_ n4_; (try clear hb); (try clear hb2); (try clear hk); (try clear hi); (try clear ho0); obtain ⟨Ao147, co147, eo147⟩ := Kd.R_slice HO353.out; subst eo147) | ((with_reducible refine gate_callee (f := 14) rfl ?_); refine goesL_ (some 71) rfl rfl Tryd.func14 (by kernel_rfl) rfl #[.slice Ao147 t351.length co147] rfl (by (try simp only [List.map_toArray, List.map_cons, List.map_nil]); first | done | rfl | (simp only [List.length_drop, List.length_take]; rfl) | (simp only [ByteArray.size_extract, Nat.min_self]; done) | (simp only [ByteArray.size_append, StrMore.size_lit, List.length_cons, List.length_nil, Nat.zero_add, Nat.reduceAdd] <;> rfl)) ?_; (with_reducible refine (expr_Check.calls _ _ t351 t357 _ ?side1 ?side2 A36.out).mono ?_); (case side1 => repeat (first | exact (Kd.R_reads' HO353.out).2.2 | (with_reducible refine Kd.C_alloc ?_ _) | (with_reducible refine Kd.C_drewN ?_ _) | (with_reducible refine Kd.C_drew ?_))); (case side2 => exact (Kd.R_reads' HO353.out).2.1); rintro e w148 ⟨rfl, hb⟩; refine ⟨_, rfl, ?_⟩; have n0_ := Aside0.mk (Kd.R_below (by (with_reducible repeat (first | apply Kd.R_alloc | apply Kd.R_drewN | apply Kd.R_drew)); exact HO_7.out) hb); have n1_ := Aside0.mk (Kd.R_below (by (with_reducible repeat (first | apply Kd.R_alloc | apply Kd.R_drewN | apply Kd.R_drew)); exact HO_9.out) hb); have n2_ := Aside0.mk (Kd.R_below (by (with_reducible repeat (first | apply Kd.R_alloc | apply Kd.R_drewN | apply Kd.R_drew)); exact HO353.out) hb); have n3_ := Aside0.mk (Kd.R_below (by (with_reducible repeat (first | apply Kd.R_alloc | apply Kd.R_drewN | apply Kd.R_drew)); exact HO356.out) hb); have n4_ := Aside0.mk (below_step (by repeat (first | (with_reducible first | exact HB.out | apply below_alloc | apply pw_below_drewN | apply below_drew1) | exact HB.out)) hb); clear HO_7; clear HO_9; clear HO353; clear HO356; clear HB; have HO_7 := n0_; have HO_9 := n1_; have HO353 := n2_; have HO356 := n3_; have HB := n4_; clear n0_ n1_ n2_ n3_ n4_; (try clear hb); (try clear hb2); (try clear hk); (try clear hi)))
                go_ret
                exact ⟨by first | rfl | (simp [errW_none, errW_some] <;> rfl) | (simp [*, errW_none, errW_some] <;> rfl) | (exfalso; simp only [decide_eq_true_eq, decide_eq_false_iff_not, beq_iff_eq, beq_eq_false_iff_ne] at *; first | contradiction | omega), by repeat (first | (with_reducible first | exact HB.out | apply below_alloc | apply pw_below_drewN | apply below_drew1) | exact HB.out)⟩

end Go.Proofs.YtjndccjpjknbkaaDoor.PEx

-- by hprint.py (wip/): the kit's print over contracts proved by hand; a text of this session
namespace Go.Proofs.YtjndccjpjknbkaaDoor.PEx
open Go.RowKit Go.Proofs.YtjndccjpjknbkaaDoorW.PrintWords Go.Proofs.YtjndccjpjknbkaaDoorW.PrintLast Go.Proofs.YtjndccjpjknbkaaDoorW.PrintMore
attribute [local go_sem] max2_int min2_int max_two min_two max_three min_three max_four min_four   -- for this text's walks alone
set_option linter.unusedVariables false
set_option linter.unusedSimpArgs false

/-! ### graftbedref12_letter: function 71 -/
def graftbedref12_letter.f (a0 : Int) : Option (Bool) := if a0 ≥ 97 then (if a0 ≤ 122 then (some true) else (if a0 ≥ 65 then (if a0 ≤ 90 then (some true) else (if a0 ≥ 48 then (if a0 ≤ 57 then (some true) else (if a0 = 95 then (some true) else (some (a0 == 46)))) else (if a0 = 95 then (some true) else (some (a0 == 46))))) else (if a0 ≥ 48 then (if a0 ≤ 57 then (some true) else (if a0 = 95 then (some true) else (some (a0 == 46)))) else (if a0 = 95 then (some true) else (some (a0 == 46)))))) else (if a0 ≥ 65 then (if a0 ≤ 90 then (some true) else (if a0 ≥ 48 then (if a0 ≤ 57 then (some true) else (if a0 = 95 then (some true) else (some (a0 == 46)))) else (if a0 = 95 then (some true) else (some (a0 == 46))))) else (if a0 ≥ 48 then (if a0 ≤ 57 then (some true) else (if a0 = 95 then (some true) else (some (a0 == 46)))) else (if a0 = 95 then (some true) else (some (a0 == 46)))))
set_option maxHeartbeats 8000000 in
set_option maxRecDepth 100000 in
theorem graftbedref12_letter.calls (a0 : Int) (r : Bool) (w : World) (h : graftbedref12_letter.f a0 = some r) :
    Calls Tryd.prog 71 #[.int .u8 a0] w fun e w' => e = .returned (.bool r) ∧ Drawn0 w w' := by
  have H : (if a0 ≥ 97 then (if a0 ≤ 122 then (some true) else (if a0 ≥ 65 then (if a0 ≤ 90 then (some true) else (if a0 ≥ 48 then (if a0 ≤ 57 then (some true) else (if a0 = 95 then (some true) else (some (a0 == 46)))) else (if a0 = 95 then (some true) else (some (a0 == 46))))) else (if a0 ≥ 48 then (if a0 ≤ 57 then (some true) else (if a0 = 95 then (some true) else (some (a0 == 46)))) else (if a0 = 95 then (some true) else (some (a0 == 46)))))) else (if a0 ≥ 65 then (if a0 ≤ 90 then (some true) else (if a0 ≥ 48 then (if a0 ≤ 57 then (some true) else (if a0 = 95 then (some true) else (some (a0 == 46)))) else (if a0 = 95 then (some true) else (some (a0 == 46))))) else (if a0 ≥ 48 then (if a0 ≤ 57 then (some true) else (if a0 = 95 then (some true) else (some (a0 == 46)))) else (if a0 = 95 then (some true) else (some (a0 == 46)))))) = some r := h
  clear h
  by_cases c2 : a0 ≥ 97
  · rw [if_pos c2] at H
    have c2b0 : decide (97 ≤ a0) = true := decide_eq_true c2
    clear c2
    by_cases c3 : a0 ≤ 122
    · rw [if_pos c3] at H
      have c3b0 : decide (a0 ≤ 122) = true := decide_eq_true c3
      clear c3
      obtain rfl := Option.some.inj H
      go_enter Tryd.func71, Tryd.ntmps71
      go_wp2
      go_ret
      exact ⟨by first | rfl | (simp; done) | (simp [*]; done) | (have ne_ : ∀ l : List UInt8, (l != []) = !l.isEmpty := (fun l => by cases l <;> rfl); simp [ne_]; done), by repeat (first | exact Drawn0.refl _ | apply Drawn0.step)⟩
    · rw [if_neg c3] at H
      have c3b0 : decide (a0 ≤ 122) = false := decide_eq_false c3
      clear c3
      by_cases c4 : a0 ≥ 65
      · rw [if_pos c4] at H
        have c4b0 : decide (65 ≤ a0) = true := decide_eq_true c4
        clear c4
        by_cases c5 : a0 ≤ 90
        · rw [if_pos c5] at H
          have c5b0 : decide (a0 ≤ 90) = true := decide_eq_true c5
          clear c5
          obtain rfl := Option.some.inj H
          go_enter Tryd.func71, Tryd.ntmps71
          go_wp2
          go_ret
          exact ⟨by first | rfl | (simp; done) | (simp [*]; done) | (have ne_ : ∀ l : List UInt8, (l != []) = !l.isEmpty := (fun l => by cases l <;> rfl); simp [ne_]; done), by repeat (first | exact Drawn0.refl _ | apply Drawn0.step)⟩
        · rw [if_neg c5] at H
          have c5b0 : decide (a0 ≤ 90) = false := decide_eq_false c5
          clear c5
          by_cases c6 : a0 ≥ 48
          · rw [if_pos c6] at H
            have c6b0 : decide (48 ≤ a0) = true := decide_eq_true c6
            clear c6
            by_cases c7 : a0 ≤ 57
            · rw [if_pos c7] at H
              have c7b0 : decide (a0 ≤ 57) = true := decide_eq_true c7
              clear c7
              obtain rfl := Option.some.inj H
              go_enter Tryd.func71, Tryd.ntmps71
              go_wp2
              go_ret
              exact ⟨by first | rfl | (simp; done) | (simp [*]; done) | (have ne_ : ∀ l : List UInt8, (l != []) = !l.isEmpty := (fun l => by cases l <;> rfl); simp [ne_]; done), by repeat (first | exact Drawn0.refl _ | apply Drawn0.step)⟩
            · rw [if_neg c7] at H
              have c7b0 : decide (a0 ≤ 57) = false := decide_eq_false c7
              clear c7
              by_cases c8 : a0 = 95
              · rw [if_pos c8] at H
                have c8b0 : (a0 == 95) = true := beq_iff_eq.mpr c8
                have c8b1 : (a0 != 95) = false := bne_eq_false_iff_eq.mpr c8
                clear c8
                obtain rfl := Option.some.inj H
                go_enter Tryd.func71, Tryd.ntmps71
                go_wp2
                go_ret
                exact ⟨by first | rfl | (simp; done) | (simp [*]; done) | (have ne_ : ∀ l : List UInt8, (l != []) = !l.isEmpty := (fun l => by cases l <;> rfl); simp [ne_]; done), by repeat (first | exact Drawn0.refl _ | apply Drawn0.step)⟩
              · rw [if_neg c8] at H
                have c8b0 : (a0 == 95) = false := beq_eq_false_iff_ne.mpr c8
                have c8b1 : (a0 != 95) = true := bne_iff_ne.mpr c8
                obtain rfl := Option.some.inj H
                go_enter Tryd.func71, Tryd.ntmps71
                go_wp2
                go_ret
                exact ⟨by first | rfl | (simp; done) | (simp [*]; done) | (have ne_ : ∀ l : List UInt8, (l != []) = !l.isEmpty := (fun l => by cases l <;> rfl); simp [ne_]; done), by repeat (first | exact Drawn0.refl _ | apply Drawn0.step)⟩
          · rw [if_neg c6] at H
            have c6b0 : decide (48 ≤ a0) = false := decide_eq_false c6
            clear c6
            by_cases c9 : a0 = 95
            · rw [if_pos c9] at H
              have c9b0 : (a0 == 95) = true := beq_iff_eq.mpr c9
              have c9b1 : (a0 != 95) = false := bne_eq_false_iff_eq.mpr c9
              clear c9
              obtain rfl := Option.some.inj H
              go_enter Tryd.func71, Tryd.ntmps71
              go_wp2
              go_ret
              exact ⟨by first | rfl | (simp; done) | (simp [*]; done) | (have ne_ : ∀ l : List UInt8, (l != []) = !l.isEmpty := (fun l => by cases l <;> rfl); simp [ne_]; done), by repeat (first | exact Drawn0.refl _ | apply Drawn0.step)⟩
            · rw [if_neg c9] at H
              have c9b0 : (a0 == 95) = false := beq_eq_false_iff_ne.mpr c9
              have c9b1 : (a0 != 95) = true := bne_iff_ne.mpr c9
              obtain rfl := Option.some.inj H
              go_enter Tryd.func71, Tryd.ntmps71
              go_wp2
              go_ret
              exact ⟨by first | rfl | (simp; done) | (simp [*]; done) | (have ne_ : ∀ l : List UInt8, (l != []) = !l.isEmpty := (fun l => by cases l <;> rfl); simp [ne_]; done), by repeat (first | exact Drawn0.refl _ | apply Drawn0.step)⟩
      · rw [if_neg c4] at H
        have c4b0 : decide (65 ≤ a0) = false := decide_eq_false c4
        clear c4
        by_cases c10 : a0 ≥ 48
        · rw [if_pos c10] at H
          have c10b0 : decide (48 ≤ a0) = true := decide_eq_true c10
          clear c10
          by_cases c11 : a0 ≤ 57
          · rw [if_pos c11] at H
            have c11b0 : decide (a0 ≤ 57) = true := decide_eq_true c11
            clear c11
            obtain rfl := Option.some.inj H
            go_enter Tryd.func71, Tryd.ntmps71
            go_wp2
            go_ret
            exact ⟨by first | rfl | (simp; done) | (simp [*]; done) | (have ne_ : ∀ l : List UInt8, (l != []) = !l.isEmpty := (fun l => by cases l <;> rfl); simp [ne_]; done), by repeat (first | exact Drawn0.refl _ | apply Drawn0.step)⟩
          · rw [if_neg c11] at H
            have c11b0 : decide (a0 ≤ 57) = false := decide_eq_false c11
            clear c11
            by_cases c12 : a0 = 95
            · rw [if_pos c12] at H
              have c12b0 : (a0 == 95) = true := beq_iff_eq.mpr c12
              have c12b1 : (a0 != 95) = false := bne_eq_false_iff_eq.mpr c12
              clear c12
              obtain rfl := Option.some.inj H
              go_enter Tryd.func71, Tryd.ntmps71
              go_wp2
              go_ret
              exact ⟨by first | rfl | (simp; done) | (simp [*]; done) | (have ne_ : ∀ l : List UInt8, (l != []) = !l.isEmpty := (fun l => by cases l <;> rfl); simp [ne_]; done), by repeat (first | exact Drawn0.refl _ | apply Drawn0.step)⟩
            · rw [if_neg c12] at H
              have c12b0 : (a0 == 95) = false := beq_eq_false_iff_ne.mpr c12
              have c12b1 : (a0 != 95) = true := bne_iff_ne.mpr c12
              obtain rfl := Option.some.inj H
              go_enter Tryd.func71, Tryd.ntmps71
              go_wp2
              go_ret
              exact ⟨by first | rfl | (simp; done) | (simp [*]; done) | (have ne_ : ∀ l : List UInt8, (l != []) = !l.isEmpty := (fun l => by cases l <;> rfl); simp [ne_]; done), by repeat (first | exact Drawn0.refl _ | apply Drawn0.step)⟩
        · rw [if_neg c10] at H
          have c10b0 : decide (48 ≤ a0) = false := decide_eq_false c10
          clear c10
          by_cases c13 : a0 = 95
          · rw [if_pos c13] at H
            have c13b0 : (a0 == 95) = true := beq_iff_eq.mpr c13
            have c13b1 : (a0 != 95) = false := bne_eq_false_iff_eq.mpr c13
            clear c13
            obtain rfl := Option.some.inj H
            go_enter Tryd.func71, Tryd.ntmps71
            go_wp2
            go_ret
            exact ⟨by first | rfl | (simp; done) | (simp [*]; done) | (have ne_ : ∀ l : List UInt8, (l != []) = !l.isEmpty := (fun l => by cases l <;> rfl); simp [ne_]; done), by repeat (first | exact Drawn0.refl _ | apply Drawn0.step)⟩
          · rw [if_neg c13] at H
            have c13b0 : (a0 == 95) = false := beq_eq_false_iff_ne.mpr c13
            have c13b1 : (a0 != 95) = true := bne_iff_ne.mpr c13
            obtain rfl := Option.some.inj H
            go_enter Tryd.func71, Tryd.ntmps71
            go_wp2
            go_ret
            exact ⟨by first | rfl | (simp; done) | (simp [*]; done) | (have ne_ : ∀ l : List UInt8, (l != []) = !l.isEmpty := (fun l => by cases l <;> rfl); simp [ne_]; done), by repeat (first | exact Drawn0.refl _ | apply Drawn0.step)⟩
  · rw [if_neg c2] at H
    have c2b0 : decide (97 ≤ a0) = false := decide_eq_false c2
    clear c2
    by_cases c14 : a0 ≥ 65
    · rw [if_pos c14] at H
      have c14b0 : decide (65 ≤ a0) = true := decide_eq_true c14
      clear c14
      by_cases c15 : a0 ≤ 90
      · rw [if_pos c15] at H
        have c15b0 : decide (a0 ≤ 90) = true := decide_eq_true c15
        clear c15
        obtain rfl := Option.some.inj H
        go_enter Tryd.func71, Tryd.ntmps71
        go_wp2
        go_ret
        exact ⟨by first | rfl | (simp; done) | (simp [*]; done) | (have ne_ : ∀ l : List UInt8, (l != []) = !l.isEmpty := (fun l => by cases l <;> rfl); simp [ne_]; done), by repeat (first | exact Drawn0.refl _ | apply Drawn0.step)⟩
      · rw [if_neg c15] at H
        have c15b0 : decide (a0 ≤ 90) = false := decide_eq_false c15
        clear c15
        by_cases c16 : a0 ≥ 48
        · rw [if_pos c16] at H
          have c16b0 : decide (48 ≤ a0) = true := decide_eq_true c16
          clear c16
          by_cases c17 : a0 ≤ 57
          · rw [if_pos c17] at H
            have c17b0 : decide (a0 ≤ 57) = true := decide_eq_true c17
            clear c17
            obtain rfl := Option.some.inj H
            go_enter Tryd.func71, Tryd.ntmps71
            go_wp2
            go_ret
            exact ⟨by first | rfl | (simp; done) | (simp [*]; done) | (have ne_ : ∀ l : List UInt8, (l != []) = !l.isEmpty := (fun l => by cases l <;> rfl); simp [ne_]; done), by repeat (first | exact Drawn0.refl _ | apply Drawn0.step)⟩
          · rw [if_neg c17] at H
            have c17b0 : decide (a0 ≤ 57) = false := decide_eq_false c17
            clear c17
            by_cases c18 : a0 = 95
            · rw [if_pos c18] at H
              have c18b0 : (a0 == 95) = true := beq_iff_eq.mpr c18
              have c18b1 : (a0 != 95) = false := bne_eq_false_iff_eq.mpr c18
              clear c18
              obtain rfl := Option.some.inj H
              go_enter Tryd.func71, Tryd.ntmps71
              go_wp2
              go_ret
              exact ⟨by first | rfl | (simp; done) | (simp [*]; done) | (have ne_ : ∀ l : List UInt8, (l != []) = !l.isEmpty := (fun l => by cases l <;> rfl); simp [ne_]; done), by repeat (first | exact Drawn0.refl _ | apply Drawn0.step)⟩
            · rw [if_neg c18] at H
              have c18b0 : (a0 == 95) = false := beq_eq_false_iff_ne.mpr c18
              have c18b1 : (a0 != 95) = true := bne_iff_ne.mpr c18
              obtain rfl := Option.some.inj H
              go_enter Tryd.func71, Tryd.ntmps71
              go_wp2
              go_ret
              exact ⟨by first | rfl | (simp; done) | (simp [*]; done) | (have ne_ : ∀ l : List UInt8, (l != []) = !l.isEmpty := (fun l => by cases l <;> rfl); simp [ne_]; done), by repeat (first | exact Drawn0.refl _ | apply Drawn0.step)⟩
        · rw [if_neg c16] at H
          have c16b0 : decide (48 ≤ a0) = false := decide_eq_false c16
          clear c16
          by_cases c19 : a0 = 95
          · rw [if_pos c19] at H
            have c19b0 : (a0 == 95) = true := beq_iff_eq.mpr c19
            have c19b1 : (a0 != 95) = false := bne_eq_false_iff_eq.mpr c19
            clear c19
            obtain rfl := Option.some.inj H
            go_enter Tryd.func71, Tryd.ntmps71
            go_wp2
            go_ret
            exact ⟨by first | rfl | (simp; done) | (simp [*]; done) | (have ne_ : ∀ l : List UInt8, (l != []) = !l.isEmpty := (fun l => by cases l <;> rfl); simp [ne_]; done), by repeat (first | exact Drawn0.refl _ | apply Drawn0.step)⟩
          · rw [if_neg c19] at H
            have c19b0 : (a0 == 95) = false := beq_eq_false_iff_ne.mpr c19
            have c19b1 : (a0 != 95) = true := bne_iff_ne.mpr c19
            obtain rfl := Option.some.inj H
            go_enter Tryd.func71, Tryd.ntmps71
            go_wp2
            go_ret
            exact ⟨by first | rfl | (simp; done) | (simp [*]; done) | (have ne_ : ∀ l : List UInt8, (l != []) = !l.isEmpty := (fun l => by cases l <;> rfl); simp [ne_]; done), by repeat (first | exact Drawn0.refl _ | apply Drawn0.step)⟩
    · rw [if_neg c14] at H
      have c14b0 : decide (65 ≤ a0) = false := decide_eq_false c14
      clear c14
      by_cases c20 : a0 ≥ 48
      · rw [if_pos c20] at H
        have c20b0 : decide (48 ≤ a0) = true := decide_eq_true c20
        clear c20
        by_cases c21 : a0 ≤ 57
        · rw [if_pos c21] at H
          have c21b0 : decide (a0 ≤ 57) = true := decide_eq_true c21
          clear c21
          obtain rfl := Option.some.inj H
          go_enter Tryd.func71, Tryd.ntmps71
          go_wp2
          go_ret
          exact ⟨by first | rfl | (simp; done) | (simp [*]; done) | (have ne_ : ∀ l : List UInt8, (l != []) = !l.isEmpty := (fun l => by cases l <;> rfl); simp [ne_]; done), by repeat (first | exact Drawn0.refl _ | apply Drawn0.step)⟩
        · rw [if_neg c21] at H
          have c21b0 : decide (a0 ≤ 57) = false := decide_eq_false c21
          clear c21
          by_cases c22 : a0 = 95
          · rw [if_pos c22] at H
            have c22b0 : (a0 == 95) = true := beq_iff_eq.mpr c22
            have c22b1 : (a0 != 95) = false := bne_eq_false_iff_eq.mpr c22
            clear c22
            obtain rfl := Option.some.inj H
            go_enter Tryd.func71, Tryd.ntmps71
            go_wp2
            go_ret
            exact ⟨by first | rfl | (simp; done) | (simp [*]; done) | (have ne_ : ∀ l : List UInt8, (l != []) = !l.isEmpty := (fun l => by cases l <;> rfl); simp [ne_]; done), by repeat (first | exact Drawn0.refl _ | apply Drawn0.step)⟩
          · rw [if_neg c22] at H
            have c22b0 : (a0 == 95) = false := beq_eq_false_iff_ne.mpr c22
            have c22b1 : (a0 != 95) = true := bne_iff_ne.mpr c22
            obtain rfl := Option.some.inj H
            go_enter Tryd.func71, Tryd.ntmps71
            go_wp2
            go_ret
            exact ⟨by first | rfl | (simp; done) | (simp [*]; done) | (have ne_ : ∀ l : List UInt8, (l != []) = !l.isEmpty := (fun l => by cases l <;> rfl); simp [ne_]; done), by repeat (first | exact Drawn0.refl _ | apply Drawn0.step)⟩
      · rw [if_neg c20] at H
        have c20b0 : decide (48 ≤ a0) = false := decide_eq_false c20
        clear c20
        by_cases c23 : a0 = 95
        · rw [if_pos c23] at H
          have c23b0 : (a0 == 95) = true := beq_iff_eq.mpr c23
          have c23b1 : (a0 != 95) = false := bne_eq_false_iff_eq.mpr c23
          clear c23
          obtain rfl := Option.some.inj H
          go_enter Tryd.func71, Tryd.ntmps71
          go_wp2
          go_ret
          exact ⟨by first | rfl | (simp; done) | (simp [*]; done) | (have ne_ : ∀ l : List UInt8, (l != []) = !l.isEmpty := (fun l => by cases l <;> rfl); simp [ne_]; done), by repeat (first | exact Drawn0.refl _ | apply Drawn0.step)⟩
        · rw [if_neg c23] at H
          have c23b0 : (a0 == 95) = false := beq_eq_false_iff_ne.mpr c23
          have c23b1 : (a0 != 95) = true := bne_iff_ne.mpr c23
          obtain rfl := Option.some.inj H
          go_enter Tryd.func71, Tryd.ntmps71
          go_wp2
          go_ret
          exact ⟨by first | rfl | (simp; done) | (simp [*]; done) | (have ne_ : ∀ l : List UInt8, (l != []) = !l.isEmpty := (fun l => by cases l <;> rfl); simp [ne_]; done), by repeat (first | exact Drawn0.refl _ | apply Drawn0.step)⟩

end Go.Proofs.YtjndccjpjknbkaaDoor.PEx

-- by hprint.py (wip/): the kit's print over contracts proved by hand; a text of this session
namespace Go.Proofs.YtjndccjpjknbkaaDoor.PEx
open Go.RowKit Go.Proofs.YtjndccjpjknbkaaDoorW.PrintWords Go.Proofs.YtjndccjpjknbkaaDoorW.PrintLast Go.Proofs.YtjndccjpjknbkaaDoorW.PrintMore
attribute [local go_sem] max2_int min2_int max_two min_two max_three min_three max_four min_four   -- for this text's walks alone
set_option linter.unusedVariables false
set_option linter.unusedSimpArgs false

/-! ### graftbedref12_Tag: function 53 -/
def graftbedref12_Tag.l0 : Nat → ByteArray → Int → Option (Bool)
  | 0, _, _ => none
  | k + 1, x0, x3 => if x3 < (x0.size : Int) then (if 0 ≤ x3 then ((graftbedref12_letter.f (bt x0 x3)).bind fun t112 => (if t112 = true then (graftbedref12_Tag.l0 k x0 (wrap64 (x3 + 1))) else (some false))) else (none)) else (if x0.toList = ([] : List UInt8) then (some false) else (some (decide ((x0.size : Int) ≤ 60))))
def graftbedref12_Tag.f (k : Nat) (a0 : ByteArray) : Option (Bool) := graftbedref12_Tag.l0 k a0 0
theorem graftbedref12_Tag.mono_l : ∀ k, (∀ y0 y1, LeO (graftbedref12_Tag.l0 k y0 y1) (graftbedref12_Tag.l0 (k + 1) y0 y1))
  | 0 => fun _ _ r h => by simp [graftbedref12_Tag.l0] at h
  | k + 1 => by
    have ih0 := graftbedref12_Tag.mono_l k
    · intro y0 y1
      unfold graftbedref12_Tag.l0
      repeat' first
      | (with_reducible exact ih0 _ _)
      | (with_reducible exact LeO.refl _)
      | (with_reducible exact LeO.none _)
      | (with_reducible refine LeO.ite ?_ ?_)
      | (with_reducible refine LeO.bind ?_ (fun _ => ?_))
      | exact ih0 _ _
      | exact LeO.none _
      | refine LeO.ite ?_ ?_
      | refine LeO.bind ?_ (fun _ => ?_)
theorem graftbedref12_Tag.mono : ∀ a0 k, LeO (graftbedref12_Tag.f k a0) (graftbedref12_Tag.f (k + 1) a0) := by
  intro a0 k
  have ih0 := graftbedref12_Tag.mono_l k
  unfold graftbedref12_Tag.f
  repeat' first
      | (with_reducible exact ih0 _ _)
      | (with_reducible exact LeO.refl _)
      | (with_reducible exact LeO.none _)
      | (with_reducible refine LeO.ite ?_ ?_)
      | (with_reducible refine LeO.bind ?_ (fun _ => ?_))
      | exact ih0 _ _
      | exact LeO.none _
      | refine LeO.ite ?_ ?_
      | refine LeO.bind ?_ (fun _ => ?_)
set_option maxHeartbeats 8000000 in
set_option maxRecDepth 100000 in
theorem graftbedref12_Tag.calls (k : Nat) (a0 : ByteArray) (r : Bool) (w : World) (h : graftbedref12_Tag.f k a0 = some r) :
    Calls Tryd.prog 53 #[.string a0] w fun e w' => e = .returned (.bool r) ∧ Drawn0 w w' := by
  have H : (graftbedref12_Tag.l0 k a0 0) = some r := h
  clear h
  have H' := Aside0.mk H
  clear H
  go_enter Tryd.func53, Tryd.ntmps53
  go_wp2
  go_loopg [3] k (fun kq v3 w' => ∃ (x3_1 : Int), v3 = .int .i64 x3_1 ∧ Aside0 (graftbedref12_Tag.l0 kq a0 x3_1 = some r) ∧ Aside0 (kq ≤ k) ∧ Drawn0 w w')
  case atStart => exact ⟨(0), (by first | rfl | (simp; done) | (simp [*]; done)), H', ⟨Nat.le_refl _⟩, by repeat (first | exact Drawn0.refl _ | apply Drawn0.step)⟩
  case round =>
    clear H'
    obtain ⟨x3_1, rfl, HA, HK1, ⟨m1, rfl⟩⟩ := hrel
    cases gk with
    | zero => exact absurd HA.out (by simp [graftbedref12_Tag.l0])
    | succ k1 =>
      have H := HA.out
      clear HA
      simp only [graftbedref12_Tag.l0] at H
      by_cases c2 : x3_1 < (a0.size : Int)
      · rw [if_pos c2] at H
        have c2b0 : decide (x3_1 < (a0.size : Int)) = true := decide_eq_true c2
        clear c2
        by_cases c3 : 0 ≤ x3_1
        · rw [if_pos c3] at H
          have c3b0 : decide (0 ≤ x3_1) = true := decide_eq_true c3
          clear c3
          replace H := Option.bind_eq_some_iff.mp H
          obtain ⟨t112, A50, H⟩ := H
          replace H : (if t112 = true then (graftbedref12_Tag.l0 k1 a0 (wrap64 (x3_1 + 1))) else (some false)) = some r := H
          have A5 := Aside0.mk A50
          clear A50
          by_cases c6 : t112 = true
          · subst c6
            have H1 : (graftbedref12_Tag.l0 k1 a0 (wrap64 (x3_1 + 1))) = some r := by rw [if_pos rfl] at H; exact H
            clear H
            have H := H1
            clear H1
            have H' := Aside0.mk H
            clear H
            have p4 : 0 ≤ (x3_1 : Int) := of_decide_eq_true (by first | (with_reducible assumption) | assumption)
            have q4 : x3_1 < (a0.size : Int) := of_decide_eq_true (by first | (with_reducible assumption) | assumption)
            have hx4 := bt_at a0 x3_1
            replace p4 := eq_true p4
            replace q4 := eq_true q4
            go_wp2_with (first | ((with_reducible refine gate_callee (f := 71) rfl ?_); refine goesL_ (some 13) rfl rfl Tryd.func71 (by kernel_rfl) rfl #[.int .u8 (bt a0 x3_1)] rfl (by (try simp only [List.map_toArray, List.map_cons, List.map_nil]); first | done | rfl | (simp only [List.length_drop, List.length_take]; rfl) | (simp only [ByteArray.size_extract, Nat.min_self]; done) | (simp only [ByteArray.size_append, StrMore.size_lit, List.length_cons, List.length_nil, Nat.zero_add, Nat.reduceAdd] <;> rfl)) ?_; (with_reducible refine (graftbedref12_letter.calls (bt a0 x3_1) true _ A5.out).mono ?_); rintro e w' ⟨rfl, ⟨nd, rfl⟩⟩; refine ⟨_, rfl, ?_⟩))
            go_roundg k1
            case measure => have := HK1.out; omega
            case rel => exact ⟨(wrap64 (x3_1 + 1)), (by first | rfl | (simp; done) | (simp [*]; done)), H', ⟨by have := HK1.out; omega⟩, by repeat (first | exact Drawn0.refl _ | apply Drawn0.step)⟩
          · replace c6 := Bool.eq_false_iff.mpr c6
            subst c6
            have H1 : (some false) = some r := by rw [if_neg (show ¬ (false = true) by decide)] at H; exact H
            clear H
            have H := H1
            clear H1
            obtain rfl := Option.some.inj H
            have p4 : 0 ≤ (x3_1 : Int) := of_decide_eq_true (by first | (with_reducible assumption) | assumption)
            have q4 : x3_1 < (a0.size : Int) := of_decide_eq_true (by first | (with_reducible assumption) | assumption)
            have hx4 := bt_at a0 x3_1
            replace p4 := eq_true p4
            replace q4 := eq_true q4
            go_wp2_with (first | ((with_reducible refine gate_callee (f := 71) rfl ?_); refine goesL_ (some 13) rfl rfl Tryd.func71 (by kernel_rfl) rfl #[.int .u8 (bt a0 x3_1)] rfl (by (try simp only [List.map_toArray, List.map_cons, List.map_nil]); first | done | rfl | (simp only [List.length_drop, List.length_take]; rfl) | (simp only [ByteArray.size_extract, Nat.min_self]; done) | (simp only [ByteArray.size_append, StrMore.size_lit, List.length_cons, List.length_nil, Nat.zero_add, Nat.reduceAdd] <;> rfl)) ?_; (with_reducible refine (graftbedref12_letter.calls (bt a0 x3_1) false _ A5.out).mono ?_); rintro e w' ⟨rfl, ⟨nd, rfl⟩⟩; refine ⟨_, rfl, ?_⟩))
            go_ret
            exact ⟨by first | rfl | (simp; done) | (simp [*]; done) | (have ne_ : ∀ l : List UInt8, (l != []) = !l.isEmpty := (fun l => by cases l <;> rfl); simp [ne_]; done), by repeat (first | exact Drawn0.refl _ | apply Drawn0.step)⟩
        · rw [if_neg c3] at H
          exact absurd H (by simp)
      · rw [if_neg c2] at H
        have c2b0 : decide (x3_1 < (a0.size : Int)) = false := decide_eq_false c2
        clear c2
        by_cases c7 : a0.toList = ([] : List UInt8)
        · rw [if_pos c7] at H
          have c7b0 : (a0.toList == ([] : List UInt8)) = true := beq_iff_eq.mpr c7
          have c7b1 : (a0.toList != ([] : List UInt8)) = false := bne_eq_false_iff_eq.mpr c7
          have c7b5 : a0.toList.isEmpty = true := by
            have e_ := c7b1
            revert e_
            cases a0.toList <;> simp
          clear c7
          obtain rfl := Option.some.inj H
          go_wp2
          go_ret
          exact ⟨by first | rfl | (simp; done) | (simp [*]; done) | (have ne_ : ∀ l : List UInt8, (l != []) = !l.isEmpty := (fun l => by cases l <;> rfl); simp [ne_]; done), by repeat (first | exact Drawn0.refl _ | apply Drawn0.step)⟩
        · rw [if_neg c7] at H
          have c7b0 : (a0.toList == ([] : List UInt8)) = false := beq_eq_false_iff_ne.mpr c7
          have c7b1 : (a0.toList != ([] : List UInt8)) = true := bne_iff_ne.mpr c7
          have c7b5 : a0.toList.isEmpty = false := by
            have e_ := c7b1
            revert e_
            cases a0.toList <;> simp
          obtain rfl := Option.some.inj H
          go_wp2
          go_ret
          exact ⟨by first | rfl | (simp; done) | (simp [*]; done) | (have ne_ : ∀ l : List UInt8, (l != []) = !l.isEmpty := (fun l => by cases l <;> rfl); simp [ne_]; done), by repeat (first | exact Drawn0.refl _ | apply Drawn0.step)⟩

end Go.Proofs.YtjndccjpjknbkaaDoor.PEx

-- by hprint.py (wip/): the kit's print over contracts proved by hand; a text of this session
namespace Go.Proofs.YtjndccjpjknbkaaDoor.PEx
open Go.RowKit Go.Proofs.YtjndccjpjknbkaaDoorW.PrintWords Go.Proofs.YtjndccjpjknbkaaDoorW.PrintLast Go.Proofs.YtjndccjpjknbkaaDoorW.PrintMore
attribute [local go_sem] max2_int min2_int max_two min_two max_three min_three max_four min_four   -- for this text's walks alone
set_option linter.unusedVariables false
set_option linter.unusedSimpArgs false

/-! ### graftbedref12_whole: function 37 -/
mutual
def graftbedref12_whole.j0 : Nat → List (S61) → Int → Bool → Int → ByteArray → Int → Int → Option (Int × Int)
  | 0, _, _, _, _, _, _, _ => none
  | k + 1, x0, x1, x66, x115000, x115001, x115002, x115003 => if x66 = true then (if x115001.toList = ([] : List UInt8) then (if x115003 = (wrap64 (x1 - 1)) then (graftbedref12_whole.j1 k x0 x1 (decide (x1 > 1)) x115000 x115001 x115002 x115003) else (graftbedref12_whole.j1 k x0 x1 false x115000 x115001 x115002 x115003)) else (graftbedref12_whole.j1 k x0 x1 false x115000 x115001 x115002 x115003)) else (some ((-1), 0))
def graftbedref12_whole.j1 : Nat → List (S61) → Int → Bool → Int → ByteArray → Int → Int → Option (Int × Int)
  | 0, _, _, _, _, _, _, _ => none
  | k + 1, x0, x1, x82, x115000, x115001, x115002, x115003 => if x82 = true then ((graftbedref12_whole.f k x0 (wrap64 (x1 - 1))).bind fun bt118 => (if bt118.1 > 0 then (if x115002 = (wrap64 (bt118.1 - 1)) then ((graftbedref12_whole.f k x0 (wrap64 (bt118.1 - 1))).bind fun bt120 => (some (bt120.1, wrap64 ((mx bt118.2 bt120.2) + 1)))) else (some ((-1), 0))) else (some ((-1), 0)))) else (some ((-1), 0))
def graftbedref12_whole.f : Nat → List (S61) → Int → Option (Int × Int)
  | 0, _, _ => none
  | k + 1, l0, a1 => if 0 ≤ a1 then (if a1 < (l0.length : Int) then (if ((rd_T61 l0 a1).f0) = 0 then ((graftbedref12_Tag.f k ((rd_T61 l0 a1).f1)).bind fun t115 => (if t115 = true then (if ((rd_T61 l0 a1).f2) = 0 then (if ((rd_T61 l0 a1).f3) = 0 then (some (a1, 1)) else (some ((-1), 0))) else (some ((-1), 0))) else (some ((-1), 0)))) else (if ((rd_T61 l0 a1).f0) = 1 then (if ((rd_T61 l0 a1).f1).toList = ([] : List UInt8) then (if ((rd_T61 l0 a1).f3) = 0 then (if ((rd_T61 l0 a1).f2) = (wrap64 (a1 - 1)) then (if a1 > 0 then ((graftbedref12_whole.f k l0 (wrap64 (a1 - 1))).bind fun bt116 => (some (bt116.1, wrap64 (bt116.2 + 1)))) else (some ((-1), 0))) else (some ((-1), 0))) else (some ((-1), 0))) else (some ((-1), 0))) else (if ((rd_T61 l0 a1).f0) = 2 then (graftbedref12_whole.j0 k l0 a1 (((rd_T61 l0 a1).f0) == 2) ((rd_T61 l0 a1).f0) ((rd_T61 l0 a1).f1) ((rd_T61 l0 a1).f2) ((rd_T61 l0 a1).f3)) else (graftbedref12_whole.j0 k l0 a1 (((rd_T61 l0 a1).f0) == 3) ((rd_T61 l0 a1).f0) ((rd_T61 l0 a1).f1) ((rd_T61 l0 a1).f2) ((rd_T61 l0 a1).f3))))) else (none)) else (none)
end
theorem graftbedref12_whole.mono_l : ∀ k, (∀ y0 y1, LeO (graftbedref12_whole.f k y0 y1) (graftbedref12_whole.f (k + 1) y0 y1)) ∧ (∀ y0 y1 y2 y3 y4 y5 y6, LeO (graftbedref12_whole.j0 k y0 y1 y2 y3 y4 y5 y6) (graftbedref12_whole.j0 (k + 1) y0 y1 y2 y3 y4 y5 y6)) ∧ (∀ y0 y1 y2 y3 y4 y5 y6, LeO (graftbedref12_whole.j1 k y0 y1 y2 y3 y4 y5 y6) (graftbedref12_whole.j1 (k + 1) y0 y1 y2 y3 y4 y5 y6))
  | 0 => ⟨fun _ _ r h => by simp [graftbedref12_whole.f] at h, fun _ _ _ _ _ _ _ r h => by simp [graftbedref12_whole.j0] at h, fun _ _ _ _ _ _ _ r h => by simp [graftbedref12_whole.j1] at h⟩
  | k + 1 => by
    obtain ⟨ih0, ih1, ih2⟩ := graftbedref12_whole.mono_l k
    refine ⟨?_, ?_, ?_⟩
    · intro y0 y1
      unfold graftbedref12_whole.f
      repeat' first
      | (with_reducible exact ih0 _ _)
      | (with_reducible exact ih1 _ _ _ _ _ _ _)
      | (with_reducible exact ih2 _ _ _ _ _ _ _)
      | (with_reducible exact graftbedref12_Tag.mono _ _)
      | (with_reducible exact LeO.refl _)
      | (with_reducible exact LeO.none _)
      | (with_reducible refine LeO.ite ?_ ?_)
      | (with_reducible refine LeO.bind ?_ (fun _ => ?_))
      | exact ih0 _ _
      | exact ih1 _ _ _ _ _ _ _
      | exact ih2 _ _ _ _ _ _ _
      | exact graftbedref12_Tag.mono _ _
      | exact LeO.none _
      | refine LeO.ite ?_ ?_
      | refine LeO.bind ?_ (fun _ => ?_)
    · intro y0 y1 y2 y3 y4 y5 y6
      unfold graftbedref12_whole.j0
      repeat' first
      | (with_reducible exact ih0 _ _)
      | (with_reducible exact ih1 _ _ _ _ _ _ _)
      | (with_reducible exact ih2 _ _ _ _ _ _ _)
      | (with_reducible exact graftbedref12_Tag.mono _ _)
      | (with_reducible exact LeO.refl _)
      | (with_reducible exact LeO.none _)
      | (with_reducible refine LeO.ite ?_ ?_)
      | (with_reducible refine LeO.bind ?_ (fun _ => ?_))
      | exact ih0 _ _
      | exact ih1 _ _ _ _ _ _ _
      | exact ih2 _ _ _ _ _ _ _
      | exact graftbedref12_Tag.mono _ _
      | exact LeO.none _
      | refine LeO.ite ?_ ?_
      | refine LeO.bind ?_ (fun _ => ?_)
    · intro y0 y1 y2 y3 y4 y5 y6
      unfold graftbedref12_whole.j1
      repeat' first
      | (with_reducible exact ih0 _ _)
      | (with_reducible exact ih1 _ _ _ _ _ _ _)
      | (with_reducible exact ih2 _ _ _ _ _ _ _)
      | (with_reducible exact graftbedref12_Tag.mono _ _)
      | (with_reducible exact LeO.refl _)
      | (with_reducible exact LeO.none _)
      | (with_reducible refine LeO.ite ?_ ?_)
      | (with_reducible refine LeO.bind ?_ (fun _ => ?_))
      | exact ih0 _ _
      | exact ih1 _ _ _ _ _ _ _
      | exact ih2 _ _ _ _ _ _ _
      | exact graftbedref12_Tag.mono _ _
      | exact LeO.none _
      | refine LeO.ite ?_ ?_
      | refine LeO.bind ?_ (fun _ => ?_)
theorem graftbedref12_whole.mono : ∀ a0 a1 k, LeO (graftbedref12_whole.f k a0 a1) (graftbedref12_whole.f (k + 1) a0 a1) := by
  intro a0 a1 k
  obtain ⟨ih0, ih1, ih2⟩ := graftbedref12_whole.mono_l k
  exact ih0 a0 a1
set_option maxHeartbeats 8000000 in
set_option maxRecDepth 100000 in
theorem graftbedref12_whole.calls (k : Nat) : ∀ (A0 : Option Addr) (c0 : Nat) (l0 : List (S61)) (a1 : Int) (r1 : Int) (r2 : Int) (w : World) (hr0 : Kd.C k61 w A0 l0.length l0) (hc0 : l0.length ≤ c0) (h : graftbedref12_whole.f k l0 a1 = some (r1, r2)),
    Calls Tryd.prog 37 #[.slice A0 l0.length c0, .int .i64 a1] w fun e w' => e = .returned (.tuple #[.int .i64 r1, .int .i64 r2]) ∧ Below w.heap.size w w' := by
  induction k using Nat.strongRecOn with
  | _ k ih =>
  intro A0 c0 l0 a1 r1 r2 w hr0 hc0 h
  cases k with
  | zero => exact absurd h (by simp [graftbedref12_whole.f])
  | succ k =>
  simp only [graftbedref12_whole.f] at h
  have hu61 := Tryd.underlying61
  have HR0 := Aside0.mk hr0
  have HC0 := Aside0.mk hc0
  clear hr0 hc0
  have HB := Aside0.mk (Below.refl w.heap.size w)
  have H : (if 0 ≤ a1 then (if a1 < (l0.length : Int) then (if ((rd_T61 l0 a1).f0) = 0 then ((graftbedref12_Tag.f k ((rd_T61 l0 a1).f1)).bind fun t115 => (if t115 = true then (if ((rd_T61 l0 a1).f2) = 0 then (if ((rd_T61 l0 a1).f3) = 0 then (some (a1, 1)) else (some ((-1), 0))) else (some ((-1), 0))) else (some ((-1), 0)))) else (if ((rd_T61 l0 a1).f0) = 1 then (if ((rd_T61 l0 a1).f1).toList = ([] : List UInt8) then (if ((rd_T61 l0 a1).f3) = 0 then (if ((rd_T61 l0 a1).f2) = (wrap64 (a1 - 1)) then (if a1 > 0 then ((graftbedref12_whole.f k l0 (wrap64 (a1 - 1))).bind fun bt116 => (some (bt116.1, wrap64 (bt116.2 + 1)))) else (some ((-1), 0))) else (some ((-1), 0))) else (some ((-1), 0))) else (some ((-1), 0))) else (if ((rd_T61 l0 a1).f0) = 2 then (graftbedref12_whole.j0 k l0 a1 (((rd_T61 l0 a1).f0) == 2) ((rd_T61 l0 a1).f0) ((rd_T61 l0 a1).f1) ((rd_T61 l0 a1).f2) ((rd_T61 l0 a1).f3)) else (graftbedref12_whole.j0 k l0 a1 (((rd_T61 l0 a1).f0) == 3) ((rd_T61 l0 a1).f0) ((rd_T61 l0 a1).f1) ((rd_T61 l0 a1).f2) ((rd_T61 l0 a1).f3))))) else (none)) else (none)) = some (r1, r2) := h
  clear h
  by_cases c3 : 0 ≤ a1
  · rw [if_pos c3] at H
    have c3b0 : decide (0 ≤ a1) = true := decide_eq_true c3
    clear c3
    by_cases c4 : a1 < (l0.length : Int)
    · rw [if_pos c4] at H
      have c4b0 : decide (a1 < (l0.length : Int)) = true := decide_eq_true c4
      clear c4
      by_cases c5 : ((rd_T61 l0 a1).f0) = 0
      · rw [if_pos c5] at H
        have c5b0 : (((rd_T61 l0 a1).f0) == 0) = true := beq_iff_eq.mpr c5
        have c5b1 : (((rd_T61 l0 a1).f0) != 0) = false := bne_eq_false_iff_eq.mpr c5
        clear c5
        replace H := Option.bind_eq_some_iff.mp H
        obtain ⟨t115, A60, H⟩ := H
        replace H : (if t115 = true then (if ((rd_T61 l0 a1).f2) = 0 then (if ((rd_T61 l0 a1).f3) = 0 then (some (a1, 1)) else (some ((-1), 0))) else (some ((-1), 0))) else (some ((-1), 0))) = some (r1, r2) := H
        have A6 := Aside0.mk A60
        clear A60
        by_cases c7 : t115 = true
        · subst c7
          have H1 : (if ((rd_T61 l0 a1).f2) = 0 then (if ((rd_T61 l0 a1).f3) = 0 then (some (a1, 1)) else (some ((-1), 0))) else (some ((-1), 0))) = some (r1, r2) := by rw [if_pos rfl] at H; exact H
          clear H
          have H := H1
          clear H1
          by_cases c8 : ((rd_T61 l0 a1).f2) = 0
          · rw [if_pos c8] at H
            have c8b0 : (((rd_T61 l0 a1).f2) == 0) = true := beq_iff_eq.mpr c8
            have c8b1 : (((rd_T61 l0 a1).f2) != 0) = false := bne_eq_false_iff_eq.mpr c8
            clear c8
            by_cases c9 : ((rd_T61 l0 a1).f3) = 0
            · rw [if_pos c9] at H
              have c9b0 : (((rd_T61 l0 a1).f3) == 0) = true := beq_iff_eq.mpr c9
              have c9b1 : (((rd_T61 l0 a1).f3) != 0) = false := bne_eq_false_iff_eq.mpr c9
              clear c9
              simp only [Option.some.injEq, Prod.mk.injEq] at H
              obtain ⟨rfl, rfl⟩ := H
              have p113 : 0 ≤ (a1 : Int) := of_decide_eq_true (by first | (with_reducible assumption) | assumption)
              have q113 : a1 < (l0.length : Int) := of_decide_eq_true (by first | (with_reducible assumption) | assumption)
              obtain ⟨ad113, e113, hx113_0, hx113_1, hx113_2, hx113_3⟩ := at_T61 HR0.out a1 p113 q113
              cases e113
              replace p113 := eq_true p113
              replace q113 := eq_true q113
              go_enter Tryd.func37, Tryd.ntmps37
              go_wp2_with (first | ((with_reducible refine gate_dst (N := 6) rfl ?_); refine box_event ?hg (N := 6) ?hd (cs := #[.int .i64 0, .string (⟨#[]⟩ : ByteArray), .int .i64 0, .int .i64 0]) (t := 61) ?hr ?_; (case hd => rfl); (case hg => rfl); (case hr => first | (go_simp; done) | (go_simp; rfl)); intro gb114 hg w10 hbox hb; have n0_ := Aside0.mk (below_step (by repeat (first | (with_reducible first | exact HB.out | apply below_alloc | apply pw_below_drewN | apply below_drew1) | exact HB.out)) hb); have n1_ := Aside0.mk (hbox); have n2_ := Aside0.mk ((by rw [hg]; exact (below_size (by repeat (first | (with_reducible first | exact HB.out | apply below_alloc | apply pw_below_drewN | apply below_drew1) | exact HB.out))) : w.heap.size ≤ gb114)); have n3_ := Aside0.mk ((by rw [hg]; exact (below_size (by repeat (first | (with_reducible first | exact HB.out | apply below_alloc | apply pw_below_drewN | apply below_drew1) | exact HB.out))) : w.heap.size ≤ gb114)); clear HB; have HB := n0_; have BK114 := n1_; have GW114 := n2_; have GE114 := n3_; clear n0_ n1_ n2_ n3_; clear hb hbox hg; have hcz11_0 : w10.cell? ⟨gb114, 0, none⟩ = some (.int .i64 0) := (blk_cell BK114.out 0).trans rfl; have hcz11_1 : w10.cell? ⟨gb114, 1, none⟩ = some (.string (⟨#[]⟩ : ByteArray)) := (blk_cell BK114.out 1).trans rfl; have hcz11_2 : w10.cell? ⟨gb114, 2, none⟩ = some (.int .i64 0) := (blk_cell BK114.out 2).trans rfl; have hcz11_3 : w10.cell? ⟨gb114, 3, none⟩ = some (.int .i64 0) := (blk_cell BK114.out 3).trans rfl; have hfz11_0 := blk_frozen BK114.out 0; have hfz11_1 := blk_frozen BK114.out 1; have hfz11_2 := blk_frozen BK114.out 2; have hfz11_3 := blk_frozen BK114.out 3) | ((with_reducible refine gate_callee (f := 53) rfl ?_); refine goesL_ (some 23) rfl rfl Tryd.func53 (by kernel_rfl) rfl #[.string ((rd_T61 l0 a1).f1)] rfl (by (try simp only [List.map_toArray, List.map_cons, List.map_nil]); first | done | rfl | (simp only [List.length_drop, List.length_take]; rfl) | (simp only [ByteArray.size_extract, Nat.min_self]; done) | (simp only [ByteArray.size_append, StrMore.size_lit, List.length_cons, List.length_nil, Nat.zero_add, Nat.reduceAdd] <;> rfl)) ?_; (with_reducible refine (graftbedref12_Tag.calls k ((rd_T61 l0 a1).f1) true _ A6.out).mono ?_); rintro e w' ⟨rfl, ⟨nd, rfl⟩⟩; refine ⟨_, rfl, ?_⟩))
              go_ret2
              exact ⟨by first | rfl | (simp [errW_none, errW_some] <;> rfl) | (simp [*, errW_none, errW_some] <;> rfl) | (exfalso; simp only [decide_eq_true_eq, decide_eq_false_iff_not, beq_iff_eq, beq_eq_false_iff_ne] at *; first | contradiction | omega), by repeat (first | (with_reducible first | exact HB.out | apply below_alloc | apply pw_below_drewN | apply below_drew1 | refine below_set ?_ GE114.out) | exact HB.out)⟩
            · rw [if_neg c9] at H
              have c9b0 : (((rd_T61 l0 a1).f3) == 0) = false := beq_eq_false_iff_ne.mpr c9
              have c9b1 : (((rd_T61 l0 a1).f3) != 0) = true := bne_iff_ne.mpr c9
              simp only [Option.some.injEq, Prod.mk.injEq] at H
              obtain ⟨rfl, rfl⟩ := H
              have p113 : 0 ≤ (a1 : Int) := of_decide_eq_true (by first | (with_reducible assumption) | assumption)
              have q113 : a1 < (l0.length : Int) := of_decide_eq_true (by first | (with_reducible assumption) | assumption)
              obtain ⟨ad113, e113, hx113_0, hx113_1, hx113_2, hx113_3⟩ := at_T61 HR0.out a1 p113 q113
              cases e113
              replace p113 := eq_true p113
              replace q113 := eq_true q113
              go_enter Tryd.func37, Tryd.ntmps37
              go_wp2_with (first | ((with_reducible refine gate_dst (N := 6) rfl ?_); refine box_event ?hg (N := 6) ?hd (cs := #[.int .i64 0, .string (⟨#[]⟩ : ByteArray), .int .i64 0, .int .i64 0]) (t := 61) ?hr ?_; (case hd => rfl); (case hg => rfl); (case hr => first | (go_simp; done) | (go_simp; rfl)); intro gb114 hg w12 hbox hb; have n0_ := Aside0.mk (below_step (by repeat (first | (with_reducible first | exact HB.out | apply below_alloc | apply pw_below_drewN | apply below_drew1) | exact HB.out)) hb); have n1_ := Aside0.mk (hbox); have n2_ := Aside0.mk ((by rw [hg]; exact (below_size (by repeat (first | (with_reducible first | exact HB.out | apply below_alloc | apply pw_below_drewN | apply below_drew1) | exact HB.out))) : w.heap.size ≤ gb114)); have n3_ := Aside0.mk ((by rw [hg]; exact (below_size (by repeat (first | (with_reducible first | exact HB.out | apply below_alloc | apply pw_below_drewN | apply below_drew1) | exact HB.out))) : w.heap.size ≤ gb114)); clear HB; have HB := n0_; have BK114 := n1_; have GW114 := n2_; have GE114 := n3_; clear n0_ n1_ n2_ n3_; clear hb hbox hg; have hcz13_0 : w12.cell? ⟨gb114, 0, none⟩ = some (.int .i64 0) := (blk_cell BK114.out 0).trans rfl; have hcz13_1 : w12.cell? ⟨gb114, 1, none⟩ = some (.string (⟨#[]⟩ : ByteArray)) := (blk_cell BK114.out 1).trans rfl; have hcz13_2 : w12.cell? ⟨gb114, 2, none⟩ = some (.int .i64 0) := (blk_cell BK114.out 2).trans rfl; have hcz13_3 : w12.cell? ⟨gb114, 3, none⟩ = some (.int .i64 0) := (blk_cell BK114.out 3).trans rfl; have hfz13_0 := blk_frozen BK114.out 0; have hfz13_1 := blk_frozen BK114.out 1; have hfz13_2 := blk_frozen BK114.out 2; have hfz13_3 := blk_frozen BK114.out 3) | ((with_reducible refine gate_callee (f := 53) rfl ?_); refine goesL_ (some 23) rfl rfl Tryd.func53 (by kernel_rfl) rfl #[.string ((rd_T61 l0 a1).f1)] rfl (by (try simp only [List.map_toArray, List.map_cons, List.map_nil]); first | done | rfl | (simp only [List.length_drop, List.length_take]; rfl) | (simp only [ByteArray.size_extract, Nat.min_self]; done) | (simp only [ByteArray.size_append, StrMore.size_lit, List.length_cons, List.length_nil, Nat.zero_add, Nat.reduceAdd] <;> rfl)) ?_; (with_reducible refine (graftbedref12_Tag.calls k ((rd_T61 l0 a1).f1) true _ A6.out).mono ?_); rintro e w' ⟨rfl, ⟨nd, rfl⟩⟩; refine ⟨_, rfl, ?_⟩))
              go_ret2
              exact ⟨by first | rfl | (simp [errW_none, errW_some] <;> rfl) | (simp [*, errW_none, errW_some] <;> rfl) | (exfalso; simp only [decide_eq_true_eq, decide_eq_false_iff_not, beq_iff_eq, beq_eq_false_iff_ne] at *; first | contradiction | omega), by repeat (first | (with_reducible first | exact HB.out | apply below_alloc | apply pw_below_drewN | apply below_drew1 | refine below_set ?_ GE114.out) | exact HB.out)⟩
          · rw [if_neg c8] at H
            have c8b0 : (((rd_T61 l0 a1).f2) == 0) = false := beq_eq_false_iff_ne.mpr c8
            have c8b1 : (((rd_T61 l0 a1).f2) != 0) = true := bne_iff_ne.mpr c8
            simp only [Option.some.injEq, Prod.mk.injEq] at H
            obtain ⟨rfl, rfl⟩ := H
            have p113 : 0 ≤ (a1 : Int) := of_decide_eq_true (by first | (with_reducible assumption) | assumption)
            have q113 : a1 < (l0.length : Int) := of_decide_eq_true (by first | (with_reducible assumption) | assumption)
            obtain ⟨ad113, e113, hx113_0, hx113_1, hx113_2, hx113_3⟩ := at_T61 HR0.out a1 p113 q113
            cases e113
            replace p113 := eq_true p113
            replace q113 := eq_true q113
            go_enter Tryd.func37, Tryd.ntmps37
            go_wp2_with (first | ((with_reducible refine gate_dst (N := 6) rfl ?_); refine box_event ?hg (N := 6) ?hd (cs := #[.int .i64 0, .string (⟨#[]⟩ : ByteArray), .int .i64 0, .int .i64 0]) (t := 61) ?hr ?_; (case hd => rfl); (case hg => rfl); (case hr => first | (go_simp; done) | (go_simp; rfl)); intro gb114 hg w14 hbox hb; have n0_ := Aside0.mk (below_step (by repeat (first | (with_reducible first | exact HB.out | apply below_alloc | apply pw_below_drewN | apply below_drew1) | exact HB.out)) hb); have n1_ := Aside0.mk (hbox); have n2_ := Aside0.mk ((by rw [hg]; exact (below_size (by repeat (first | (with_reducible first | exact HB.out | apply below_alloc | apply pw_below_drewN | apply below_drew1) | exact HB.out))) : w.heap.size ≤ gb114)); have n3_ := Aside0.mk ((by rw [hg]; exact (below_size (by repeat (first | (with_reducible first | exact HB.out | apply below_alloc | apply pw_below_drewN | apply below_drew1) | exact HB.out))) : w.heap.size ≤ gb114)); clear HB; have HB := n0_; have BK114 := n1_; have GW114 := n2_; have GE114 := n3_; clear n0_ n1_ n2_ n3_; clear hb hbox hg; have hcz15_0 : w14.cell? ⟨gb114, 0, none⟩ = some (.int .i64 0) := (blk_cell BK114.out 0).trans rfl; have hcz15_1 : w14.cell? ⟨gb114, 1, none⟩ = some (.string (⟨#[]⟩ : ByteArray)) := (blk_cell BK114.out 1).trans rfl; have hcz15_2 : w14.cell? ⟨gb114, 2, none⟩ = some (.int .i64 0) := (blk_cell BK114.out 2).trans rfl; have hcz15_3 : w14.cell? ⟨gb114, 3, none⟩ = some (.int .i64 0) := (blk_cell BK114.out 3).trans rfl; have hfz15_0 := blk_frozen BK114.out 0; have hfz15_1 := blk_frozen BK114.out 1; have hfz15_2 := blk_frozen BK114.out 2; have hfz15_3 := blk_frozen BK114.out 3) | ((with_reducible refine gate_callee (f := 53) rfl ?_); refine goesL_ (some 23) rfl rfl Tryd.func53 (by kernel_rfl) rfl #[.string ((rd_T61 l0 a1).f1)] rfl (by (try simp only [List.map_toArray, List.map_cons, List.map_nil]); first | done | rfl | (simp only [List.length_drop, List.length_take]; rfl) | (simp only [ByteArray.size_extract, Nat.min_self]; done) | (simp only [ByteArray.size_append, StrMore.size_lit, List.length_cons, List.length_nil, Nat.zero_add, Nat.reduceAdd] <;> rfl)) ?_; (with_reducible refine (graftbedref12_Tag.calls k ((rd_T61 l0 a1).f1) true _ A6.out).mono ?_); rintro e w' ⟨rfl, ⟨nd, rfl⟩⟩; refine ⟨_, rfl, ?_⟩))
            go_ret2
            exact ⟨by first | rfl | (simp [errW_none, errW_some] <;> rfl) | (simp [*, errW_none, errW_some] <;> rfl) | (exfalso; simp only [decide_eq_true_eq, decide_eq_false_iff_not, beq_iff_eq, beq_eq_false_iff_ne] at *; first | contradiction | omega), by repeat (first | (with_reducible first | exact HB.out | apply below_alloc | apply pw_below_drewN | apply below_drew1 | refine below_set ?_ GE114.out) | exact HB.out)⟩
        · replace c7 := Bool.eq_false_iff.mpr c7
          subst c7
          have H1 : (some ((-1), 0)) = some (r1, r2) := by rw [if_neg (show ¬ (false = true) by decide)] at H; exact H
          clear H
          have H := H1
          clear H1
          simp only [Option.some.injEq, Prod.mk.injEq] at H
          obtain ⟨rfl, rfl⟩ := H
          have p113 : 0 ≤ (a1 : Int) := of_decide_eq_true (by first | (with_reducible assumption) | assumption)
          have q113 : a1 < (l0.length : Int) := of_decide_eq_true (by first | (with_reducible assumption) | assumption)
          obtain ⟨ad113, e113, hx113_0, hx113_1, hx113_2, hx113_3⟩ := at_T61 HR0.out a1 p113 q113
          cases e113
          replace p113 := eq_true p113
          replace q113 := eq_true q113
          go_enter Tryd.func37, Tryd.ntmps37
          go_wp2_with (first | ((with_reducible refine gate_dst (N := 6) rfl ?_); refine box_event ?hg (N := 6) ?hd (cs := #[.int .i64 0, .string (⟨#[]⟩ : ByteArray), .int .i64 0, .int .i64 0]) (t := 61) ?hr ?_; (case hd => rfl); (case hg => rfl); (case hr => first | (go_simp; done) | (go_simp; rfl)); intro gb114 hg w16 hbox hb; have n0_ := Aside0.mk (below_step (by repeat (first | (with_reducible first | exact HB.out | apply below_alloc | apply pw_below_drewN | apply below_drew1) | exact HB.out)) hb); have n1_ := Aside0.mk (hbox); have n2_ := Aside0.mk ((by rw [hg]; exact (below_size (by repeat (first | (with_reducible first | exact HB.out | apply below_alloc | apply pw_below_drewN | apply below_drew1) | exact HB.out))) : w.heap.size ≤ gb114)); have n3_ := Aside0.mk ((by rw [hg]; exact (below_size (by repeat (first | (with_reducible first | exact HB.out | apply below_alloc | apply pw_below_drewN | apply below_drew1) | exact HB.out))) : w.heap.size ≤ gb114)); clear HB; have HB := n0_; have BK114 := n1_; have GW114 := n2_; have GE114 := n3_; clear n0_ n1_ n2_ n3_; clear hb hbox hg; have hcz17_0 : w16.cell? ⟨gb114, 0, none⟩ = some (.int .i64 0) := (blk_cell BK114.out 0).trans rfl; have hcz17_1 : w16.cell? ⟨gb114, 1, none⟩ = some (.string (⟨#[]⟩ : ByteArray)) := (blk_cell BK114.out 1).trans rfl; have hcz17_2 : w16.cell? ⟨gb114, 2, none⟩ = some (.int .i64 0) := (blk_cell BK114.out 2).trans rfl; have hcz17_3 : w16.cell? ⟨gb114, 3, none⟩ = some (.int .i64 0) := (blk_cell BK114.out 3).trans rfl; have hfz17_0 := blk_frozen BK114.out 0; have hfz17_1 := blk_frozen BK114.out 1; have hfz17_2 := blk_frozen BK114.out 2; have hfz17_3 := blk_frozen BK114.out 3) | ((with_reducible refine gate_callee (f := 53) rfl ?_); refine goesL_ (some 23) rfl rfl Tryd.func53 (by kernel_rfl) rfl #[.string ((rd_T61 l0 a1).f1)] rfl (by (try simp only [List.map_toArray, List.map_cons, List.map_nil]); first | done | rfl | (simp only [List.length_drop, List.length_take]; rfl) | (simp only [ByteArray.size_extract, Nat.min_self]; done) | (simp only [ByteArray.size_append, StrMore.size_lit, List.length_cons, List.length_nil, Nat.zero_add, Nat.reduceAdd] <;> rfl)) ?_; (with_reducible refine (graftbedref12_Tag.calls k ((rd_T61 l0 a1).f1) false _ A6.out).mono ?_); rintro e w' ⟨rfl, ⟨nd, rfl⟩⟩; refine ⟨_, rfl, ?_⟩))
          go_ret2
          exact ⟨by first | rfl | (simp [errW_none, errW_some] <;> rfl) | (simp [*, errW_none, errW_some] <;> rfl) | (exfalso; simp only [decide_eq_true_eq, decide_eq_false_iff_not, beq_iff_eq, beq_eq_false_iff_ne] at *; first | contradiction | omega), by repeat (first | (with_reducible first | exact HB.out | apply below_alloc | apply pw_below_drewN | apply below_drew1 | refine below_set ?_ GE114.out) | exact HB.out)⟩
      · rw [if_neg c5] at H
        have c5b0 : (((rd_T61 l0 a1).f0) == 0) = false := beq_eq_false_iff_ne.mpr c5
        have c5b1 : (((rd_T61 l0 a1).f0) != 0) = true := bne_iff_ne.mpr c5
        by_cases c18 : ((rd_T61 l0 a1).f0) = 1
        · rw [if_pos c18] at H
          have c18b0 : (((rd_T61 l0 a1).f0) == 1) = true := beq_iff_eq.mpr c18
          have c18b1 : (((rd_T61 l0 a1).f0) != 1) = false := bne_eq_false_iff_eq.mpr c18
          clear c18
          by_cases c19 : ((rd_T61 l0 a1).f1).toList = ([] : List UInt8)
          · rw [if_pos c19] at H
            have c19b0 : (((rd_T61 l0 a1).f1).toList == ([] : List UInt8)) = true := beq_iff_eq.mpr c19
            have c19b1 : (((rd_T61 l0 a1).f1).toList != ([] : List UInt8)) = false := bne_eq_false_iff_eq.mpr c19
            have c19b5 : ((rd_T61 l0 a1).f1).toList.isEmpty = true := by
              have e_ := c19b1
              revert e_
              cases ((rd_T61 l0 a1).f1).toList <;> simp
            clear c19
            by_cases c20 : ((rd_T61 l0 a1).f3) = 0
            · rw [if_pos c20] at H
              have c20b0 : (((rd_T61 l0 a1).f3) == 0) = true := beq_iff_eq.mpr c20
              have c20b1 : (((rd_T61 l0 a1).f3) != 0) = false := bne_eq_false_iff_eq.mpr c20
              clear c20
              by_cases c21 : ((rd_T61 l0 a1).f2) = (wrap64 (a1 - 1))
              · rw [if_pos c21] at H
                have c21b0 : (((rd_T61 l0 a1).f2) == (wrap64 (a1 - 1))) = true := beq_iff_eq.mpr c21
                have c21b1 : (((rd_T61 l0 a1).f2) != (wrap64 (a1 - 1))) = false := bne_eq_false_iff_eq.mpr c21
                clear c21
                by_cases c22 : a1 > 0
                · rw [if_pos c22] at H
                  have c22b0 : decide (0 < a1) = true := decide_eq_true c22
                  clear c22
                  replace H := Option.bind_eq_some_iff.mp H
                  obtain ⟨⟨t116, t117⟩, A230, H⟩ := H
                  replace H : (some (t116, wrap64 (t117 + 1))) = some (r1, r2) := H
                  have A23 := Aside0.mk A230
                  clear A230
                  simp only [Option.some.injEq, Prod.mk.injEq] at H
                  obtain ⟨rfl, rfl⟩ := H
                  have p113 : 0 ≤ (a1 : Int) := of_decide_eq_true (by first | (with_reducible assumption) | assumption)
                  have q113 : a1 < (l0.length : Int) := of_decide_eq_true (by first | (with_reducible assumption) | assumption)
                  obtain ⟨ad113, e113, hx113_0, hx113_1, hx113_2, hx113_3⟩ := at_T61 HR0.out a1 p113 q113
                  cases e113
                  replace p113 := eq_true p113
                  replace q113 := eq_true q113
                  go_enter Tryd.func37, Tryd.ntmps37
                  go_wp2_with (first | ((with_reducible refine gate_dst (N := 6) rfl ?_); refine box_event ?hg (N := 6) ?hd (cs := #[.int .i64 0, .string (⟨#[]⟩ : ByteArray), .int .i64 0, .int .i64 0]) (t := 61) ?hr ?_; (case hd => rfl); (case hg => rfl); (case hr => first | (go_simp; done) | (go_simp; rfl)); intro gb114 hg w24 hbox hb; have n0_ := Aside0.mk (below_step (by repeat (first | (with_reducible first | exact HB.out | apply below_alloc | apply pw_below_drewN | apply below_drew1) | exact HB.out)) hb); have n1_ := Aside0.mk (hbox); have n2_ := Aside0.mk ((by rw [hg]; exact (below_size (by repeat (first | (with_reducible first | exact HB.out | apply below_alloc | apply pw_below_drewN | apply below_drew1) | exact HB.out))) : w.heap.size ≤ gb114)); have n3_ := Aside0.mk ((by rw [hg]; exact (below_size (by repeat (first | (with_reducible first | exact HB.out | apply below_alloc | apply pw_below_drewN | apply below_drew1) | exact HB.out))) : w.heap.size ≤ gb114)); clear HB; have HB := n0_; have BK114 := n1_; have GW114 := n2_; have GE114 := n3_; clear n0_ n1_ n2_ n3_; clear hb hbox hg; have hcz25_0 : w24.cell? ⟨gb114, 0, none⟩ = some (.int .i64 0) := (blk_cell BK114.out 0).trans rfl; have hcz25_1 : w24.cell? ⟨gb114, 1, none⟩ = some (.string (⟨#[]⟩ : ByteArray)) := (blk_cell BK114.out 1).trans rfl; have hcz25_2 : w24.cell? ⟨gb114, 2, none⟩ = some (.int .i64 0) := (blk_cell BK114.out 2).trans rfl; have hcz25_3 : w24.cell? ⟨gb114, 3, none⟩ = some (.int .i64 0) := (blk_cell BK114.out 3).trans rfl; have hfz25_0 := blk_frozen BK114.out 0; have hfz25_1 := blk_frozen BK114.out 1; have hfz25_2 := blk_frozen BK114.out 2; have hfz25_3 := blk_frozen BK114.out 3) | ((with_reducible refine gate_callee (f := 37) rfl ?_); refine goesL_ (some 60) rfl rfl Tryd.func37 (by kernel_rfl) rfl #[.slice (some ad113) l0.length c0, .int .i64 (wrap64 (a1 - 1))] rfl (by (try simp only [List.map_toArray, List.map_cons, List.map_nil]); first | done | rfl | (simp only [List.length_drop, List.length_take]; rfl) | (simp only [ByteArray.size_extract, Nat.min_self]; done) | (simp only [ByteArray.size_append, StrMore.size_lit, List.length_cons, List.length_nil, Nat.zero_add, Nat.reduceAdd] <;> rfl)) ?_; (with_reducible refine (ih k (by omega) _ _ l0 (wrap64 (a1 - 1)) t116 t117 _ ?side1 ?side2 A23.out).mono ?_); (case side1 => exact Kd.C_below HR0.out (by repeat (first | (with_reducible first | exact HB.out | apply below_alloc | apply pw_below_drewN | apply below_drew1 | refine below_set ?_ GE114.out) | exact HB.out))); (case side2 => exact HC0.out); rintro e w26 ⟨rfl, hb⟩; refine ⟨_, rfl, ?_⟩; have n0_ := Aside0.mk (blk_below (g := gb114) (o := .cells #[.int .i64 ((rd_T61 l0 a1).f0), .string ((rd_T61 l0 a1).f1), .int .i64 ((rd_T61 l0 a1).f2), .int .i64 ((rd_T61 l0 a1).f3)] 61 (0, 0)) (by (with_reducible repeat (first | refine blk_drewN ?_ _ | refine blk_drew ?_ | refine blk_alloc ?_ _)); refine blk_put (cs := #[.int .i64 ((rd_T61 l0 a1).f0), .string ((rd_T61 l0 a1).f1), .int .i64 ((rd_T61 l0 a1).f2), .int .i64 0]) ?_ 3 _ rfl; (with_reducible repeat (first | refine blk_drewN ?_ _ | refine blk_drew ?_ | refine blk_alloc ?_ _)); refine blk_put (cs := #[.int .i64 ((rd_T61 l0 a1).f0), .string ((rd_T61 l0 a1).f1), .int .i64 0, .int .i64 0]) ?_ 2 _ rfl; (with_reducible repeat (first | refine blk_drewN ?_ _ | refine blk_drew ?_ | refine blk_alloc ?_ _)); refine blk_put (cs := #[.int .i64 ((rd_T61 l0 a1).f0), .string (⟨#[]⟩ : ByteArray), .int .i64 0, .int .i64 0]) ?_ 1 _ rfl; (with_reducible repeat (first | refine blk_drewN ?_ _ | refine blk_drew ?_ | refine blk_alloc ?_ _)); refine blk_put (cs := #[.int .i64 0, .string (⟨#[]⟩ : ByteArray), .int .i64 0, .int .i64 0]) ?_ 0 _ rfl; (with_reducible repeat (first | refine blk_drewN ?_ _ | refine blk_drew ?_ | refine blk_alloc ?_ _)); exact BK114.out) hb); have n1_ := Aside0.mk (below_step (by repeat (first | (with_reducible first | exact HB.out | apply below_alloc | apply pw_below_drewN | apply below_drew1 | refine below_set ?_ GE114.out) | exact HB.out)) hb); clear BK114; clear HB; have BK114 := n0_; have HB := n1_; clear n0_ n1_; (try clear hb); (try clear hb2); (try clear hk); (try clear hi)))
                  go_ret2
                  exact ⟨by first | rfl | (simp [errW_none, errW_some] <;> rfl) | (simp [*, errW_none, errW_some] <;> rfl) | (exfalso; simp only [decide_eq_true_eq, decide_eq_false_iff_not, beq_iff_eq, beq_eq_false_iff_ne] at *; first | contradiction | omega), by repeat (first | (with_reducible first | exact HB.out | apply below_alloc | apply pw_below_drewN | apply below_drew1 | refine below_set ?_ GE114.out) | exact HB.out)⟩
                · rw [if_neg c22] at H
                  have c22b0 : decide (0 < a1) = false := decide_eq_false c22
                  clear c22
                  simp only [Option.some.injEq, Prod.mk.injEq] at H
                  obtain ⟨rfl, rfl⟩ := H
                  have p113 : 0 ≤ (a1 : Int) := of_decide_eq_true (by first | (with_reducible assumption) | assumption)
                  have q113 : a1 < (l0.length : Int) := of_decide_eq_true (by first | (with_reducible assumption) | assumption)
                  obtain ⟨ad113, e113, hx113_0, hx113_1, hx113_2, hx113_3⟩ := at_T61 HR0.out a1 p113 q113
                  cases e113
                  replace p113 := eq_true p113
                  replace q113 := eq_true q113
                  go_enter Tryd.func37, Tryd.ntmps37
                  go_wp2_with (first | ((with_reducible refine gate_dst (N := 6) rfl ?_); refine box_event ?hg (N := 6) ?hd (cs := #[.int .i64 0, .string (⟨#[]⟩ : ByteArray), .int .i64 0, .int .i64 0]) (t := 61) ?hr ?_; (case hd => rfl); (case hg => rfl); (case hr => first | (go_simp; done) | (go_simp; rfl)); intro gb114 hg w27 hbox hb; have n0_ := Aside0.mk (below_step (by repeat (first | (with_reducible first | exact HB.out | apply below_alloc | apply pw_below_drewN | apply below_drew1) | exact HB.out)) hb); have n1_ := Aside0.mk (hbox); have n2_ := Aside0.mk ((by rw [hg]; exact (below_size (by repeat (first | (with_reducible first | exact HB.out | apply below_alloc | apply pw_below_drewN | apply below_drew1) | exact HB.out))) : w.heap.size ≤ gb114)); have n3_ := Aside0.mk ((by rw [hg]; exact (below_size (by repeat (first | (with_reducible first | exact HB.out | apply below_alloc | apply pw_below_drewN | apply below_drew1) | exact HB.out))) : w.heap.size ≤ gb114)); clear HB; have HB := n0_; have BK114 := n1_; have GW114 := n2_; have GE114 := n3_; clear n0_ n1_ n2_ n3_; clear hb hbox hg; have hcz28_0 : w27.cell? ⟨gb114, 0, none⟩ = some (.int .i64 0) := (blk_cell BK114.out 0).trans rfl; have hcz28_1 : w27.cell? ⟨gb114, 1, none⟩ = some (.string (⟨#[]⟩ : ByteArray)) := (blk_cell BK114.out 1).trans rfl; have hcz28_2 : w27.cell? ⟨gb114, 2, none⟩ = some (.int .i64 0) := (blk_cell BK114.out 2).trans rfl; have hcz28_3 : w27.cell? ⟨gb114, 3, none⟩ = some (.int .i64 0) := (blk_cell BK114.out 3).trans rfl; have hfz28_0 := blk_frozen BK114.out 0; have hfz28_1 := blk_frozen BK114.out 1; have hfz28_2 := blk_frozen BK114.out 2; have hfz28_3 := blk_frozen BK114.out 3))
                  go_ret2
                  exact ⟨by first | rfl | (simp [errW_none, errW_some] <;> rfl) | (simp [*, errW_none, errW_some] <;> rfl) | (exfalso; simp only [decide_eq_true_eq, decide_eq_false_iff_not, beq_iff_eq, beq_eq_false_iff_ne] at *; first | contradiction | omega), by repeat (first | (with_reducible first | exact HB.out | apply below_alloc | apply pw_below_drewN | apply below_drew1 | refine below_set ?_ GE114.out) | exact HB.out)⟩
              · rw [if_neg c21] at H
                have c21b0 : (((rd_T61 l0 a1).f2) == (wrap64 (a1 - 1))) = false := beq_eq_false_iff_ne.mpr c21
                have c21b1 : (((rd_T61 l0 a1).f2) != (wrap64 (a1 - 1))) = true := bne_iff_ne.mpr c21
                simp only [Option.some.injEq, Prod.mk.injEq] at H
                obtain ⟨rfl, rfl⟩ := H
                have p113 : 0 ≤ (a1 : Int) := of_decide_eq_true (by first | (with_reducible assumption) | assumption)
                have q113 : a1 < (l0.length : Int) := of_decide_eq_true (by first | (with_reducible assumption) | assumption)
                obtain ⟨ad113, e113, hx113_0, hx113_1, hx113_2, hx113_3⟩ := at_T61 HR0.out a1 p113 q113
                cases e113
                replace p113 := eq_true p113
                replace q113 := eq_true q113
                go_enter Tryd.func37, Tryd.ntmps37
                go_wp2_with (first | ((with_reducible refine gate_dst (N := 6) rfl ?_); refine box_event ?hg (N := 6) ?hd (cs := #[.int .i64 0, .string (⟨#[]⟩ : ByteArray), .int .i64 0, .int .i64 0]) (t := 61) ?hr ?_; (case hd => rfl); (case hg => rfl); (case hr => first | (go_simp; done) | (go_simp; rfl)); intro gb114 hg w29 hbox hb; have n0_ := Aside0.mk (below_step (by repeat (first | (with_reducible first | exact HB.out | apply below_alloc | apply pw_below_drewN | apply below_drew1) | exact HB.out)) hb); have n1_ := Aside0.mk (hbox); have n2_ := Aside0.mk ((by rw [hg]; exact (below_size (by repeat (first | (with_reducible first | exact HB.out | apply below_alloc | apply pw_below_drewN | apply below_drew1) | exact HB.out))) : w.heap.size ≤ gb114)); have n3_ := Aside0.mk ((by rw [hg]; exact (below_size (by repeat (first | (with_reducible first | exact HB.out | apply below_alloc | apply pw_below_drewN | apply below_drew1) | exact HB.out))) : w.heap.size ≤ gb114)); clear HB; have HB := n0_; have BK114 := n1_; have GW114 := n2_; have GE114 := n3_; clear n0_ n1_ n2_ n3_; clear hb hbox hg; have hcz30_0 : w29.cell? ⟨gb114, 0, none⟩ = some (.int .i64 0) := (blk_cell BK114.out 0).trans rfl; have hcz30_1 : w29.cell? ⟨gb114, 1, none⟩ = some (.string (⟨#[]⟩ : ByteArray)) := (blk_cell BK114.out 1).trans rfl; have hcz30_2 : w29.cell? ⟨gb114, 2, none⟩ = some (.int .i64 0) := (blk_cell BK114.out 2).trans rfl; have hcz30_3 : w29.cell? ⟨gb114, 3, none⟩ = some (.int .i64 0) := (blk_cell BK114.out 3).trans rfl; have hfz30_0 := blk_frozen BK114.out 0; have hfz30_1 := blk_frozen BK114.out 1; have hfz30_2 := blk_frozen BK114.out 2; have hfz30_3 := blk_frozen BK114.out 3))
                go_ret2
                exact ⟨by first | rfl | (simp [errW_none, errW_some] <;> rfl) | (simp [*, errW_none, errW_some] <;> rfl) | (exfalso; simp only [decide_eq_true_eq, decide_eq_false_iff_not, beq_iff_eq, beq_eq_false_iff_ne] at *; first | contradiction | omega), by repeat (first | (with_reducible first | exact HB.out | apply below_alloc | apply pw_below_drewN | apply below_drew1 | refine below_set ?_ GE114.out) | exact HB.out)⟩
            · rw [if_neg c20] at H
              have c20b0 : (((rd_T61 l0 a1).f3) == 0) = false := beq_eq_false_iff_ne.mpr c20
              have c20b1 : (((rd_T61 l0 a1).f3) != 0) = true := bne_iff_ne.mpr c20
              simp only [Option.some.injEq, Prod.mk.injEq] at H
              obtain ⟨rfl, rfl⟩ := H
              have p113 : 0 ≤ (a1 : Int) := of_decide_eq_true (by first | (with_reducible assumption) | assumption)
              have q113 : a1 < (l0.length : Int) := of_decide_eq_true (by first | (with_reducible assumption) | assumption)
              obtain ⟨ad113, e113, hx113_0, hx113_1, hx113_2, hx113_3⟩ := at_T61 HR0.out a1 p113 q113
              cases e113
              replace p113 := eq_true p113
              replace q113 := eq_true q113
              go_enter Tryd.func37, Tryd.ntmps37
              go_wp2_with (first | ((with_reducible refine gate_dst (N := 6) rfl ?_); refine box_event ?hg (N := 6) ?hd (cs := #[.int .i64 0, .string (⟨#[]⟩ : ByteArray), .int .i64 0, .int .i64 0]) (t := 61) ?hr ?_; (case hd => rfl); (case hg => rfl); (case hr => first | (go_simp; done) | (go_simp; rfl)); intro gb114 hg w31 hbox hb; have n0_ := Aside0.mk (below_step (by repeat (first | (with_reducible first | exact HB.out | apply below_alloc | apply pw_below_drewN | apply below_drew1) | exact HB.out)) hb); have n1_ := Aside0.mk (hbox); have n2_ := Aside0.mk ((by rw [hg]; exact (below_size (by repeat (first | (with_reducible first | exact HB.out | apply below_alloc | apply pw_below_drewN | apply below_drew1) | exact HB.out))) : w.heap.size ≤ gb114)); have n3_ := Aside0.mk ((by rw [hg]; exact (below_size (by repeat (first | (with_reducible first | exact HB.out | apply below_alloc | apply pw_below_drewN | apply below_drew1) | exact HB.out))) : w.heap.size ≤ gb114)); clear HB; have HB := n0_; have BK114 := n1_; have GW114 := n2_; have GE114 := n3_; clear n0_ n1_ n2_ n3_; clear hb hbox hg; have hcz32_0 : w31.cell? ⟨gb114, 0, none⟩ = some (.int .i64 0) := (blk_cell BK114.out 0).trans rfl; have hcz32_1 : w31.cell? ⟨gb114, 1, none⟩ = some (.string (⟨#[]⟩ : ByteArray)) := (blk_cell BK114.out 1).trans rfl; have hcz32_2 : w31.cell? ⟨gb114, 2, none⟩ = some (.int .i64 0) := (blk_cell BK114.out 2).trans rfl; have hcz32_3 : w31.cell? ⟨gb114, 3, none⟩ = some (.int .i64 0) := (blk_cell BK114.out 3).trans rfl; have hfz32_0 := blk_frozen BK114.out 0; have hfz32_1 := blk_frozen BK114.out 1; have hfz32_2 := blk_frozen BK114.out 2; have hfz32_3 := blk_frozen BK114.out 3))
              go_ret2
              exact ⟨by first | rfl | (simp [errW_none, errW_some] <;> rfl) | (simp [*, errW_none, errW_some] <;> rfl) | (exfalso; simp only [decide_eq_true_eq, decide_eq_false_iff_not, beq_iff_eq, beq_eq_false_iff_ne] at *; first | contradiction | omega), by repeat (first | (with_reducible first | exact HB.out | apply below_alloc | apply pw_below_drewN | apply below_drew1 | refine below_set ?_ GE114.out) | exact HB.out)⟩
          · rw [if_neg c19] at H
            have c19b0 : (((rd_T61 l0 a1).f1).toList == ([] : List UInt8)) = false := beq_eq_false_iff_ne.mpr c19
            have c19b1 : (((rd_T61 l0 a1).f1).toList != ([] : List UInt8)) = true := bne_iff_ne.mpr c19
            have c19b5 : ((rd_T61 l0 a1).f1).toList.isEmpty = false := by
              have e_ := c19b1
              revert e_
              cases ((rd_T61 l0 a1).f1).toList <;> simp
            simp only [Option.some.injEq, Prod.mk.injEq] at H
            obtain ⟨rfl, rfl⟩ := H
            have p113 : 0 ≤ (a1 : Int) := of_decide_eq_true (by first | (with_reducible assumption) | assumption)
            have q113 : a1 < (l0.length : Int) := of_decide_eq_true (by first | (with_reducible assumption) | assumption)
            obtain ⟨ad113, e113, hx113_0, hx113_1, hx113_2, hx113_3⟩ := at_T61 HR0.out a1 p113 q113
            cases e113
            replace p113 := eq_true p113
            replace q113 := eq_true q113
            go_enter Tryd.func37, Tryd.ntmps37
            go_wp2_with (first | ((with_reducible refine gate_dst (N := 6) rfl ?_); refine box_event ?hg (N := 6) ?hd (cs := #[.int .i64 0, .string (⟨#[]⟩ : ByteArray), .int .i64 0, .int .i64 0]) (t := 61) ?hr ?_; (case hd => rfl); (case hg => rfl); (case hr => first | (go_simp; done) | (go_simp; rfl)); intro gb114 hg w33 hbox hb; have n0_ := Aside0.mk (below_step (by repeat (first | (with_reducible first | exact HB.out | apply below_alloc | apply pw_below_drewN | apply below_drew1) | exact HB.out)) hb); have n1_ := Aside0.mk (hbox); have n2_ := Aside0.mk ((by rw [hg]; exact (below_size (by repeat (first | (with_reducible first | exact HB.out | apply below_alloc | apply pw_below_drewN | apply below_drew1) | exact HB.out))) : w.heap.size ≤ gb114)); have n3_ := Aside0.mk ((by rw [hg]; exact (below_size (by repeat (first | (with_reducible first | exact HB.out | apply below_alloc | apply pw_below_drewN | apply below_drew1) | exact HB.out))) : w.heap.size ≤ gb114)); clear HB; have HB := n0_; have BK114 := n1_; have GW114 := n2_; have GE114 := n3_; clear n0_ n1_ n2_ n3_; clear hb hbox hg; have hcz34_0 : w33.cell? ⟨gb114, 0, none⟩ = some (.int .i64 0) := (blk_cell BK114.out 0).trans rfl; have hcz34_1 : w33.cell? ⟨gb114, 1, none⟩ = some (.string (⟨#[]⟩ : ByteArray)) := (blk_cell BK114.out 1).trans rfl; have hcz34_2 : w33.cell? ⟨gb114, 2, none⟩ = some (.int .i64 0) := (blk_cell BK114.out 2).trans rfl; have hcz34_3 : w33.cell? ⟨gb114, 3, none⟩ = some (.int .i64 0) := (blk_cell BK114.out 3).trans rfl; have hfz34_0 := blk_frozen BK114.out 0; have hfz34_1 := blk_frozen BK114.out 1; have hfz34_2 := blk_frozen BK114.out 2; have hfz34_3 := blk_frozen BK114.out 3))
            go_ret2
            exact ⟨by first | rfl | (simp [errW_none, errW_some] <;> rfl) | (simp [*, errW_none, errW_some] <;> rfl) | (exfalso; simp only [decide_eq_true_eq, decide_eq_false_iff_not, beq_iff_eq, beq_eq_false_iff_ne] at *; first | contradiction | omega), by repeat (first | (with_reducible first | exact HB.out | apply below_alloc | apply pw_below_drewN | apply below_drew1 | refine below_set ?_ GE114.out) | exact HB.out)⟩
        · rw [if_neg c18] at H
          have c18b0 : (((rd_T61 l0 a1).f0) == 1) = false := beq_eq_false_iff_ne.mpr c18
          have c18b1 : (((rd_T61 l0 a1).f0) != 1) = true := bne_iff_ne.mpr c18
          have HC35 := Aside0.mk H
          clear H
          have p113 : 0 ≤ (a1 : Int) := of_decide_eq_true (by first | (with_reducible assumption) | assumption)
          have q113 : a1 < (l0.length : Int) := of_decide_eq_true (by first | (with_reducible assumption) | assumption)
          obtain ⟨ad113, e113, hx113_0, hx113_1, hx113_2, hx113_3⟩ := at_T61 HR0.out a1 p113 q113
          cases e113
          replace p113 := eq_true p113
          replace q113 := eq_true q113
          go_enter Tryd.func37, Tryd.ntmps37
          go_upto_if 66 with (first | ((with_reducible refine gate_dst (N := 6) rfl ?_); refine box_event ?hg (N := 6) ?hd (cs := #[.int .i64 0, .string (⟨#[]⟩ : ByteArray), .int .i64 0, .int .i64 0]) (t := 61) ?hr ?_; (case hd => rfl); (case hg => rfl); (case hr => first | (go_simp; done) | (go_simp; rfl)); intro gb114 hg w36 hbox hb; have n0_ := Aside0.mk (below_step (by repeat (first | (with_reducible first | exact HB.out | apply below_alloc | apply pw_below_drewN | apply below_drew1) | exact HB.out)) hb); have n1_ := Aside0.mk (hbox); have n2_ := Aside0.mk ((by rw [hg]; exact (below_size (by repeat (first | (with_reducible first | exact HB.out | apply below_alloc | apply pw_below_drewN | apply below_drew1) | exact HB.out))) : w.heap.size ≤ gb114)); have n3_ := Aside0.mk ((by rw [hg]; exact (below_size (by repeat (first | (with_reducible first | exact HB.out | apply below_alloc | apply pw_below_drewN | apply below_drew1) | exact HB.out))) : w.heap.size ≤ gb114)); clear HB; have HB := n0_; have BK114 := n1_; have GW114 := n2_; have GE114 := n3_; clear n0_ n1_ n2_ n3_; clear hb hbox hg; have hcz37_0 : w36.cell? ⟨gb114, 0, none⟩ = some (.int .i64 0) := (blk_cell BK114.out 0).trans rfl; have hcz37_1 : w36.cell? ⟨gb114, 1, none⟩ = some (.string (⟨#[]⟩ : ByteArray)) := (blk_cell BK114.out 1).trans rfl; have hcz37_2 : w36.cell? ⟨gb114, 2, none⟩ = some (.int .i64 0) := (blk_cell BK114.out 2).trans rfl; have hcz37_3 : w36.cell? ⟨gb114, 3, none⟩ = some (.int .i64 0) := (blk_cell BK114.out 3).trans rfl; have hfz37_0 := blk_frozen BK114.out 0; have hfz37_1 := blk_frozen BK114.out 1; have hfz37_2 := blk_frozen BK114.out 2; have hfz37_3 := blk_frozen BK114.out 3))
          (try simp only [Act.put, List.setIfInBounds_toArray, List.set_cons_zero, List.set_cons_succ])
          go_cut [66] (fun v66 wc => ∃ (kq : Nat) (x66_34 : Bool), v66 = .bool x66_34 ∧ Aside0 (graftbedref12_whole.j0 kq l0 a1 x66_34 ((rd_T61 l0 a1).f0) ((rd_T61 l0 a1).f1) ((rd_T61 l0 a1).f2) ((rd_T61 l0 a1).f3) = some (r1, r2)) ∧ Aside0 (kq ≤ k) ∧ Aside0 (wc.heap[gb114]? = some (.cells #[.int .i64 ((rd_T61 l0 a1).f0), .string ((rd_T61 l0 a1).f1), .int .i64 ((rd_T61 l0 a1).f2), .int .i64 ((rd_T61 l0 a1).f3)] 61 (0, 0))) ∧ Aside0 (Below w.heap.size w wc))
          case first =>
            have H := HC35.out
            clear HC35
            by_cases c38 : ((rd_T61 l0 a1).f0) = 2
            · rw [if_pos c38] at H
              have c38b0 : (((rd_T61 l0 a1).f0) == 2) = true := beq_iff_eq.mpr c38
              have c38b1 : (((rd_T61 l0 a1).f0) != 2) = false := bne_eq_false_iff_eq.mpr c38
              clear c38
              (first | rw [c38b0] | (simp only [i64_w, i32_w]; rw [c38b0]) | skip)
              have H' := Aside0.mk H
              clear H
              go_wp2
              go_meet
              case rel => exact ⟨_, ((((rd_T61 l0 a1).f0) == 2)), (by first | rfl | (simp; done) | (simp [*]; done)), H', ⟨by first | omega | exact Nat.le_refl _⟩, ⟨by (with_reducible repeat (first | refine blk_drewN ?_ _ | refine blk_drew ?_ | refine blk_alloc ?_ _)); refine blk_put (cs := #[.int .i64 ((rd_T61 l0 a1).f0), .string ((rd_T61 l0 a1).f1), .int .i64 ((rd_T61 l0 a1).f2), .int .i64 0]) ?_ 3 _ rfl; (with_reducible repeat (first | refine blk_drewN ?_ _ | refine blk_drew ?_ | refine blk_alloc ?_ _)); refine blk_put (cs := #[.int .i64 ((rd_T61 l0 a1).f0), .string ((rd_T61 l0 a1).f1), .int .i64 0, .int .i64 0]) ?_ 2 _ rfl; (with_reducible repeat (first | refine blk_drewN ?_ _ | refine blk_drew ?_ | refine blk_alloc ?_ _)); refine blk_put (cs := #[.int .i64 ((rd_T61 l0 a1).f0), .string (⟨#[]⟩ : ByteArray), .int .i64 0, .int .i64 0]) ?_ 1 _ rfl; (with_reducible repeat (first | refine blk_drewN ?_ _ | refine blk_drew ?_ | refine blk_alloc ?_ _)); refine blk_put (cs := #[.int .i64 0, .string (⟨#[]⟩ : ByteArray), .int .i64 0, .int .i64 0]) ?_ 0 _ rfl; (with_reducible repeat (first | refine blk_drewN ?_ _ | refine blk_drew ?_ | refine blk_alloc ?_ _)); exact BK114.out⟩, ⟨by repeat (first | (with_reducible first | exact HB.out | apply below_alloc | apply pw_below_drewN | apply below_drew1 | refine below_set ?_ GE114.out) | exact HB.out)⟩⟩
            · rw [if_neg c38] at H
              have c38b0 : (((rd_T61 l0 a1).f0) == 2) = false := beq_eq_false_iff_ne.mpr c38
              have c38b1 : (((rd_T61 l0 a1).f0) != 2) = true := bne_iff_ne.mpr c38
              (first | rw [c38b0] | (simp only [i64_w, i32_w]; rw [c38b0]) | skip)
              have H' := Aside0.mk H
              clear H
              go_wp2
              go_meet
              case rel => exact ⟨_, ((((rd_T61 l0 a1).f0) == 3)), (by first | rfl | (simp; done) | (simp [*]; done)), H', ⟨by first | omega | exact Nat.le_refl _⟩, ⟨by (with_reducible repeat (first | refine blk_drewN ?_ _ | refine blk_drew ?_ | refine blk_alloc ?_ _)); refine blk_put (cs := #[.int .i64 ((rd_T61 l0 a1).f0), .string ((rd_T61 l0 a1).f1), .int .i64 ((rd_T61 l0 a1).f2), .int .i64 0]) ?_ 3 _ rfl; (with_reducible repeat (first | refine blk_drewN ?_ _ | refine blk_drew ?_ | refine blk_alloc ?_ _)); refine blk_put (cs := #[.int .i64 ((rd_T61 l0 a1).f0), .string ((rd_T61 l0 a1).f1), .int .i64 0, .int .i64 0]) ?_ 2 _ rfl; (with_reducible repeat (first | refine blk_drewN ?_ _ | refine blk_drew ?_ | refine blk_alloc ?_ _)); refine blk_put (cs := #[.int .i64 ((rd_T61 l0 a1).f0), .string (⟨#[]⟩ : ByteArray), .int .i64 0, .int .i64 0]) ?_ 1 _ rfl; (with_reducible repeat (first | refine blk_drewN ?_ _ | refine blk_drew ?_ | refine blk_alloc ?_ _)); refine blk_put (cs := #[.int .i64 0, .string (⟨#[]⟩ : ByteArray), .int .i64 0, .int .i64 0]) ?_ 0 _ rfl; (with_reducible repeat (first | refine blk_drewN ?_ _ | refine blk_drew ?_ | refine blk_alloc ?_ _)); exact BK114.out⟩, ⟨by repeat (first | (with_reducible first | exact HB.out | apply below_alloc | apply pw_below_drewN | apply below_drew1 | refine below_set ?_ GE114.out) | exact HB.out)⟩⟩
          case rest =>
            clear HC35
            try clear c1
            try clear p1
            try clear q1
            try clear hx1
            try clear c2
            try clear p2
            try clear c3
            try clear c3b0
            try clear c4
            try clear c4b0
            try clear c5
            try clear c5b0
            try clear c5b1
            try clear p6
            try clear c7
            try clear c8
            try clear c8b0
            try clear c8b1
            try clear c9
            try clear c9b0
            try clear c9b1
            try clear p11
            try clear q11
            try clear hx11
            try clear c18
            try clear c18b0
            try clear c18b1
            try clear c19
            try clear c19b0
            try clear c19b1
            try clear c20
            try clear c20b0
            try clear c20b1
            try clear c21
            try clear c21b0
            try clear c21b1
            try clear c22
            try clear c22b0
            try clear c37
            try clear c38
            try clear c38b0
            try clear c38b1
            try clear hcz11_0
            try clear hcz11_1
            try clear hcz11_2
            try clear hcz11_3
            try clear hcz13_0
            try clear hcz13_1
            try clear hcz13_2
            try clear hcz13_3
            try clear hcz15_0
            try clear hcz15_1
            try clear hcz15_2
            try clear hcz15_3
            try clear hcz17_0
            try clear hcz17_1
            try clear hcz17_2
            try clear hcz17_3
            try clear hcz25_0
            try clear hcz25_1
            try clear hcz25_2
            try clear hcz25_3
            try clear hcz28_0
            try clear hcz28_1
            try clear hcz28_2
            try clear hcz28_3
            try clear hcz30_0
            try clear hcz30_1
            try clear hcz30_2
            try clear hcz30_3
            try clear hcz32_0
            try clear hcz32_1
            try clear hcz32_2
            try clear hcz32_3
            try clear hcz34_0
            try clear hcz34_1
            try clear hcz34_2
            try clear hcz34_3
            try clear hcz37_0
            try clear hcz37_1
            try clear hcz37_2
            try clear hcz37_3
            try clear hfz11_0
            try clear hfz11_1
            try clear hfz11_2
            try clear hfz11_3
            try clear hfz13_0
            try clear hfz13_1
            try clear hfz13_2
            try clear hfz13_3
            try clear hfz15_0
            try clear hfz15_1
            try clear hfz15_2
            try clear hfz15_3
            try clear hfz17_0
            try clear hfz17_1
            try clear hfz17_2
            try clear hfz17_3
            try clear hfz25_0
            try clear hfz25_1
            try clear hfz25_2
            try clear hfz25_3
            try clear hfz28_0
            try clear hfz28_1
            try clear hfz28_2
            try clear hfz28_3
            try clear hfz30_0
            try clear hfz30_1
            try clear hfz30_2
            try clear hfz30_3
            try clear hfz32_0
            try clear hfz32_1
            try clear hfz32_2
            try clear hfz32_3
            try clear hfz34_0
            try clear hfz34_1
            try clear hfz34_2
            try clear hfz34_3
            try clear hfz37_0
            try clear hfz37_1
            try clear hfz37_2
            try clear hfz37_3
            try clear hx113_0
            try clear hx113_1
            try clear hx113_2
            try clear hx113_3
            try clear p113
            try clear q113
            obtain ⟨kq, x66_34, rfl, HA, HJ34, BK114, HB⟩ := hcut
            cases kq with
            | zero => exact absurd HA.out (by simp [graftbedref12_whole.j0])
            | succ kj34 =>
              have H := HA.out
              clear HA
              simp only [graftbedref12_whole.j0] at H
              by_cases c39 : x66_34 = true
              · subst c39
                have H1 : (if ((rd_T61 l0 a1).f1).toList = ([] : List UInt8) then (if ((rd_T61 l0 a1).f3) = (wrap64 (a1 - 1)) then (graftbedref12_whole.j1 kj34 l0 a1 (decide (a1 > 1)) ((rd_T61 l0 a1).f0) ((rd_T61 l0 a1).f1) ((rd_T61 l0 a1).f2) ((rd_T61 l0 a1).f3)) else (graftbedref12_whole.j1 kj34 l0 a1 false ((rd_T61 l0 a1).f0) ((rd_T61 l0 a1).f1) ((rd_T61 l0 a1).f2) ((rd_T61 l0 a1).f3))) else (graftbedref12_whole.j1 kj34 l0 a1 false ((rd_T61 l0 a1).f0) ((rd_T61 l0 a1).f1) ((rd_T61 l0 a1).f2) ((rd_T61 l0 a1).f3))) = some (r1, r2) := by rw [if_pos rfl] at H; exact H
                clear H
                have H := H1
                clear H1
                have HC40 := Aside0.mk H
                clear H
                go_upto_region 12 with (fail)
                go_cut [82] (fun v82 wc => ∃ (kq : Nat) (x82_39 : Bool), v82 = .bool x82_39 ∧ Aside0 (graftbedref12_whole.j1 kq l0 a1 x82_39 ((rd_T61 l0 a1).f0) ((rd_T61 l0 a1).f1) ((rd_T61 l0 a1).f2) ((rd_T61 l0 a1).f3) = some (r1, r2)) ∧ Aside0 (kq ≤ kj34) ∧ Aside0 (wc.heap[gb114]? = some (.cells #[.int .i64 ((rd_T61 l0 a1).f0), .string ((rd_T61 l0 a1).f1), .int .i64 ((rd_T61 l0 a1).f2), .int .i64 ((rd_T61 l0 a1).f3)] 61 (0, 0))) ∧ Aside0 (Below w.heap.size w wc))
                case first =>
                  have H := HC40.out
                  clear HC40
                  by_cases c41 : ((rd_T61 l0 a1).f1).toList = ([] : List UInt8)
                  · rw [if_pos c41] at H
                    have c41b0 : (((rd_T61 l0 a1).f1).toList == ([] : List UInt8)) = true := beq_iff_eq.mpr c41
                    have c41b1 : (((rd_T61 l0 a1).f1).toList != ([] : List UInt8)) = false := bne_eq_false_iff_eq.mpr c41
                    have c41b5 : ((rd_T61 l0 a1).f1).toList.isEmpty = true := by
                      have e_ := c41b1
                      revert e_
                      cases ((rd_T61 l0 a1).f1).toList <;> simp
                    clear c41
                    (first | rw [c41b0] | (simp only [i64_w, i32_w]; rw [c41b0]) | rw [c41b5] | skip)
                    by_cases c42 : ((rd_T61 l0 a1).f3) = (wrap64 (a1 - 1))
                    · rw [if_pos c42] at H
                      have c42b0 : (((rd_T61 l0 a1).f3) == (wrap64 (a1 - 1))) = true := beq_iff_eq.mpr c42
                      have c42b1 : (((rd_T61 l0 a1).f3) != (wrap64 (a1 - 1))) = false := bne_eq_false_iff_eq.mpr c42
                      clear c42
                      have H' := Aside0.mk H
                      clear H
                      have hcz43_0 : wc.cell? ⟨gb114, 0, none⟩ = some (.int .i64 ((rd_T61 l0 a1).f0)) := (blk_cell BK114.out 0).trans rfl
                      have hcz43_1 : wc.cell? ⟨gb114, 1, none⟩ = some (.string ((rd_T61 l0 a1).f1)) := (blk_cell BK114.out 1).trans rfl
                      have hcz43_2 : wc.cell? ⟨gb114, 2, none⟩ = some (.int .i64 ((rd_T61 l0 a1).f2)) := (blk_cell BK114.out 2).trans rfl
                      have hcz43_3 : wc.cell? ⟨gb114, 3, none⟩ = some (.int .i64 ((rd_T61 l0 a1).f3)) := (blk_cell BK114.out 3).trans rfl
                      have hfz43_0 := blk_frozen BK114.out 0
                      have hfz43_1 := blk_frozen BK114.out 1
                      have hfz43_2 := blk_frozen BK114.out 2
                      have hfz43_3 := blk_frozen BK114.out 3
                      go_wp2
                      go_meet
                      case rel => exact ⟨_, (decide (a1 > 1)), (by first | rfl | (simp; done) | (simp [*]; done)), H', ⟨by have := HJ34.out; first | omega | exact Nat.le_refl _⟩, ⟨by (with_reducible repeat (first | refine blk_drewN ?_ _ | refine blk_drew ?_ | refine blk_alloc ?_ _)); exact BK114.out⟩, ⟨by repeat (first | (with_reducible first | exact HB.out | apply below_alloc | apply pw_below_drewN | apply below_drew1 | refine below_set ?_ GE114.out) | exact HB.out)⟩⟩
                    · rw [if_neg c42] at H
                      have c42b0 : (((rd_T61 l0 a1).f3) == (wrap64 (a1 - 1))) = false := beq_eq_false_iff_ne.mpr c42
                      have c42b1 : (((rd_T61 l0 a1).f3) != (wrap64 (a1 - 1))) = true := bne_iff_ne.mpr c42
                      have H' := Aside0.mk H
                      clear H
                      have hcz44_0 : wc.cell? ⟨gb114, 0, none⟩ = some (.int .i64 ((rd_T61 l0 a1).f0)) := (blk_cell BK114.out 0).trans rfl
                      have hcz44_1 : wc.cell? ⟨gb114, 1, none⟩ = some (.string ((rd_T61 l0 a1).f1)) := (blk_cell BK114.out 1).trans rfl
                      have hcz44_2 : wc.cell? ⟨gb114, 2, none⟩ = some (.int .i64 ((rd_T61 l0 a1).f2)) := (blk_cell BK114.out 2).trans rfl
                      have hcz44_3 : wc.cell? ⟨gb114, 3, none⟩ = some (.int .i64 ((rd_T61 l0 a1).f3)) := (blk_cell BK114.out 3).trans rfl
                      have hfz44_0 := blk_frozen BK114.out 0
                      have hfz44_1 := blk_frozen BK114.out 1
                      have hfz44_2 := blk_frozen BK114.out 2
                      have hfz44_3 := blk_frozen BK114.out 3
                      go_wp2
                      go_meet
                      case rel => exact ⟨_, (false), (by first | rfl | (simp; done) | (simp [*]; done)), H', ⟨by have := HJ34.out; first | omega | exact Nat.le_refl _⟩, ⟨by (with_reducible repeat (first | refine blk_drewN ?_ _ | refine blk_drew ?_ | refine blk_alloc ?_ _)); exact BK114.out⟩, ⟨by repeat (first | (with_reducible first | exact HB.out | apply below_alloc | apply pw_below_drewN | apply below_drew1 | refine below_set ?_ GE114.out) | exact HB.out)⟩⟩
                  · rw [if_neg c41] at H
                    have c41b0 : (((rd_T61 l0 a1).f1).toList == ([] : List UInt8)) = false := beq_eq_false_iff_ne.mpr c41
                    have c41b1 : (((rd_T61 l0 a1).f1).toList != ([] : List UInt8)) = true := bne_iff_ne.mpr c41
                    have c41b5 : ((rd_T61 l0 a1).f1).toList.isEmpty = false := by
                      have e_ := c41b1
                      revert e_
                      cases ((rd_T61 l0 a1).f1).toList <;> simp
                    (first | rw [c41b0] | (simp only [i64_w, i32_w]; rw [c41b0]) | rw [c41b5] | skip)
                    have H' := Aside0.mk H
                    clear H
                    have hcz45_0 : wc.cell? ⟨gb114, 0, none⟩ = some (.int .i64 ((rd_T61 l0 a1).f0)) := (blk_cell BK114.out 0).trans rfl
                    have hcz45_1 : wc.cell? ⟨gb114, 1, none⟩ = some (.string ((rd_T61 l0 a1).f1)) := (blk_cell BK114.out 1).trans rfl
                    have hcz45_2 : wc.cell? ⟨gb114, 2, none⟩ = some (.int .i64 ((rd_T61 l0 a1).f2)) := (blk_cell BK114.out 2).trans rfl
                    have hcz45_3 : wc.cell? ⟨gb114, 3, none⟩ = some (.int .i64 ((rd_T61 l0 a1).f3)) := (blk_cell BK114.out 3).trans rfl
                    have hfz45_0 := blk_frozen BK114.out 0
                    have hfz45_1 := blk_frozen BK114.out 1
                    have hfz45_2 := blk_frozen BK114.out 2
                    have hfz45_3 := blk_frozen BK114.out 3
                    go_wp2
                    go_meet
                    case rel => exact ⟨_, (false), (by first | rfl | (simp; done) | (simp [*]; done)), H', ⟨by have := HJ34.out; first | omega | exact Nat.le_refl _⟩, ⟨by (with_reducible repeat (first | refine blk_drewN ?_ _ | refine blk_drew ?_ | refine blk_alloc ?_ _)); exact BK114.out⟩, ⟨by repeat (first | (with_reducible first | exact HB.out | apply below_alloc | apply pw_below_drewN | apply below_drew1 | refine below_set ?_ GE114.out) | exact HB.out)⟩⟩
                case rest =>
                  clear HC40
                  try clear c1
                  try clear p1
                  try clear q1
                  try clear hx1
                  try clear c2
                  try clear p2
                  try clear c3
                  try clear c3b0
                  try clear c4
                  try clear c4b0
                  try clear c5
                  try clear c5b0
                  try clear c5b1
                  try clear p6
                  try clear c7
                  try clear c8
                  try clear c8b0
                  try clear c8b1
                  try clear c9
                  try clear c9b0
                  try clear c9b1
                  try clear p11
                  try clear q11
                  try clear hx11
                  try clear c18
                  try clear c18b0
                  try clear c18b1
                  try clear c19
                  try clear c19b0
                  try clear c19b1
                  try clear c20
                  try clear c20b0
                  try clear c20b1
                  try clear c21
                  try clear c21b0
                  try clear c21b1
                  try clear c22
                  try clear c22b0
                  try clear c37
                  try clear c38
                  try clear c38b0
                  try clear c38b1
                  try clear c39
                  try clear c41
                  try clear c41b0
                  try clear c41b1
                  try clear c42
                  try clear c42b0
                  try clear c42b1
                  try clear hcz11_0
                  try clear hcz11_1
                  try clear hcz11_2
                  try clear hcz11_3
                  try clear hcz13_0
                  try clear hcz13_1
                  try clear hcz13_2
                  try clear hcz13_3
                  try clear hcz15_0
                  try clear hcz15_1
                  try clear hcz15_2
                  try clear hcz15_3
                  try clear hcz17_0
                  try clear hcz17_1
                  try clear hcz17_2
                  try clear hcz17_3
                  try clear hcz25_0
                  try clear hcz25_1
                  try clear hcz25_2
                  try clear hcz25_3
                  try clear hcz28_0
                  try clear hcz28_1
                  try clear hcz28_2
                  try clear hcz28_3
                  try clear hcz30_0
                  try clear hcz30_1
                  try clear hcz30_2
                  try clear hcz30_3
                  try clear hcz32_0
                  try clear hcz32_1
                  try clear hcz32_2
                  try clear hcz32_3
                  try clear hcz34_0
                  try clear hcz34_1
                  try clear hcz34_2
                  try clear hcz34_3
                  try clear hcz37_0
                  try clear hcz37_1
                  try clear hcz37_2
                  try clear hcz37_3
                  try clear hcz43_0
                  try clear hcz43_1
                  try clear hcz43_2
                  try clear hcz43_3
                  try clear hcz44_0
                  try clear hcz44_1
                  try clear hcz44_2
                  try clear hcz44_3
                  try clear hcz45_0
                  try clear hcz45_1
                  try clear hcz45_2
                  try clear hcz45_3
                  try clear hfz11_0
                  try clear hfz11_1
                  try clear hfz11_2
                  try clear hfz11_3
                  try clear hfz13_0
                  try clear hfz13_1
                  try clear hfz13_2
                  try clear hfz13_3
                  try clear hfz15_0
                  try clear hfz15_1
                  try clear hfz15_2
                  try clear hfz15_3
                  try clear hfz17_0
                  try clear hfz17_1
                  try clear hfz17_2
                  try clear hfz17_3
                  try clear hfz25_0
                  try clear hfz25_1
                  try clear hfz25_2
                  try clear hfz25_3
                  try clear hfz28_0
                  try clear hfz28_1
                  try clear hfz28_2
                  try clear hfz28_3
                  try clear hfz30_0
                  try clear hfz30_1
                  try clear hfz30_2
                  try clear hfz30_3
                  try clear hfz32_0
                  try clear hfz32_1
                  try clear hfz32_2
                  try clear hfz32_3
                  try clear hfz34_0
                  try clear hfz34_1
                  try clear hfz34_2
                  try clear hfz34_3
                  try clear hfz37_0
                  try clear hfz37_1
                  try clear hfz37_2
                  try clear hfz37_3
                  try clear hfz43_0
                  try clear hfz43_1
                  try clear hfz43_2
                  try clear hfz43_3
                  try clear hfz44_0
                  try clear hfz44_1
                  try clear hfz44_2
                  try clear hfz44_3
                  try clear hfz45_0
                  try clear hfz45_1
                  try clear hfz45_2
                  try clear hfz45_3
                  try clear hx113_0
                  try clear hx113_1
                  try clear hx113_2
                  try clear hx113_3
                  try clear p1
                  try clear p11
                  try clear p113
                  try clear p2
                  try clear p6
                  try clear q1
                  try clear q11
                  try clear q113
                  obtain ⟨kq, x82_39, rfl, HA, HJ39, BK114, HB⟩ := hcut
                  cases kq with
                  | zero => exact absurd HA.out (by simp [graftbedref12_whole.j1])
                  | succ kj39 =>
                    have H := HA.out
                    clear HA
                    simp only [graftbedref12_whole.j1] at H
                    by_cases c46 : x82_39 = true
                    · subst c46
                      have H1 : ((graftbedref12_whole.f kj39 l0 (wrap64 (a1 - 1))).bind fun bt118 => (if bt118.1 > 0 then (if ((rd_T61 l0 a1).f2) = (wrap64 (bt118.1 - 1)) then ((graftbedref12_whole.f kj39 l0 (wrap64 (bt118.1 - 1))).bind fun bt120 => (some (bt120.1, wrap64 ((mx bt118.2 bt120.2) + 1)))) else (some ((-1), 0))) else (some ((-1), 0)))) = some (r1, r2) := by rw [if_pos rfl] at H; exact H
                      clear H
                      have H := H1
                      clear H1
                      replace H := Option.bind_eq_some_iff.mp H
                      obtain ⟨⟨t118, t119⟩, A470, H⟩ := H
                      replace H : (if t118 > 0 then (if ((rd_T61 l0 a1).f2) = (wrap64 (t118 - 1)) then ((graftbedref12_whole.f kj39 l0 (wrap64 (t118 - 1))).bind fun bt120 => (some (bt120.1, wrap64 ((mx t119 bt120.2) + 1)))) else (some ((-1), 0))) else (some ((-1), 0))) = some (r1, r2) := H
                      have A47 := Aside0.mk A470
                      clear A470
                      by_cases c48 : t118 > 0
                      · rw [if_pos c48] at H
                        have c48b0 : decide (0 < t118) = true := decide_eq_true c48
                        clear c48
                        by_cases c49 : ((rd_T61 l0 a1).f2) = (wrap64 (t118 - 1))
                        · rw [if_pos c49] at H
                          have c49b0 : (((rd_T61 l0 a1).f2) == (wrap64 (t118 - 1))) = true := beq_iff_eq.mpr c49
                          have c49b1 : (((rd_T61 l0 a1).f2) != (wrap64 (t118 - 1))) = false := bne_eq_false_iff_eq.mpr c49
                          clear c49
                          replace H := Option.bind_eq_some_iff.mp H
                          obtain ⟨⟨t120, t121⟩, A500, H⟩ := H
                          replace H : (some (t120, wrap64 ((mx t119 t121) + 1))) = some (r1, r2) := H
                          have A50 := Aside0.mk A500
                          clear A500
                          obtain ⟨ji51, hji51⟩ : ∃ j_ : Int, (mx t119 t121) = j_ := ⟨_, rfl⟩
                          replace H : (some (t120, wrap64 ((ji51) + 1))) = some (r1, r2) := by first | (rw [hji51] at H; exact H) | (simp only [hji51] at H ⊢; exact H)
                          (try rw [hji51] at A47)
                          (try rw [hji51] at A50)
                          have hji51_ : (if t119 < t121 then t121 else t119) = ji51 := hji51
                          simp only [Option.some.injEq, Prod.mk.injEq] at H
                          obtain ⟨rfl, rfl⟩ := H
                          go_wp2_with (first | ((with_reducible refine gate_callee (f := 37) rfl ?_); refine goesL_ (some 87) rfl rfl Tryd.func37 (by kernel_rfl) rfl #[.slice (some ad113) l0.length c0, .int .i64 (wrap64 (a1 - 1))] rfl (by (try simp only [List.map_toArray, List.map_cons, List.map_nil]); first | done | rfl | (simp only [List.length_drop, List.length_take]; rfl) | (simp only [ByteArray.size_extract, Nat.min_self]; done) | (simp only [ByteArray.size_append, StrMore.size_lit, List.length_cons, List.length_nil, Nat.zero_add, Nat.reduceAdd] <;> rfl)) ?_; (with_reducible refine (ih kj39 (by have := HJ34.out; have := HJ39.out; omega) _ _ l0 (wrap64 (a1 - 1)) t118 t119 _ ?side1 ?side2 A47.out).mono ?_); (case side1 => repeat (first | exact (Kd.C_below HR0.out HB.out) | (with_reducible refine Kd.C_alloc ?_ _) | (with_reducible refine Kd.C_drewN ?_ _) | (with_reducible refine Kd.C_drew ?_))); (case side2 => exact HC0.out); rintro e w52 ⟨rfl, hb⟩; refine ⟨_, rfl, ?_⟩; have n0_ := Aside0.mk (blk_below (g := gb114) (o := .cells #[.int .i64 ((rd_T61 l0 a1).f0), .string ((rd_T61 l0 a1).f1), .int .i64 ((rd_T61 l0 a1).f2), .int .i64 ((rd_T61 l0 a1).f3)] 61 (0, 0)) (by (with_reducible repeat (first | refine blk_drewN ?_ _ | refine blk_drew ?_ | refine blk_alloc ?_ _)); exact BK114.out) hb); have n1_ := Aside0.mk (below_step (by repeat (first | (with_reducible first | exact HB.out | apply below_alloc | apply pw_below_drewN | apply below_drew1 | refine below_set ?_ GE114.out) | exact HB.out)) hb); clear BK114; clear HB; have BK114 := n0_; have HB := n1_; clear n0_ n1_; (try clear hb); (try clear hb2); (try clear hk); (try clear hi); have hcz53_0 : w52.cell? ⟨gb114, 0, none⟩ = some (.int .i64 ((rd_T61 l0 a1).f0)) := (blk_cell BK114.out 0).trans rfl; have hcz53_1 : w52.cell? ⟨gb114, 1, none⟩ = some (.string ((rd_T61 l0 a1).f1)) := (blk_cell BK114.out 1).trans rfl; have hcz53_2 : w52.cell? ⟨gb114, 2, none⟩ = some (.int .i64 ((rd_T61 l0 a1).f2)) := (blk_cell BK114.out 2).trans rfl; have hcz53_3 : w52.cell? ⟨gb114, 3, none⟩ = some (.int .i64 ((rd_T61 l0 a1).f3)) := (blk_cell BK114.out 3).trans rfl; have hfz53_0 := blk_frozen BK114.out 0; have hfz53_1 := blk_frozen BK114.out 1; have hfz53_2 := blk_frozen BK114.out 2; have hfz53_3 := blk_frozen BK114.out 3) | ((with_reducible refine gate_callee (f := 37) rfl ?_); refine goesL_ (some 103) rfl rfl Tryd.func37 (by kernel_rfl) rfl #[.slice (some ad113) l0.length c0, .int .i64 (wrap64 (t118 - 1))] rfl (by (try simp only [List.map_toArray, List.map_cons, List.map_nil]); first | done | rfl | (simp only [List.length_drop, List.length_take]; rfl) | (simp only [ByteArray.size_extract, Nat.min_self]; done) | (simp only [ByteArray.size_append, StrMore.size_lit, List.length_cons, List.length_nil, Nat.zero_add, Nat.reduceAdd] <;> rfl)) ?_; (with_reducible refine (ih kj39 (by have := HJ34.out; have := HJ39.out; omega) _ _ l0 (wrap64 (t118 - 1)) t120 t121 _ ?side1 ?side2 A50.out).mono ?_); (case side1 => repeat (first | exact (Kd.C_below HR0.out HB.out) | (with_reducible refine Kd.C_alloc ?_ _) | (with_reducible refine Kd.C_drewN ?_ _) | (with_reducible refine Kd.C_drew ?_))); (case side2 => exact HC0.out); rintro e w54 ⟨rfl, hb⟩; refine ⟨_, rfl, ?_⟩; have n0_ := Aside0.mk (blk_below (g := gb114) (o := .cells #[.int .i64 ((rd_T61 l0 a1).f0), .string ((rd_T61 l0 a1).f1), .int .i64 ((rd_T61 l0 a1).f2), .int .i64 ((rd_T61 l0 a1).f3)] 61 (0, 0)) (by (with_reducible repeat (first | refine blk_drewN ?_ _ | refine blk_drew ?_ | refine blk_alloc ?_ _)); exact BK114.out) hb); have n1_ := Aside0.mk (below_step (by repeat (first | (with_reducible first | exact HB.out | apply below_alloc | apply pw_below_drewN | apply below_drew1 | refine below_set ?_ GE114.out) | exact HB.out)) hb); clear BK114; clear HB; have BK114 := n0_; have HB := n1_; clear n0_ n1_; (try clear hb); (try clear hb2); (try clear hk); (try clear hi)))
                          go_ret2
                          exact ⟨by first | rfl | (simp [errW_none, errW_some] <;> rfl) | (simp only [← hji51]; first | rfl | (simp [errW_none, errW_some] <;> rfl)) | (simp [*, errW_none, errW_some] <;> rfl), by repeat (first | (with_reducible first | exact HB.out | apply below_alloc | apply pw_below_drewN | apply below_drew1 | refine below_set ?_ GE114.out) | exact HB.out)⟩
                        · rw [if_neg c49] at H
                          have c49b0 : (((rd_T61 l0 a1).f2) == (wrap64 (t118 - 1))) = false := beq_eq_false_iff_ne.mpr c49
                          have c49b1 : (((rd_T61 l0 a1).f2) != (wrap64 (t118 - 1))) = true := bne_iff_ne.mpr c49
                          simp only [Option.some.injEq, Prod.mk.injEq] at H
                          obtain ⟨rfl, rfl⟩ := H
                          go_wp2_with (first | ((with_reducible refine gate_callee (f := 37) rfl ?_); refine goesL_ (some 87) rfl rfl Tryd.func37 (by kernel_rfl) rfl #[.slice (some ad113) l0.length c0, .int .i64 (wrap64 (a1 - 1))] rfl (by (try simp only [List.map_toArray, List.map_cons, List.map_nil]); first | done | rfl | (simp only [List.length_drop, List.length_take]; rfl) | (simp only [ByteArray.size_extract, Nat.min_self]; done) | (simp only [ByteArray.size_append, StrMore.size_lit, List.length_cons, List.length_nil, Nat.zero_add, Nat.reduceAdd] <;> rfl)) ?_; (with_reducible refine (ih kj39 (by have := HJ34.out; have := HJ39.out; omega) _ _ l0 (wrap64 (a1 - 1)) t118 t119 _ ?side1 ?side2 A47.out).mono ?_); (case side1 => repeat (first | exact (Kd.C_below HR0.out HB.out) | (with_reducible refine Kd.C_alloc ?_ _) | (with_reducible refine Kd.C_drewN ?_ _) | (with_reducible refine Kd.C_drew ?_))); (case side2 => exact HC0.out); rintro e w55 ⟨rfl, hb⟩; refine ⟨_, rfl, ?_⟩; have n0_ := Aside0.mk (blk_below (g := gb114) (o := .cells #[.int .i64 ((rd_T61 l0 a1).f0), .string ((rd_T61 l0 a1).f1), .int .i64 ((rd_T61 l0 a1).f2), .int .i64 ((rd_T61 l0 a1).f3)] 61 (0, 0)) (by (with_reducible repeat (first | refine blk_drewN ?_ _ | refine blk_drew ?_ | refine blk_alloc ?_ _)); exact BK114.out) hb); have n1_ := Aside0.mk (below_step (by repeat (first | (with_reducible first | exact HB.out | apply below_alloc | apply pw_below_drewN | apply below_drew1 | refine below_set ?_ GE114.out) | exact HB.out)) hb); clear BK114; clear HB; have BK114 := n0_; have HB := n1_; clear n0_ n1_; (try clear hb); (try clear hb2); (try clear hk); (try clear hi); have hcz56_0 : w55.cell? ⟨gb114, 0, none⟩ = some (.int .i64 ((rd_T61 l0 a1).f0)) := (blk_cell BK114.out 0).trans rfl; have hcz56_1 : w55.cell? ⟨gb114, 1, none⟩ = some (.string ((rd_T61 l0 a1).f1)) := (blk_cell BK114.out 1).trans rfl; have hcz56_2 : w55.cell? ⟨gb114, 2, none⟩ = some (.int .i64 ((rd_T61 l0 a1).f2)) := (blk_cell BK114.out 2).trans rfl; have hcz56_3 : w55.cell? ⟨gb114, 3, none⟩ = some (.int .i64 ((rd_T61 l0 a1).f3)) := (blk_cell BK114.out 3).trans rfl; have hfz56_0 := blk_frozen BK114.out 0; have hfz56_1 := blk_frozen BK114.out 1; have hfz56_2 := blk_frozen BK114.out 2; have hfz56_3 := blk_frozen BK114.out 3))
                          go_ret2
                          exact ⟨by first | rfl | (simp [errW_none, errW_some] <;> rfl) | (simp [*, errW_none, errW_some] <;> rfl) | (exfalso; simp only [decide_eq_true_eq, decide_eq_false_iff_not, beq_iff_eq, beq_eq_false_iff_ne] at *; first | contradiction | omega), by repeat (first | (with_reducible first | exact HB.out | apply below_alloc | apply pw_below_drewN | apply below_drew1 | refine below_set ?_ GE114.out) | exact HB.out)⟩
                      · rw [if_neg c48] at H
                        have c48b0 : decide (0 < t118) = false := decide_eq_false c48
                        clear c48
                        simp only [Option.some.injEq, Prod.mk.injEq] at H
                        obtain ⟨rfl, rfl⟩ := H
                        go_wp2_with (first | ((with_reducible refine gate_callee (f := 37) rfl ?_); refine goesL_ (some 87) rfl rfl Tryd.func37 (by kernel_rfl) rfl #[.slice (some ad113) l0.length c0, .int .i64 (wrap64 (a1 - 1))] rfl (by (try simp only [List.map_toArray, List.map_cons, List.map_nil]); first | done | rfl | (simp only [List.length_drop, List.length_take]; rfl) | (simp only [ByteArray.size_extract, Nat.min_self]; done) | (simp only [ByteArray.size_append, StrMore.size_lit, List.length_cons, List.length_nil, Nat.zero_add, Nat.reduceAdd] <;> rfl)) ?_; (with_reducible refine (ih kj39 (by have := HJ34.out; have := HJ39.out; omega) _ _ l0 (wrap64 (a1 - 1)) t118 t119 _ ?side1 ?side2 A47.out).mono ?_); (case side1 => repeat (first | exact (Kd.C_below HR0.out HB.out) | (with_reducible refine Kd.C_alloc ?_ _) | (with_reducible refine Kd.C_drewN ?_ _) | (with_reducible refine Kd.C_drew ?_))); (case side2 => exact HC0.out); rintro e w57 ⟨rfl, hb⟩; refine ⟨_, rfl, ?_⟩; have n0_ := Aside0.mk (blk_below (g := gb114) (o := .cells #[.int .i64 ((rd_T61 l0 a1).f0), .string ((rd_T61 l0 a1).f1), .int .i64 ((rd_T61 l0 a1).f2), .int .i64 ((rd_T61 l0 a1).f3)] 61 (0, 0)) (by (with_reducible repeat (first | refine blk_drewN ?_ _ | refine blk_drew ?_ | refine blk_alloc ?_ _)); exact BK114.out) hb); have n1_ := Aside0.mk (below_step (by repeat (first | (with_reducible first | exact HB.out | apply below_alloc | apply pw_below_drewN | apply below_drew1 | refine below_set ?_ GE114.out) | exact HB.out)) hb); clear BK114; clear HB; have BK114 := n0_; have HB := n1_; clear n0_ n1_; (try clear hb); (try clear hb2); (try clear hk); (try clear hi)))
                        go_ret2
                        exact ⟨by first | rfl | (simp [errW_none, errW_some] <;> rfl) | (simp [*, errW_none, errW_some] <;> rfl) | (exfalso; simp only [decide_eq_true_eq, decide_eq_false_iff_not, beq_iff_eq, beq_eq_false_iff_ne] at *; first | contradiction | omega), by repeat (first | (with_reducible first | exact HB.out | apply below_alloc | apply pw_below_drewN | apply below_drew1 | refine below_set ?_ GE114.out) | exact HB.out)⟩
                    · replace c46 := Bool.eq_false_iff.mpr c46
                      subst c46
                      have H1 : (some ((-1), 0)) = some (r1, r2) := by rw [if_neg (show ¬ (false = true) by decide)] at H; exact H
                      clear H
                      have H := H1
                      clear H1
                      simp only [Option.some.injEq, Prod.mk.injEq] at H
                      obtain ⟨rfl, rfl⟩ := H
                      go_wp2
                      go_ret2
                      exact ⟨by first | rfl | (simp [errW_none, errW_some] <;> rfl) | (simp [*, errW_none, errW_some] <;> rfl) | (exfalso; simp only [decide_eq_true_eq, decide_eq_false_iff_not, beq_iff_eq, beq_eq_false_iff_ne] at *; first | contradiction | omega), by repeat (first | (with_reducible first | exact HB.out | apply below_alloc | apply pw_below_drewN | apply below_drew1 | refine below_set ?_ GE114.out) | exact HB.out)⟩
              · replace c39 := Bool.eq_false_iff.mpr c39
                subst c39
                have H1 : (some ((-1), 0)) = some (r1, r2) := by rw [if_neg (show ¬ (false = true) by decide)] at H; exact H
                clear H
                have H := H1
                clear H1
                simp only [Option.some.injEq, Prod.mk.injEq] at H
                obtain ⟨rfl, rfl⟩ := H
                go_wp2
                go_ret2
                exact ⟨by first | rfl | (simp [errW_none, errW_some] <;> rfl) | (simp [*, errW_none, errW_some] <;> rfl) | (exfalso; simp only [decide_eq_true_eq, decide_eq_false_iff_not, beq_iff_eq, beq_eq_false_iff_ne] at *; first | contradiction | omega), by repeat (first | (with_reducible first | exact HB.out | apply below_alloc | apply pw_below_drewN | apply below_drew1 | refine below_set ?_ GE114.out) | exact HB.out)⟩
    · rw [if_neg c4] at H
      exact absurd H (by simp)
  · rw [if_neg c3] at H
    exact absurd H (by simp)

end Go.Proofs.YtjndccjpjknbkaaDoor.PEx

-- by hprint.py (wip/): the kit's print over contracts proved by hand; a text of this session
namespace Go.Proofs.YtjndccjpjknbkaaDoor.PEx
open Go.RowKit Go.Proofs.YtjndccjpjknbkaaDoorW.PrintWords Go.Proofs.YtjndccjpjknbkaaDoorW.PrintLast Go.Proofs.YtjndccjpjknbkaaDoorW.PrintMore
attribute [local go_sem] max2_int min2_int max_two min_two max_three min_three max_four min_four   -- for this text's walks alone
set_option linter.unusedVariables false
set_option linter.unusedSimpArgs false

/-! ### graftbedref12_Check: function 15 -/
def graftbedref12_Check.j0 : Nat → List (S61) → Bool → Option (Int)
  | 0, _, _ => none
  | k + 1, x0, x12 => if x12 = true then (some 120) else ((graftbedref12_whole.f k x0 (wrap64 ((x0.length : Int) - 1))).bind fun bt122 => (if bt122.1 = 0 then (if bt122.2 > 40 then (some 120) else (some 0)) else (some 120)))
def graftbedref12_Check.f (k : Nat) (l0 : List (S61)) : Option (Int) := if (l0.length : Int) < 1 then (graftbedref12_Check.j0 k l0 true) else (graftbedref12_Check.j0 k l0 (decide ((l0.length : Int) > 60)))
theorem graftbedref12_Check.mono_l : ∀ k, (∀ y0 y1, LeO (graftbedref12_Check.j0 k y0 y1) (graftbedref12_Check.j0 (k + 1) y0 y1))
  | 0 => fun _ _ r h => by simp [graftbedref12_Check.j0] at h
  | k + 1 => by
    have ih0 := graftbedref12_Check.mono_l k
    · intro y0 y1
      unfold graftbedref12_Check.j0
      repeat' first
      | (with_reducible exact ih0 _ _)
      | (with_reducible exact graftbedref12_whole.mono _ _ _)
      | (with_reducible exact LeO.refl _)
      | (with_reducible exact LeO.none _)
      | (with_reducible refine LeO.ite ?_ ?_)
      | (with_reducible refine LeO.bind ?_ (fun _ => ?_))
      | exact ih0 _ _
      | exact graftbedref12_whole.mono _ _ _
      | exact LeO.none _
      | refine LeO.ite ?_ ?_
      | refine LeO.bind ?_ (fun _ => ?_)
theorem graftbedref12_Check.mono : ∀ a0 k, LeO (graftbedref12_Check.f k a0) (graftbedref12_Check.f (k + 1) a0) := by
  intro a0 k
  have ih0 := graftbedref12_Check.mono_l k
  unfold graftbedref12_Check.f
  repeat' first
      | (with_reducible exact ih0 _ _)
      | (with_reducible exact graftbedref12_whole.mono _ _ _)
      | (with_reducible exact LeO.refl _)
      | (with_reducible exact LeO.none _)
      | (with_reducible refine LeO.ite ?_ ?_)
      | (with_reducible refine LeO.bind ?_ (fun _ => ?_))
      | exact ih0 _ _
      | exact graftbedref12_whole.mono _ _ _
      | exact LeO.none _
      | refine LeO.ite ?_ ?_
      | refine LeO.bind ?_ (fun _ => ?_)
set_option maxHeartbeats 8000000 in
set_option maxRecDepth 100000 in
theorem graftbedref12_Check.calls (k : Nat) (A0 : Option Addr) (c0 : Nat) (l0 : List (S61)) (r : Int) (w : World) (hr0 : Kd.C k61 w A0 l0.length l0) (hc0 : l0.length ≤ c0) (h : graftbedref12_Check.f k l0 = some r) :
    Calls Tryd.prog 15 #[.slice A0 l0.length c0] w fun e w' => e = .returned (.int .i64 r) ∧ Below w.heap.size w w' := by
  have HR0 := Aside0.mk hr0
  have HC0 := Aside0.mk hc0
  clear hr0 hc0
  have HB := Aside0.mk (Below.refl w.heap.size w)
  have H : (if (l0.length : Int) < 1 then (graftbedref12_Check.j0 k l0 true) else (graftbedref12_Check.j0 k l0 (decide ((l0.length : Int) > 60)))) = some r := h
  clear h
  have HC2 := Aside0.mk H
  clear H
  go_enter Tryd.func15, Tryd.ntmps15
  go_upto_region 1 with (fail)
  go_cut [12] (fun v12 wc => ∃ (kq : Nat) (x12_1 : Bool), v12 = .bool x12_1 ∧ Aside0 (graftbedref12_Check.j0 kq l0 x12_1 = some r) ∧ Aside0 (kq ≤ k) ∧ Aside0 (Below w.heap.size w wc))
  case first =>
    have H := HC2.out
    clear HC2
    by_cases c3 : (l0.length : Int) < 1
    · rw [if_pos c3] at H
      have c3b0 : decide ((l0.length : Int) < 1) = true := decide_eq_true c3
      have c3b1 : decide (l0.length < 1) = true := decide_eq_true (by omega)
      clear c3
      (first | rw [c3b0] | (simp only [i64_w, i32_w]; rw [c3b0]) | skip)
      have H' := Aside0.mk H
      clear H
      go_wp2
      go_meet
      case rel => exact ⟨_, (true), (by first | rfl | (simp; done) | (simp [*]; done)), H', ⟨by first | omega | exact Nat.le_refl _⟩, ⟨by repeat (first | (with_reducible first | exact HB.out | apply below_alloc | apply pw_below_drewN | apply below_drew1) | exact HB.out)⟩⟩
    · rw [if_neg c3] at H
      have c3b0 : decide ((l0.length : Int) < 1) = false := decide_eq_false c3
      have c3b1 : decide (l0.length < 1) = false := decide_eq_false (by omega)
      clear c3
      (first | rw [c3b0] | (simp only [i64_w, i32_w]; rw [c3b0]) | skip)
      have H' := Aside0.mk H
      clear H
      go_wp2
      go_meet
      case rel => exact ⟨_, (decide ((l0.length : Int) > 60)), (by first | rfl | (simp; done) | (simp [*]; done)), H', ⟨by first | omega | exact Nat.le_refl _⟩, ⟨by repeat (first | (with_reducible first | exact HB.out | apply below_alloc | apply pw_below_drewN | apply below_drew1) | exact HB.out)⟩⟩
  case rest =>
    clear HC2
    try clear c1
    try clear p2
    try clear c3
    try clear c3b0
    try clear c3b1
    obtain ⟨kq, x12_1, rfl, HA, HJ1, HB⟩ := hcut
    cases kq with
    | zero => exact absurd HA.out (by simp [graftbedref12_Check.j0])
    | succ kj1 =>
      have H := HA.out
      clear HA
      simp only [graftbedref12_Check.j0] at H
      by_cases c4 : x12_1 = true
      · subst c4
        have H1 : (some 120) = some r := by rw [if_pos rfl] at H; exact H
        clear H
        have H := H1
        clear H1
        obtain rfl := Option.some.inj H
        go_wp2
        go_ret
        exact ⟨by first | rfl | (simp [errW_none, errW_some] <;> rfl) | (simp [*, errW_none, errW_some] <;> rfl) | (exfalso; simp only [decide_eq_true_eq, decide_eq_false_iff_not, beq_iff_eq, beq_eq_false_iff_ne] at *; first | contradiction | omega), by repeat (first | (with_reducible first | exact HB.out | apply below_alloc | apply pw_below_drewN | apply below_drew1) | exact HB.out)⟩
      · replace c4 := Bool.eq_false_iff.mpr c4
        subst c4
        have H1 : ((graftbedref12_whole.f kj1 l0 (wrap64 ((l0.length : Int) - 1))).bind fun bt122 => (if bt122.1 = 0 then (if bt122.2 > 40 then (some 120) else (some 0)) else (some 120))) = some r := by rw [if_neg (show ¬ (false = true) by decide)] at H; exact H
        clear H
        have H := H1
        clear H1
        replace H := Option.bind_eq_some_iff.mp H
        obtain ⟨⟨t122, t123⟩, A50, H⟩ := H
        replace H : (if t122 = 0 then (if t123 > 40 then (some 120) else (some 0)) else (some 120)) = some r := H
        have A5 := Aside0.mk A50
        clear A50
        by_cases c6 : t122 = 0
        · rw [if_pos c6] at H
          have c6b0 : (t122 == 0) = true := beq_iff_eq.mpr c6
          have c6b1 : (t122 != 0) = false := bne_eq_false_iff_eq.mpr c6
          clear c6
          by_cases c7 : t123 > 40
          · rw [if_pos c7] at H
            have c7b0 : decide (40 < t123) = true := decide_eq_true c7
            clear c7
            obtain rfl := Option.some.inj H
            go_wp2_with (first | ((with_reducible refine gate_callee (f := 37) rfl ?_); refine goesL_ (some 18) rfl rfl Tryd.func37 (by kernel_rfl) rfl #[.slice A0 l0.length c0, .int .i64 (wrap64 ((l0.length : Int) - 1))] rfl (by (try simp only [List.map_toArray, List.map_cons, List.map_nil]); first | done | rfl | (simp only [List.length_drop, List.length_take]; rfl) | (simp only [ByteArray.size_extract, Nat.min_self]; done) | (simp only [ByteArray.size_append, StrMore.size_lit, List.length_cons, List.length_nil, Nat.zero_add, Nat.reduceAdd] <;> rfl)) ?_; (with_reducible refine (graftbedref12_whole.calls kj1 _ _ l0 (wrap64 ((l0.length : Int) - 1)) t122 t123 _ ?side1 ?side2 A5.out).mono ?_); (case side1 => repeat (first | exact (Kd.C_below HR0.out HB.out) | (with_reducible refine Kd.C_alloc ?_ _) | (with_reducible refine Kd.C_drewN ?_ _) | (with_reducible refine Kd.C_drew ?_))); (case side2 => exact HC0.out); rintro e w8 ⟨rfl, hb⟩; refine ⟨_, rfl, ?_⟩; have n0_ := Aside0.mk (below_step (by repeat (first | (with_reducible first | exact HB.out | apply below_alloc | apply pw_below_drewN | apply below_drew1) | exact HB.out)) hb); clear HB; have HB := n0_; clear n0_; (try clear hb); (try clear hb2); (try clear hk); (try clear hi)))
            go_ret
            exact ⟨by first | rfl | (simp [errW_none, errW_some] <;> rfl) | (simp [*, errW_none, errW_some] <;> rfl) | (exfalso; simp only [decide_eq_true_eq, decide_eq_false_iff_not, beq_iff_eq, beq_eq_false_iff_ne] at *; first | contradiction | omega), by repeat (first | (with_reducible first | exact HB.out | apply below_alloc | apply pw_below_drewN | apply below_drew1) | exact HB.out)⟩
          · rw [if_neg c7] at H
            have c7b0 : decide (40 < t123) = false := decide_eq_false c7
            clear c7
            obtain rfl := Option.some.inj H
            go_wp2_with (first | ((with_reducible refine gate_callee (f := 37) rfl ?_); refine goesL_ (some 18) rfl rfl Tryd.func37 (by kernel_rfl) rfl #[.slice A0 l0.length c0, .int .i64 (wrap64 ((l0.length : Int) - 1))] rfl (by (try simp only [List.map_toArray, List.map_cons, List.map_nil]); first | done | rfl | (simp only [List.length_drop, List.length_take]; rfl) | (simp only [ByteArray.size_extract, Nat.min_self]; done) | (simp only [ByteArray.size_append, StrMore.size_lit, List.length_cons, List.length_nil, Nat.zero_add, Nat.reduceAdd] <;> rfl)) ?_; (with_reducible refine (graftbedref12_whole.calls kj1 _ _ l0 (wrap64 ((l0.length : Int) - 1)) t122 t123 _ ?side1 ?side2 A5.out).mono ?_); (case side1 => repeat (first | exact (Kd.C_below HR0.out HB.out) | (with_reducible refine Kd.C_alloc ?_ _) | (with_reducible refine Kd.C_drewN ?_ _) | (with_reducible refine Kd.C_drew ?_))); (case side2 => exact HC0.out); rintro e w9 ⟨rfl, hb⟩; refine ⟨_, rfl, ?_⟩; have n0_ := Aside0.mk (below_step (by repeat (first | (with_reducible first | exact HB.out | apply below_alloc | apply pw_below_drewN | apply below_drew1) | exact HB.out)) hb); clear HB; have HB := n0_; clear n0_; (try clear hb); (try clear hb2); (try clear hk); (try clear hi)))
            go_ret
            exact ⟨by first | rfl | (simp [errW_none, errW_some] <;> rfl) | (simp [*, errW_none, errW_some] <;> rfl) | (exfalso; simp only [decide_eq_true_eq, decide_eq_false_iff_not, beq_iff_eq, beq_eq_false_iff_ne] at *; first | contradiction | omega), by repeat (first | (with_reducible first | exact HB.out | apply below_alloc | apply pw_below_drewN | apply below_drew1) | exact HB.out)⟩
        · rw [if_neg c6] at H
          have c6b0 : (t122 == 0) = false := beq_eq_false_iff_ne.mpr c6
          have c6b1 : (t122 != 0) = true := bne_iff_ne.mpr c6
          obtain rfl := Option.some.inj H
          go_wp2_with (first | ((with_reducible refine gate_callee (f := 37) rfl ?_); refine goesL_ (some 18) rfl rfl Tryd.func37 (by kernel_rfl) rfl #[.slice A0 l0.length c0, .int .i64 (wrap64 ((l0.length : Int) - 1))] rfl (by (try simp only [List.map_toArray, List.map_cons, List.map_nil]); first | done | rfl | (simp only [List.length_drop, List.length_take]; rfl) | (simp only [ByteArray.size_extract, Nat.min_self]; done) | (simp only [ByteArray.size_append, StrMore.size_lit, List.length_cons, List.length_nil, Nat.zero_add, Nat.reduceAdd] <;> rfl)) ?_; (with_reducible refine (graftbedref12_whole.calls kj1 _ _ l0 (wrap64 ((l0.length : Int) - 1)) t122 t123 _ ?side1 ?side2 A5.out).mono ?_); (case side1 => repeat (first | exact (Kd.C_below HR0.out HB.out) | (with_reducible refine Kd.C_alloc ?_ _) | (with_reducible refine Kd.C_drewN ?_ _) | (with_reducible refine Kd.C_drew ?_))); (case side2 => exact HC0.out); rintro e w10 ⟨rfl, hb⟩; refine ⟨_, rfl, ?_⟩; have n0_ := Aside0.mk (below_step (by repeat (first | (with_reducible first | exact HB.out | apply below_alloc | apply pw_below_drewN | apply below_drew1) | exact HB.out)) hb); clear HB; have HB := n0_; clear n0_; (try clear hb); (try clear hb2); (try clear hk); (try clear hi)))
          go_ret
          exact ⟨by first | rfl | (simp [errW_none, errW_some] <;> rfl) | (simp [*, errW_none, errW_some] <;> rfl) | (exfalso; simp only [decide_eq_true_eq, decide_eq_false_iff_not, beq_iff_eq, beq_eq_false_iff_ne] at *; first | contradiction | omega), by repeat (first | (with_reducible first | exact HB.out | apply below_alloc | apply pw_below_drewN | apply below_drew1) | exact HB.out)⟩

end Go.Proofs.YtjndccjpjknbkaaDoor.PEx

-- by hprint.py (wip/): the kit's print over contracts proved by hand; a text of this session
namespace Go.Proofs.YtjndccjpjknbkaaDoor.PEx
open Go.RowKit Go.Proofs.YtjndccjpjknbkaaDoorW.PrintWords Go.Proofs.YtjndccjpjknbkaaDoorW.PrintLast Go.Proofs.YtjndccjpjknbkaaDoorW.PrintMore
attribute [local go_sem] max2_int min2_int max_two min_two max_three min_three max_four min_four   -- for this text's walks alone
set_option linter.unusedVariables false
set_option linter.unusedSimpArgs false

/-! ### graftbedlaw12_theirs: function 16 -/
def graftbedlaw12_theirs.l0 : Nat → List (S52) → List (S61) → Int → Option ((List (S61)))
  | 0, _, _, _ => none
  | k + 1, x0, x3, x4 => if x4 < (x0.length : Int) then (if 0 ≤ x4 then (if x3.length < 3518437208883 then (graftbedlaw12_theirs.l0 k x0 (x3 ++ [(⟨(rd_T52 x0 x4).f0, (rd_T52 x0 x4).f1, (rd_T52 x0 x4).f2, (rd_T52 x0 x4).f3⟩ : S61)]) (wrap64 (x4 + 1))) else (none)) else (none)) else (some x3)
def graftbedlaw12_theirs.f (k : Nat) (l0 : List (S52)) : Option ((List (S61))) := graftbedlaw12_theirs.l0 k l0 (([] : List (S61))) 0
theorem graftbedlaw12_theirs.mono_l : ∀ k, (∀ y0 y1 y2, LeO (graftbedlaw12_theirs.l0 k y0 y1 y2) (graftbedlaw12_theirs.l0 (k + 1) y0 y1 y2))
  | 0 => fun _ _ _ r h => by simp [graftbedlaw12_theirs.l0] at h
  | k + 1 => by
    have ih0 := graftbedlaw12_theirs.mono_l k
    · intro y0 y1 y2
      unfold graftbedlaw12_theirs.l0
      repeat' first
      | (with_reducible exact ih0 _ _ _)
      | (with_reducible exact LeO.refl _)
      | (with_reducible exact LeO.none _)
      | (with_reducible refine LeO.ite ?_ ?_)
      | (with_reducible refine LeO.bind ?_ (fun _ => ?_))
      | exact ih0 _ _ _
      | exact LeO.none _
      | refine LeO.ite ?_ ?_
      | refine LeO.bind ?_ (fun _ => ?_)
theorem graftbedlaw12_theirs.mono : ∀ a0 k, LeO (graftbedlaw12_theirs.f k a0) (graftbedlaw12_theirs.f (k + 1) a0) := by
  intro a0 k
  have ih0 := graftbedlaw12_theirs.mono_l k
  unfold graftbedlaw12_theirs.f
  repeat' first
      | (with_reducible exact ih0 _ _ _)
      | (with_reducible exact LeO.refl _)
      | (with_reducible exact LeO.none _)
      | (with_reducible refine LeO.ite ?_ ?_)
      | (with_reducible refine LeO.bind ?_ (fun _ => ?_))
      | exact ih0 _ _ _
      | exact LeO.none _
      | refine LeO.ite ?_ ?_
      | refine LeO.bind ?_ (fun _ => ?_)
set_option maxHeartbeats 8000000 in
set_option maxRecDepth 100000 in
theorem graftbedlaw12_theirs.calls (k : Nat) (A0 : Option Addr) (c0 : Nat) (l0 : List (S52)) (r : List (S61)) (w : World) (hr0 : Kd.C k52 w A0 l0.length l0) (hc0 : l0.length ≤ c0) (h : graftbedlaw12_theirs.f k l0 = some r) :
    Calls Tryd.prog 16 #[.slice A0 l0.length c0] w fun e w' => ∃ v0_ : Value, e = .returned (v0_) ∧ Kd.R k61 61 w' w.heap.size (fun _ => True) v0_ r ∧ Below w.heap.size w w' := by
  have hu52 := Tryd.underlying52
  have HR0 := Aside0.mk hr0
  have HC0 := Aside0.mk hc0
  clear hr0 hc0
  have HB := Aside0.mk (Below.refl w.heap.size w)
  have H : (graftbedlaw12_theirs.l0 k l0 (([] : List (S61))) 0) = some r := h
  clear h
  obtain ⟨y124, hy124⟩ : ∃ y_ : List (S61), y_ = (([] : List (S61))) := ⟨_, rfl⟩
  replace H : (graftbedlaw12_theirs.l0 k l0 y124 0) = some r := by first | (rw [hy124]; with_reducible exact H) | (have H2_ := (Option.bind_some _ _).symm.trans H; rw [hy124]; with_reducible exact H2_) | (have H2_ := (Option.bind_some _ _).symm.trans H; with_reducible exact H2_) | with_reducible exact H | (rw [hy124]; exact H) | exact H
  have Ny124 := Aside0.mk hy124
  clear hy124
  have H' := Aside0.mk H
  clear H
  go_enter Tryd.func16, Tryd.ntmps16
  go_wp2_with (first | ((with_reducible refine gate_dst (N := 5) rfl ?_); refine Kd.R_lit k61 _ 61 ?hg (N := 5) ?hd (xs := ([] : List (S61))) (inner := []) (ok := fun _ => True) (okp := fun _ => True) ?hr ?hp (fun _ hk => hk) trivial (Below.refl _ _) (Nat.le_refl _) (by simp) ?_; (case hd => rfl); (case hg => rfl); (case hr => first | (go_simp; done) | (go_simp; rfl)); (case hp => exact (Reps.none _ _)); intro v125 w2 ho3 hb hg_ hnew_; clear hg_ hnew_; (first | rw [← Ny124.out] at ho3 | (simp only [Int.reduceToNat] at ho3; rw [← Ny124.out] at ho3)); have n0_ := Aside0.mk (Kd.R_lower ho3 (below_size (by repeat (first | (with_reducible first | exact HB.out | apply below_alloc | apply pw_below_drewN | apply below_drew1) | exact HB.out)))); have n1_ := Aside0.mk (below_step (by repeat (first | (with_reducible first | exact HB.out | apply below_alloc | apply pw_below_drewN | apply below_drew1) | exact HB.out)) hb); clear HB; have HO126 := n0_; have HB := n1_; clear n0_ n1_; clear hb ho3))
  go_loopg [3, 4] k (fun kq v3 v4 w' => ∃ (x3_1 : List (S61)) (x4_1 : Int), v4 = .int .i64 x4_1 ∧ Aside0 (graftbedlaw12_theirs.l0 kq l0 x3_1 x4_1 = some r) ∧ Aside0 (kq ≤ k) ∧ Aside0 (Kd.R k61 61 w' w.heap.size (fun _ => True) v3 x3_1) ∧ Aside0 (Below w.heap.size w w'))
  case atStart => exact ⟨(y124), (0), (by first | rfl | (simp; done) | (simp [*]; done)), H', ⟨Nat.le_refl _⟩, ⟨by (with_reducible repeat (first | apply Kd.R_alloc | apply Kd.R_drewN | apply Kd.R_drew)); first | exact HO126.out | (have e_ := HO126.out; simp only [StrOrd.own_any] at e_ ⊢; exact e_)⟩, ⟨by repeat (first | (with_reducible first | exact HB.out | apply below_alloc | apply pw_below_drewN | apply below_drew1) | exact HB.out)⟩⟩
  case round =>
    clear H'
    try clear c1
    try clear p2
    obtain ⟨x3_1, x4_1, rfl, HA, HK1, HO_3, HB⟩ := hrel
    cases gk with
    | zero => exact absurd HA.out (by simp [graftbedlaw12_theirs.l0])
    | succ k1 =>
      have H := HA.out
      clear HA
      simp only [graftbedlaw12_theirs.l0] at H
      by_cases c4 : x4_1 < (l0.length : Int)
      · rw [if_pos c4] at H
        have c4b0 : decide (x4_1 < (l0.length : Int)) = true := decide_eq_true c4
        clear c4
        by_cases c5 : 0 ≤ x4_1
        · rw [if_pos c5] at H
          have c5b0 : decide (0 ≤ x4_1) = true := decide_eq_true c5
          clear c5
          by_cases c6 : x3_1.length < 3518437208883
          · rw [if_pos c6] at H
            have LMc6 := Aside0.mk c6
            clear c6
            obtain ⟨y128, hy128⟩ : ∃ y_ : List (S61), y_ = (x3_1 ++ [(⟨(rd_T52 l0 x4_1).f0, (rd_T52 l0 x4_1).f1, (rd_T52 l0 x4_1).f2, (rd_T52 l0 x4_1).f3⟩ : S61)]) := ⟨_, rfl⟩
            replace H : (graftbedlaw12_theirs.l0 k1 l0 y128 (wrap64 (x4_1 + 1))) = some r := by first | (rw [hy128]; with_reducible exact H) | (have H2_ := (Option.bind_some _ _).symm.trans H; rw [hy128]; with_reducible exact H2_) | (have H2_ := (Option.bind_some _ _).symm.trans H; with_reducible exact H2_) | with_reducible exact H | (rw [hy128]; exact H) | exact H
            have Ny128 := Aside0.mk hy128
            clear hy128
            have H' := Aside0.mk H
            clear H
            have p127 : 0 ≤ (x4_1 : Int) := of_decide_eq_true (by first | (with_reducible assumption) | assumption)
            have q127 : x4_1 < (l0.length : Int) := of_decide_eq_true (by first | (with_reducible assumption) | assumption)
            obtain ⟨ad127, e127, hx127_0, hx127_1, hx127_2, hx127_3⟩ := at_T52 HR0.out x4_1 p127 q127
            cases e127
            replace hx127_0 := (HB.out.cell (World.block_lt_of_cell? w _ hx127_0)).trans hx127_0
            replace hx127_1 := (HB.out.cell (World.block_lt_of_cell? w _ hx127_1)).trans hx127_1
            replace hx127_2 := (HB.out.cell (World.block_lt_of_cell? w _ hx127_2)).trans hx127_2
            replace hx127_3 := (HB.out.cell (World.block_lt_of_cell? w _ hx127_3)).trans hx127_3
            replace p127 := eq_true p127
            replace q127 := eq_true q127
            go_wp2_with (first | ((with_reducible refine gate_builtin (b := .append) (xs := #[.tmp 12, .tmp 17]) rfl ?_); at_builtin; refine Kd.R_append k61 (w0 := w) w.heap.size rfl (.tmp 12) (.tmp 17) 30 61 (.agg #[(.int .i64 0), (.string ⟨#[]⟩), (.int .i64 0), (.int .i64 0)]) 40 rfl Tryd.underlying30 info61 rfl (by decide) (by omega) u3 x3_1 (⟨(rd_T52 l0 x4_1).f0, (rd_T52 l0 x4_1).f1, (rd_T52 l0 x4_1).f2, (rd_T52 l0 x4_1).f3⟩ : S61) [.int .i64 ((rd_T52 l0 x4_1).f0), .string ((rd_T52 l0 x4_1).f1), .int .i64 ((rd_T52 l0 x4_1).f2), .int .i64 ((rd_T52 l0 x4_1).f3)] (fun _ => True) (fun _ => False) rfl rfl ?aP (fun _ hk => hk.elim) ?aF ?aO ?aB ?aS ?aL ?_; (case aP => exact k61_mkM _ _ _ (⟨(rd_T52 l0 x4_1).f0, (rd_T52 l0 x4_1).f1, (rd_T52 l0 x4_1).f2, (rd_T52 l0 x4_1).f3⟩ : S61)); (case aB => exact (by repeat (first | (with_reducible first | exact HB.out | apply below_alloc | apply pw_below_drewN | apply below_drew1) | exact HB.out))); (case aF => exact (fun _ _ => trivial)); (case aO => exact (by (with_reducible repeat (first | apply Kd.R_alloc | apply Kd.R_drewN | apply Kd.R_drew)); exact HO_3.out)); (case aS => exact (below_size (by repeat (first | (with_reducible first | exact HB.out | apply below_alloc | apply pw_below_drewN | apply below_drew1) | exact HB.out)))); (case aL => have := LMc6.out; omega); intro v129 w7 ho hb hg hat; rw [← Ny128.out] at ho; have n0_ := Aside0.mk (hb); have n1_ := Aside0.mk (ho); clear HB; clear HO_3; have HB := n0_; have HO130 := n1_; clear n0_ n1_; clear ho hb hg hat))
            go_roundg k1
            case measure => have := HK1.out; omega
            case rel => exact ⟨(y128), (wrap64 (x4_1 + 1)), (by first | rfl | (simp; done) | (simp [*]; done)), H', ⟨by have := HK1.out; omega⟩, ⟨by (with_reducible repeat (first | apply Kd.R_alloc | apply Kd.R_drewN | apply Kd.R_drew)); first | exact HO130.out | (have e_ := HO130.out; simp only [StrOrd.own_any] at e_ ⊢; exact e_)⟩, ⟨by repeat (first | (with_reducible first | exact HB.out | apply below_alloc | apply pw_below_drewN | apply below_drew1) | exact HB.out)⟩⟩
          · rw [if_neg c6] at H
            exact absurd H (by simp)
        · rw [if_neg c5] at H
          exact absurd H (by simp)
      · rw [if_neg c4] at H
        have c4b0 : decide (x4_1 < (l0.length : Int)) = false := decide_eq_false c4
        clear c4
        obtain rfl := Option.some.inj H
        go_wp2
        go_ret
        exact ⟨_, by first | rfl | (simp [errW_none, errW_some] <;> rfl) | (simp [*, errW_none, errW_some] <;> rfl), by (with_reducible repeat (first | apply Kd.R_alloc | apply Kd.R_drewN | apply Kd.R_drew)); exact HO_3.out, by repeat (first | (with_reducible first | exact HB.out | apply below_alloc | apply pw_below_drewN | apply below_drew1) | exact HB.out)⟩

end Go.Proofs.YtjndccjpjknbkaaDoor.PEx

-- by hprint.py (wip/): the kit's print over contracts proved by hand; a text of this session
namespace Go.Proofs.YtjndccjpjknbkaaDoor.PEx
open Go.RowKit Go.Proofs.YtjndccjpjknbkaaDoorW.PrintWords Go.Proofs.YtjndccjpjknbkaaDoorW.PrintLast Go.Proofs.YtjndccjpjknbkaaDoorW.PrintMore
attribute [local go_sem] max2_int min2_int max_two min_two max_three min_three max_four min_four   -- for this text's walks alone
set_option linter.unusedVariables false
set_option linter.unusedSimpArgs false

/-! ### expr_Any: function 18 -/
def expr_Any.enc (x : S52) : ExNode.Nd := ⟨x.f0, x.f1, x.f2, x.f3⟩
def expr_Any.tagsOk (l0 : List (S52)) : Bool := l0.all fun x => decide (x.f1.size ≤ 4611686018427387904)
def expr_Any.f (l0 : List (S52)) : Option Bool := if expr_Any.tagsOk l0 = true then some (ExSem.anyF (l0.map expr_Any.enc)) else none
theorem expr_Any.tags_of {l0 : List (S52)} (h : expr_Any.tagsOk l0 = true) : ∀ x ∈ l0, (expr_Any.enc x).tag.size ≤ 4611686018427387904 := fun x hx => of_decide_eq_true (List.all_eq_true.1 h x hx)
theorem expr_Any.calls (A0 : Option Addr) (c0 : Nat) (l0 : List (S52)) (r : Bool) (w : World) (hr0 : Kd.C k52 w A0 l0.length l0) (hc0 : l0.length ≤ c0) (h : expr_Any.f l0 = some r) :
    Calls Tryd.prog 18 #[.slice A0 l0.length c0] w fun e w' => e = .returned (.bool r) ∧ Below w.heap.size w w' := by
  unfold expr_Any.f at h
  by_cases h1 : expr_Any.tagsOk l0 = true
  · rw [if_pos h1] at h
    obtain rfl := Option.some.inj h
    exact ExAny.Any_calls k52 rfl expr_Any.enc (fun h => k52_open h) A0 c0 l0 w hr0 (expr_Any.tags_of h1)
  · rw [if_neg h1] at h
    cases h

end Go.Proofs.YtjndccjpjknbkaaDoor.PEx

-- by hprint.py (wip/): the kit's print over contracts proved by hand; a text of this session
namespace Go.Proofs.YtjndccjpjknbkaaDoor.PEx
open Go.RowKit Go.Proofs.YtjndccjpjknbkaaDoorW.PrintWords Go.Proofs.YtjndccjpjknbkaaDoorW.PrintLast Go.Proofs.YtjndccjpjknbkaaDoorW.PrintMore
attribute [local go_sem] max2_int min2_int max_two min_two max_three min_three max_four min_four   -- for this text's walks alone
set_option linter.unusedVariables false
set_option linter.unusedSimpArgs false

/-! ### graftbedlaw12_heavy: function 11 -/
def graftbedlaw12_heavy.l0 : Nat → List (S52) → Int → Option (Bool)
  | 0, _, _ => none
  | k + 1, x0, x3 => if x3 < (x0.length : Int) then (if 0 ≤ x3 then (if (((rd_T52 x0 x3).f1).size : Int) > 100 then (some true) else (graftbedlaw12_heavy.l0 k x0 (wrap64 (x3 + 1)))) else (none)) else (some false)
def graftbedlaw12_heavy.f (k : Nat) (l0 : List (S52)) : Option (Bool) := if (l0.length : Int) > 70 then (some true) else (graftbedlaw12_heavy.l0 k l0 0)
theorem graftbedlaw12_heavy.mono_l : ∀ k, (∀ y0 y1, LeO (graftbedlaw12_heavy.l0 k y0 y1) (graftbedlaw12_heavy.l0 (k + 1) y0 y1))
  | 0 => fun _ _ r h => by simp [graftbedlaw12_heavy.l0] at h
  | k + 1 => by
    have ih0 := graftbedlaw12_heavy.mono_l k
    · intro y0 y1
      unfold graftbedlaw12_heavy.l0
      repeat' first
      | (with_reducible exact ih0 _ _)
      | (with_reducible exact LeO.refl _)
      | (with_reducible exact LeO.none _)
      | (with_reducible refine LeO.ite ?_ ?_)
      | (with_reducible refine LeO.bind ?_ (fun _ => ?_))
      | exact ih0 _ _
      | exact LeO.none _
      | refine LeO.ite ?_ ?_
      | refine LeO.bind ?_ (fun _ => ?_)
theorem graftbedlaw12_heavy.mono : ∀ a0 k, LeO (graftbedlaw12_heavy.f k a0) (graftbedlaw12_heavy.f (k + 1) a0) := by
  intro a0 k
  have ih0 := graftbedlaw12_heavy.mono_l k
  unfold graftbedlaw12_heavy.f
  repeat' first
      | (with_reducible exact ih0 _ _)
      | (with_reducible exact LeO.refl _)
      | (with_reducible exact LeO.none _)
      | (with_reducible refine LeO.ite ?_ ?_)
      | (with_reducible refine LeO.bind ?_ (fun _ => ?_))
      | exact ih0 _ _
      | exact LeO.none _
      | refine LeO.ite ?_ ?_
      | refine LeO.bind ?_ (fun _ => ?_)
set_option maxHeartbeats 8000000 in
set_option maxRecDepth 100000 in
theorem graftbedlaw12_heavy.calls (k : Nat) (A0 : Option Addr) (c0 : Nat) (l0 : List (S52)) (r : Bool) (w : World) (hr0 : Kd.C k52 w A0 l0.length l0) (hc0 : l0.length ≤ c0) (h : graftbedlaw12_heavy.f k l0 = some r) :
    Calls Tryd.prog 11 #[.slice A0 l0.length c0] w fun e w' => e = .returned (.bool r) ∧ Drawn0 w w' := by
  have HR0 := Aside0.mk hr0
  have HC0 := Aside0.mk hc0
  clear hr0 hc0
  have H : (if (l0.length : Int) > 70 then (some true) else (graftbedlaw12_heavy.l0 k l0 0)) = some r := h
  clear h
  by_cases c2 : (l0.length : Int) > 70
  · rw [if_pos c2] at H
    have c2b0 : decide (70 < (l0.length : Int)) = true := decide_eq_true c2
    have c2b1 : decide (70 < l0.length) = true := decide_eq_true (by omega)
    clear c2
    obtain rfl := Option.some.inj H
    go_enter Tryd.func11, Tryd.ntmps11
    go_wp2
    go_ret
    exact ⟨by first | rfl | (simp; done) | (simp [*]; done) | (have ne_ : ∀ l : List UInt8, (l != []) = !l.isEmpty := (fun l => by cases l <;> rfl); simp [ne_]; done), by repeat (first | exact Drawn0.refl _ | apply Drawn0.step)⟩
  · rw [if_neg c2] at H
    have c2b0 : decide (70 < (l0.length : Int)) = false := decide_eq_false c2
    have c2b1 : decide (70 < l0.length) = false := decide_eq_false (by omega)
    clear c2
    have H' := Aside0.mk H
    clear H
    go_enter Tryd.func11, Tryd.ntmps11
    go_wp2
    go_loopg [3] k (fun kq v3 w' => ∃ (x3_1 : Int), v3 = .int .i64 x3_1 ∧ Aside0 (graftbedlaw12_heavy.l0 kq l0 x3_1 = some r) ∧ Aside0 (kq ≤ k) ∧ Drawn0 w w')
    case atStart => exact ⟨(0), (by first | rfl | (simp; done) | (simp [*]; done)), H', ⟨Nat.le_refl _⟩, by repeat (first | exact Drawn0.refl _ | apply Drawn0.step)⟩
    case round =>
      clear H'
      try clear c1
      try clear c2
      try clear c2b0
      try clear c2b1
      try clear p2
      obtain ⟨x3_1, rfl, HA, HK1, ⟨m1, rfl⟩⟩ := hrel
      cases gk with
      | zero => exact absurd HA.out (by simp [graftbedlaw12_heavy.l0])
      | succ k1 =>
        have H := HA.out
        clear HA
        simp only [graftbedlaw12_heavy.l0] at H
        by_cases c3 : x3_1 < (l0.length : Int)
        · rw [if_pos c3] at H
          have c3b0 : decide (x3_1 < (l0.length : Int)) = true := decide_eq_true c3
          clear c3
          by_cases c4 : 0 ≤ x3_1
          · rw [if_pos c4] at H
            have c4b0 : decide (0 ≤ x3_1) = true := decide_eq_true c4
            clear c4
            by_cases c5 : (((rd_T52 l0 x3_1).f1).size : Int) > 100
            · rw [if_pos c5] at H
              have c5b0 : decide (100 < (((rd_T52 l0 x3_1).f1).size : Int)) = true := decide_eq_true c5
              have c5b1 : decide (100 < ((rd_T52 l0 x3_1).f1).size) = true := decide_eq_true (by omega)
              clear c5
              obtain rfl := Option.some.inj H
              have p101 : 0 ≤ (x3_1 : Int) := of_decide_eq_true (by first | (with_reducible assumption) | assumption)
              have q101 : x3_1 < (l0.length : Int) := of_decide_eq_true (by first | (with_reducible assumption) | assumption)
              obtain ⟨ad101, e101, hx101_0, hx101_1, hx101_2, hx101_3⟩ := at_T52 HR0.out x3_1 p101 q101
              cases e101
              replace p101 := eq_true p101
              replace q101 := eq_true q101
              go_wp2
              go_ret
              exact ⟨by first | rfl | (simp; done) | (simp [*]; done) | (have ne_ : ∀ l : List UInt8, (l != []) = !l.isEmpty := (fun l => by cases l <;> rfl); simp [ne_]; done), by repeat (first | exact Drawn0.refl _ | apply Drawn0.step)⟩
            · rw [if_neg c5] at H
              have c5b0 : decide (100 < (((rd_T52 l0 x3_1).f1).size : Int)) = false := decide_eq_false c5
              have c5b1 : decide (100 < ((rd_T52 l0 x3_1).f1).size) = false := decide_eq_false (by omega)
              clear c5
              have H' := Aside0.mk H
              clear H
              have p101 : 0 ≤ (x3_1 : Int) := of_decide_eq_true (by first | (with_reducible assumption) | assumption)
              have q101 : x3_1 < (l0.length : Int) := of_decide_eq_true (by first | (with_reducible assumption) | assumption)
              obtain ⟨ad101, e101, hx101_0, hx101_1, hx101_2, hx101_3⟩ := at_T52 HR0.out x3_1 p101 q101
              cases e101
              replace p101 := eq_true p101
              replace q101 := eq_true q101
              go_wp2
              go_roundg k1
              case measure => have := HK1.out; omega
              case rel => exact ⟨(wrap64 (x3_1 + 1)), (by first | rfl | (simp; done) | (simp [*]; done)), H', ⟨by have := HK1.out; omega⟩, by repeat (first | exact Drawn0.refl _ | apply Drawn0.step)⟩
          · rw [if_neg c4] at H
            exact absurd H (by simp)
        · rw [if_neg c3] at H
          have c3b0 : decide (x3_1 < (l0.length : Int)) = false := decide_eq_false c3
          clear c3
          obtain rfl := Option.some.inj H
          go_wp2
          go_ret
          exact ⟨by first | rfl | (simp; done) | (simp [*]; done) | (have ne_ : ∀ l : List UInt8, (l != []) = !l.isEmpty := (fun l => by cases l <;> rfl); simp [ne_]; done), by repeat (first | exact Drawn0.refl _ | apply Drawn0.step)⟩

end Go.Proofs.YtjndccjpjknbkaaDoor.PEx

-- by hprint.py (wip/): the kit's print over contracts proved by hand; a text of this session
namespace Go.Proofs.YtjndccjpjknbkaaDoor.PEx
open Go.RowKit Go.Proofs.YtjndccjpjknbkaaDoorW.PrintWords Go.Proofs.YtjndccjpjknbkaaDoorW.PrintLast Go.Proofs.YtjndccjpjknbkaaDoorW.PrintMore
attribute [local go_sem] max2_int min2_int max_two min_two max_three min_three max_four min_four   -- for this text's walks alone
set_option linter.unusedVariables false
set_option linter.unusedSimpArgs false

/-! ### expr_Node: function 34 -/
def expr_Node.enc (x : S52) : ExNode.Nd := ⟨x.f0, x.f1, x.f2, x.f3⟩
def expr_Node.f (l0 : List (S52)) : Option (List (S52)) := if l0.length ≤ 3518437208880 then some l0 else none
theorem expr_Node.calls (A0 : Option Addr) (c0 : Nat) (l0 : List (S52)) (r : List (S52)) (w : World) (hr0 : Kd.C k52 w A0 l0.length l0) (hc0 : l0.length ≤ c0) (h : expr_Node.f l0 = some r) :
    Calls Tryd.prog 34 #[.slice A0 l0.length c0] w fun e w' => ∃ v0_ : Value, e = .returned (v0_) ∧ Kd.R k52 52 w' w.heap.size (fun _ => True) v0_ r ∧ Below w.heap.size w w' := by
  unfold expr_Node.f at h
  by_cases h1 : l0.length ≤ 3518437208880
  · rw [if_pos h1] at h
    obtain rfl := Option.some.inj h
    refine (ExNode.Clone_calls k52 rfl expr_Node.enc (fun h => k52_open h) A0 c0 l0 w hr0 h1).mono ?_
    rintro e w' ⟨v, rfl, ho, hb⟩
    refine ⟨v, rfl, RowsLib.R_of (f := fun x => ExNode.encN (expr_Node.enc x)) (n := 4) (fun _ => rfl) rfl (fun ok x => k52_mkM _ _ _ x) ?_ (Nat.le_refl _), hb⟩
    have e1 : ExNode.cellsN (l0.map expr_Node.enc) = RowsLib.cellsL (fun x => ExNode.encN (expr_Node.enc x)) l0 := by
      unfold ExNode.cellsN RowsLib.cellsL
      rw [List.flatMap_map]
    rw [← e1]; exact ho
  · rw [if_neg h1] at h
    cases h

end Go.Proofs.YtjndccjpjknbkaaDoor.PEx

-- by hprint.py (wip/): the kit's print over contracts proved by hand; a text of this session
namespace Go.Proofs.YtjndccjpjknbkaaDoor.PEx
open Go.RowKit Go.Proofs.YtjndccjpjknbkaaDoorW.PrintWords Go.Proofs.YtjndccjpjknbkaaDoorW.PrintLast Go.Proofs.YtjndccjpjknbkaaDoorW.PrintMore
attribute [local go_sem] max2_int min2_int max_two min_two max_three min_three max_four min_four   -- for this text's walks alone
set_option linter.unusedVariables false
set_option linter.unusedSimpArgs false

/-! ### expr_Not: function 13 -/
def expr_Not.f (l0 : List (S52)) : Option ((List (S52))) := (expr_Node.f l0).bind fun t106 => (if t106.length < 3518437208883 then (some (t106 ++ [(⟨1, (⟨#[]⟩ : ByteArray), wrap64 ((l0.length : Int) - 1), 0⟩ : S52)])) else (none))
set_option maxHeartbeats 8000000 in
set_option maxRecDepth 100000 in
theorem expr_Not.calls (A0 : Option Addr) (c0 : Nat) (l0 : List (S52)) (r : List (S52)) (w : World) (hr0 : Kd.C k52 w A0 l0.length l0) (hc0 : l0.length ≤ c0) (h : expr_Not.f l0 = some r) :
    Calls Tryd.prog 13 #[.slice A0 l0.length c0] w fun e w' => ∃ v0_ : Value, e = .returned (v0_) ∧ Kd.R k52 52 w' w.heap.size (fun _ => True) v0_ r ∧ Below w.heap.size w w' := by
  have hu52 := Tryd.underlying52
  have HR0 := Aside0.mk hr0
  have HC0 := Aside0.mk hc0
  clear hr0 hc0
  have HB := Aside0.mk (Below.refl w.heap.size w)
  have H : ((expr_Node.f l0).bind fun t106 => (if t106.length < 3518437208883 then (some (t106 ++ [(⟨1, (⟨#[]⟩ : ByteArray), wrap64 ((l0.length : Int) - 1), 0⟩ : S52)])) else (none))) = some r := h
  clear h
  replace H := Option.bind_eq_some_iff.mp H
  obtain ⟨t106, A20, H⟩ := H
  replace H : (if t106.length < 3518437208883 then (some (t106 ++ [(⟨1, (⟨#[]⟩ : ByteArray), wrap64 ((l0.length : Int) - 1), 0⟩ : S52)])) else (none)) = some r := H
  have A2 := Aside0.mk A20
  clear A20
  by_cases c3 : t106.length < 3518437208883
  · rw [if_pos c3] at H
    have LMc3 := Aside0.mk c3
    clear c3
    obtain ⟨y109, hy109⟩ : ∃ y_ : List (S52), y_ = (t106 ++ [(⟨1, (⟨#[]⟩ : ByteArray), wrap64 ((l0.length : Int) - 1), 0⟩ : S52)]) := ⟨_, rfl⟩
    replace H : (some y109) = some r := by first | (rw [hy109]; with_reducible exact H) | (have H2_ := (Option.bind_some _ _).symm.trans H; rw [hy109]; with_reducible exact H2_) | (have H2_ := (Option.bind_some _ _).symm.trans H; with_reducible exact H2_) | with_reducible exact H | (rw [hy109]; exact H) | exact H
    have Ny109 := Aside0.mk hy109
    clear hy109
    obtain rfl := Option.some.inj H
    go_enter Tryd.func13, Tryd.ntmps13
    go_wp2_with (first | ((with_reducible refine gate_callee (f := 34) rfl ?_); refine goesL_ (some 4) rfl rfl Tryd.func34 (by kernel_rfl) rfl #[.slice A0 l0.length c0] rfl (by (try simp only [List.map_toArray, List.map_cons, List.map_nil]); first | done | rfl | (simp only [List.length_drop, List.length_take]; rfl) | (simp only [ByteArray.size_extract, Nat.min_self]; done) | (simp only [ByteArray.size_append, StrMore.size_lit, List.length_cons, List.length_nil, Nat.zero_add, Nat.reduceAdd] <;> rfl)) ?_; (with_reducible refine (expr_Node.calls _ _ l0 t106 _ ?side1 ?side2 A2.out).mono ?_); (case side1 => repeat (first | exact HR0.out | (with_reducible refine Kd.C_alloc ?_ _) | (with_reducible refine Kd.C_drewN ?_ _) | (with_reducible refine Kd.C_drew ?_))); (case side2 => exact HC0.out); rintro e w4 ⟨v107, rfl, ho0, hb⟩; refine ⟨_, rfl, ?_⟩; have n0_ := Aside0.mk (Kd.R_lower ho0 (below_size (by repeat (first | (with_reducible first | exact HB.out | apply below_alloc | apply pw_below_drewN | apply below_drew1) | exact HB.out)))); have n1_ := Aside0.mk (below_step (by repeat (first | (with_reducible first | exact HB.out | apply below_alloc | apply pw_below_drewN | apply below_drew1) | exact HB.out)) hb); clear HB; have HO108 := n0_; have HB := n1_; clear n0_ n1_; (try clear hb); (try clear hb2); (try clear hk); (try clear hi); (try clear ho0)) | ((with_reducible refine gate_builtin (b := .append) (xs := #[.tmp 4, .tmp 9]) rfl ?_); at_builtin; refine Kd.R_append k52 (w0 := w) w.heap.size rfl (.tmp 4) (.tmp 9) 22 52 (.agg #[(.int .i64 0), (.string ⟨#[]⟩), (.int .i64 0), (.int .i64 0)]) 40 rfl Tryd.underlying22 info52 rfl (by decide) (by omega) v107 t106 (⟨1, (⟨#[]⟩ : ByteArray), wrap64 ((l0.length : Int) - 1), 0⟩ : S52) [.int .i64 1, .string (⟨#[]⟩ : ByteArray), .int .i64 (wrap64 ((l0.length : Int) - 1)), .int .i64 0] (fun _ => True) (fun _ => False) rfl rfl ?aP (fun _ hk => hk.elim) ?aF ?aO ?aB ?aS ?aL ?_; (case aP => exact k52_mkM _ _ _ (⟨1, (⟨#[]⟩ : ByteArray), wrap64 ((l0.length : Int) - 1), 0⟩ : S52)); (case aB => exact (by repeat (first | (with_reducible first | exact HB.out | apply below_alloc | apply pw_below_drewN | apply below_drew1) | exact HB.out))); (case aF => exact (fun _ _ => trivial)); (case aO => exact (by (with_reducible repeat (first | apply Kd.R_alloc | apply Kd.R_drewN | apply Kd.R_drew)); exact HO108.out)); (case aS => exact (below_size (by repeat (first | (with_reducible first | exact HB.out | apply below_alloc | apply pw_below_drewN | apply below_drew1) | exact HB.out)))); (case aL => have := LMc3.out; omega); intro v110 w5 ho hb hg hat; rw [← Ny109.out] at ho; have n0_ := Aside0.mk (hb); have n1_ := Aside0.mk (ho); clear HB; clear HO108; have HB := n0_; have HO111 := n1_; clear n0_ n1_; clear ho hb hg hat))
    go_ret
    exact ⟨_, by first | rfl | (simp [errW_none, errW_some] <;> rfl) | (simp [*, errW_none, errW_some] <;> rfl), by (with_reducible repeat (first | apply Kd.R_alloc | apply Kd.R_drewN | apply Kd.R_drew)); exact HO111.out, by repeat (first | (with_reducible first | exact HB.out | apply below_alloc | apply pw_below_drewN | apply below_drew1) | exact HB.out)⟩
  · rw [if_neg c3] at H
    exact absurd H (by simp)

end Go.Proofs.YtjndccjpjknbkaaDoor.PEx
