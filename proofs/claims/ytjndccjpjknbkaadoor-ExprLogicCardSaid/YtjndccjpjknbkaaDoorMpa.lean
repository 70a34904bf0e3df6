/- Printed parts, put together. -/
import Derived.Test.YtjndccjpjknbkaaDoorProg
import Derived.Below
import Derived.Deep.Draws
import Derived.Deep.AppendLies
import Derived.Maps.AppendAt
import Derived.OwnWalk
import Derived.Laws.BytesArg
import Derived.Laws.MakeOwn
import Derived.Laws.OwnMore
import Derived.Deep.OwnRows
import Derived.Tactics
import Derived.Lib.ConvBytes
import Derived.Laws.Slices
import Derived.WalkKit
import Derived.KernelRfl
import Derived.RowKit3
import Derived.Deep.LoopGhost
import Derived.Deep.QuietTactic
import Derived.BigQuiet
import Derived.WideLaws
import Derived.Deep.DeepCutAuto
import Derived.Deep.CutBlock
import Derived.Deep.RegionHeld3
import Derived.Laws.Rows
import Derived.Lib.AppendStr
import Derived.ArgAppend
import Derived.Laws.IdiomCopy
import Derived.OrdersHeld
import Derived.Laws.BitsLemmas
import Derived.RowKit
import Derived.Test.YtjndccjpjknbkaaDoorStrOrd
import Derived.Test.YtjndccjpjknbkaaDoorStrMore
import Derived.Test.YtjndccjpjknbkaaDoorExLib
import Derived.Test.YtjndccjpjknbkaaDoorExCheck
import Derived.Test.YtjndccjpjknbkaaDoorShelf
import Derived.Test.YtjndccjpjknbkaaDoorExPar
import Derived.Test.YtjndccjpjknbkaaDoorExNode
import Derived.Test.YtjndccjpjknbkaaDoorExRun
import Derived.Test.YtjndccjpjknbkaaDoorExAny
import Derived.Test.YtjndccjpjknbkaaDoorExBoth
import Derived.Test.YtjndccjpjknbkaaDoorWWords
import Derived.Test.YtjndccjpjknbkaaDoorWLast
import Derived.Test.YtjndccjpjknbkaaDoorWTab
import Derived.Test.YtjndccjpjknbkaaDoorWFour
import Derived.Test.YtjndccjpjknbkaaDoorWQPut
import Derived.Test.YtjndccjpjknbkaaDoorWApart
import Derived.Test.YtjndccjpjknbkaaDoorWArr
import Derived.Test.YtjndccjpjknbkaaDoorWZeros
import Derived.Test.YtjndccjpjknbkaaDoorWFoot
import Derived.Test.YtjndccjpjknbkaaDoorWKept
import Derived.Test.YtjndccjpjknbkaaDoorWShare
import Derived.Test.YtjndccjpjknbkaaDoorWN
import Derived.Test.YtjndccjpjknbkaaDoorWFootNe
import Derived.Test.YtjndccjpjknbkaaDoorWAt
import Derived.Test.YtjndccjpjknbkaaDoorWEqStruct
import Derived.Test.YtjndccjpjknbkaaDoorWRepsOne
import Derived.Test.YtjndccjpjknbkaaDoorWInv
import Derived.Test.YtjndccjpjknbkaaDoorWInvWords
import Derived.Test.YtjndccjpjknbkaaDoorWGuard
import Derived.Test.YtjndccjpjknbkaaDoorWNEv
import Derived.Test.YtjndccjpjknbkaaDoorWMore
-- by hprint.py (wip/): the kit's print over contracts proved by hand; a text of this session
namespace Go.Proofs.YtjndccjpjknbkaaDoor.PEx
open Go.RowKit Go.Proofs.YtjndccjpjknbkaaDoorW.PrintWords Go.Proofs.YtjndccjpjknbkaaDoorW.PrintLast Go.Proofs.YtjndccjpjknbkaaDoorW.PrintMore
attribute [local go_sem] max2_int min2_int max_two min_two max_three min_three max_four min_four   -- for this text's walks alone
set_option linter.unusedVariables false
set_option linter.unusedSimpArgs false



def errW : Option Int → Value
  | none => .nilIface
  | some c => .iface 0 (.int .i64 c)
theorem errW_none : errW none = .nilIface := rfl
theorem errW_some (c : Int) : errW (some c) = .iface 0 (.int .i64 c) := rfl

theorem info52 : (Tryd.prog.info? 52).map (fun i => (i.zero, i.size, i.bytes)) = some (some (.agg #[(.int .i64 0), (.string ⟨#[]⟩), (.int .i64 0), (.int .i64 0)]), 4, 40) := by kernel_rfl
theorem info61 : (Tryd.prog.info? 61).map (fun i => (i.zero, i.size, i.bytes)) = some (some (.agg #[(.int .i64 0), (.string ⟨#[]⟩), (.int .i64 0), (.int .i64 0)]), 4, 40) := by kernel_rfl
-- the values' own types
/-! #### struct type 52 -/
structure S52 where
  f0 : Int
  f1 : ByteArray
  f2 : Int
  f3 : Int
def z52 : S52 := ⟨(0 : Int), (⟨#[]⟩ : ByteArray), (0 : Int), (0 : Int)⟩
def k52 : Kd S52 := Kd.iso (Kd.pair (Kd.int .i64) (Kd.pair Kd.string (Kd.pair (Kd.int .i64) (Kd.int .i64)))) (fun x : S52 => (x.f0, x.f1, x.f2, x.f3))
theorem k52_open {w : World} {x : S52} {cs : List Value} (h : k52.K w x cs) : cs = [.int .i64 x.f0, .string x.f1, .int .i64 x.f2, .int .i64 x.f3] := by
  obtain ⟨_, _, rfl, rfl, ⟨_, _, rfl, rfl, ⟨_, _, rfl, rfl, rfl⟩⟩⟩ := h
  exact rfl
theorem k52_openM {w : World} {base : Nat} {ok : Nat → Prop} {x : S52} {cs : List Value} (h : k52.M w base ok x cs) : cs = [.int .i64 x.f0, .string x.f1, .int .i64 x.f2, .int .i64 x.f3] := by
  obtain ⟨_, _, rfl, rfl, ⟨_, _, rfl, rfl, ⟨_, _, rfl, rfl, rfl⟩⟩⟩ := h
  exact rfl
theorem k52_mk (w : World) (x : S52)  : k52.K w x [.int .i64 x.f0, .string x.f1, .int .i64 x.f2, .int .i64 x.f3] := ⟨[.int .i64 x.f0], [.string x.f1, .int .i64 x.f2, .int .i64 x.f3], rfl, rfl, ⟨[.string x.f1], [.int .i64 x.f2, .int .i64 x.f3], rfl, rfl, ⟨[.int .i64 x.f2], [.int .i64 x.f3], rfl, rfl, rfl⟩⟩⟩
theorem k52_mkM (w : World) (base : Nat) (ok : Nat → Prop) (x : S52)  : k52.M w base ok x [.int .i64 x.f0, .string x.f1, .int .i64 x.f2, .int .i64 x.f3] := ⟨[.int .i64 x.f0], [.string x.f1, .int .i64 x.f2, .int .i64 x.f3], rfl, rfl, ⟨[.string x.f1], [.int .i64 x.f2, .int .i64 x.f3], rfl, rfl, ⟨[.int .i64 x.f2], [.int .i64 x.f3], rfl, rfl, rfl⟩⟩⟩
def rd_T52 (xs : List S52) (i : Int) : S52 := xs.getD i.toNat z52
theorem at_T52 {w : World} {A : Option Addr} {n : Nat} {xs : List S52} (h : Kd.C k52 w A n xs) (i : Int) (h0 : 0 ≤ i) (h1 : i < n) : ∃ ad , A = some ad ∧ w.cell? (ad.add (i.toNat * 4)) = some (.int .i64 (rd_T52 xs i).f0) ∧ w.cell? ⟨(ad.add (i.toNat * 4)).block, (ad.add (i.toNat * 4)).off + 1, none⟩ = some (.string (rd_T52 xs i).f1) ∧ w.cell? ⟨(ad.add (i.toNat * 4)).block, (ad.add (i.toNat * 4)).off + 2, none⟩ = some (.int .i64 (rd_T52 xs i).f2) ∧ w.cell? ⟨(ad.add (i.toNat * 4)).block, (ad.add (i.toNat * 4)).off + 3, none⟩ = some (.int .i64 (rd_T52 xs i).f3) := by
  obtain ⟨ad, c, e, _, hK, hc0⟩ := Kd.C_get h z52 i h0 h1
  have hc : ∀ j u, c[j]? = some u → w.cell? (ad.add (i.toNat * 4 + j)) = some u := hc0
  obtain rfl := k52_open hK
  exact ⟨ad, e, hc 0 _ rfl, by rw [← add_field _ _ 1 (by omega)]; exact hc 1 _ rfl, by rw [← add_field _ _ 2 (by omega)]; exact hc 2 _ rfl, by rw [← add_field _ _ 3 (by omega)]; exact hc 3 _ rfl⟩

def rd_L3 (xs : List (List S52)) (i : Int) : (List S52) := xs.getD i.toNat ([] : List S52)
theorem at_L3 {w : World} {A : Option Addr} {n : Nat} {xs : List (List S52)} (h : Kd.C (Kd.slice 52 k52) w A n xs) (i : Int) (h0 : 0 ≤ i) (h1 : i < n) : ∃ ad A0 c0, A = some ad ∧ w.cell? (ad.add i.toNat) = some (.slice A0 (rd_L3 xs i).length c0) ∧ (rd_L3 xs i).length ≤ c0 ∧ k52.C w A0 (rd_L3 xs i).length (rd_L3 xs i) := by
  obtain ⟨ad, c, e, _, hK, hc0⟩ := Kd.C_get h ([] : List S52) i h0 h1
  have hc : ∀ j u, c[j]? = some u → w.cell? (ad.add (i.toNat * 1 + j)) = some u := hc0
  obtain ⟨A0, c0, rfl, l0, g0⟩ := hK
  exact ⟨ad, A0, c0, e, by have hq := hc 0 _ rfl; rwa [Nat.mul_one, Nat.add_zero] at hq, l0, g0⟩

/-! #### struct type 61 -/
structure S61 where
  f0 : Int
  f1 : ByteArray
  f2 : Int
  f3 : Int
def z61 : S61 := ⟨(0 : Int), (⟨#[]⟩ : ByteArray), (0 : Int), (0 : Int)⟩
def k61 : Kd S61 := Kd.iso (Kd.pair (Kd.int .i64) (Kd.pair Kd.string (Kd.pair (Kd.int .i64) (Kd.int .i64)))) (fun x : S61 => (x.f0, x.f1, x.f2, x.f3))
theorem k61_open {w : World} {x : S61} {cs : List Value} (h : k61.K w x cs) : cs = [.int .i64 x.f0, .string x.f1, .int .i64 x.f2, .int .i64 x.f3] := by
  obtain ⟨_, _, rfl, rfl, ⟨_, _, rfl, rfl, ⟨_, _, rfl, rfl, rfl⟩⟩⟩ := h
  exact rfl
theorem k61_openM {w : World} {base : Nat} {ok : Nat → Prop} {x : S61} {cs : List Value} (h : k61.M w base ok x cs) : cs = [.int .i64 x.f0, .string x.f1, .int .i64 x.f2, .int .i64 x.f3] := by
  obtain ⟨_, _, rfl, rfl, ⟨_, _, rfl, rfl, ⟨_, _, rfl, rfl, rfl⟩⟩⟩ := h
  exact rfl
theorem k61_mk (w : World) (x : S61)  : k61.K w x [.int .i64 x.f0, .string x.f1, .int .i64 x.f2, .int .i64 x.f3] := ⟨[.int .i64 x.f0], [.string x.f1, .int .i64 x.f2, .int .i64 x.f3], rfl, rfl, ⟨[.string x.f1], [.int .i64 x.f2, .int .i64 x.f3], rfl, rfl, ⟨[.int .i64 x.f2], [.int .i64 x.f3], rfl, rfl, rfl⟩⟩⟩
theorem k61_mkM (w : World) (base : Nat) (ok : Nat → Prop) (x : S61)  : k61.M w base ok x [.int .i64 x.f0, .string x.f1, .int .i64 x.f2, .int .i64 x.f3] := ⟨[.int .i64 x.f0], [.string x.f1, .int .i64 x.f2, .int .i64 x.f3], rfl, rfl, ⟨[.string x.f1], [.int .i64 x.f2, .int .i64 x.f3], rfl, rfl, ⟨[.int .i64 x.f2], [.int .i64 x.f3], rfl, rfl, rfl⟩⟩⟩
def rd_T61 (xs : List S61) (i : Int) : S61 := xs.getD i.toNat z61
theorem at_T61 {w : World} {A : Option Addr} {n : Nat} {xs : List S61} (h : Kd.C k61 w A n xs) (i : Int) (h0 : 0 ≤ i) (h1 : i < n) : ∃ ad , A = some ad ∧ w.cell? (ad.add (i.toNat * 4)) = some (.int .i64 (rd_T61 xs i).f0) ∧ w.cell? ⟨(ad.add (i.toNat * 4)).block, (ad.add (i.toNat * 4)).off + 1, none⟩ = some (.string (rd_T61 xs i).f1) ∧ w.cell? ⟨(ad.add (i.toNat * 4)).block, (ad.add (i.toNat * 4)).off + 2, none⟩ = some (.int .i64 (rd_T61 xs i).f2) ∧ w.cell? ⟨(ad.add (i.toNat * 4)).block, (ad.add (i.toNat * 4)).off + 3, none⟩ = some (.int .i64 (rd_T61 xs i).f3) := by
  obtain ⟨ad, c, e, _, hK, hc0⟩ := Kd.C_get h z61 i h0 h1
  have hc : ∀ j u, c[j]? = some u → w.cell? (ad.add (i.toNat * 4 + j)) = some u := hc0
  obtain rfl := k61_open hK
  exact ⟨ad, e, hc 0 _ rfl, by rw [← add_field _ _ 1 (by omega)]; exact hc 1 _ rfl, by rw [← add_field _ _ 2 (by omega)]; exact hc 2 _ rfl, by rw [← add_field _ _ 3 (by omega)]; exact hc 3 _ rfl⟩

def rd_L5 (xs : List (List ByteArray)) (i : Int) : (List ByteArray) := xs.getD i.toNat ([] : List ByteArray)
theorem at_L5 {w : World} {A : Option Addr} {n : Nat} {xs : List (List ByteArray)} (h : Kd.C (Kd.slice 9 Kd.string) w A n xs) (i : Int) (h0 : 0 ≤ i) (h1 : i < n) : ∃ ad A0 c0, A = some ad ∧ w.cell? (ad.add i.toNat) = some (.slice A0 (rd_L5 xs i).length c0) ∧ (rd_L5 xs i).length ≤ c0 ∧ Kd.string.C w A0 (rd_L5 xs i).length (rd_L5 xs i) := by
  obtain ⟨ad, c, e, _, hK, hc0⟩ := Kd.C_get h ([] : List ByteArray) i h0 h1
  have hc : ∀ j u, c[j]? = some u → w.cell? (ad.add (i.toNat * 1 + j)) = some u := hc0
  obtain ⟨A0, c0, rfl, l0, g0⟩ := hK
  exact ⟨ad, A0, c0, e, by have hq := hc 0 _ rfl; rwa [Nat.mul_one, Nat.add_zero] at hq, l0, g0⟩

def rd_L7 (xs : List (List S61)) (i : Int) : (List S61) := xs.getD i.toNat ([] : List S61)
theorem at_L7 {w : World} {A : Option Addr} {n : Nat} {xs : List (List S61)} (h : Kd.C (Kd.slice 61 k61) w A n xs) (i : Int) (h0 : 0 ≤ i) (h1 : i < n) : ∃ ad A0 c0, A = some ad ∧ w.cell? (ad.add i.toNat) = some (.slice A0 (rd_L7 xs i).length c0) ∧ (rd_L7 xs i).length ≤ c0 ∧ k61.C w A0 (rd_L7 xs i).length (rd_L7 xs i) := by
  obtain ⟨ad, c, e, _, hK, hc0⟩ := Kd.C_get h ([] : List S61) i h0 h1
  have hc : ∀ j u, c[j]? = some u → w.cell? (ad.add (i.toNat * 1 + j)) = some u := hc0
  obtain ⟨A0, c0, rfl, l0, g0⟩ := hK
  exact ⟨ad, A0, c0, e, by have hq := hc 0 _ rfl; rwa [Nat.mul_one, Nat.add_zero] at hq, l0, g0⟩

end Go.Proofs.YtjndccjpjknbkaaDoor.PEx

-- by hprint.py (wip/): the kit's print over contracts proved by hand; a text of this session
namespace Go.Proofs.YtjndccjpjknbkaaDoor.PEx
open Go.RowKit Go.Proofs.YtjndccjpjknbkaaDoorW.PrintWords Go.Proofs.YtjndccjpjknbkaaDoorW.PrintLast Go.Proofs.YtjndccjpjknbkaaDoorW.PrintMore
attribute [local go_sem] max2_int min2_int max_two min_two max_three min_three max_four min_four   -- for this text's walks alone
set_option linter.unusedVariables false
set_option linter.unusedSimpArgs false

/-! ### expr_Parse: function 19 -/
def expr_Parse.enc (x : S52) : ExNode.Nd := ⟨x.f0, x.f1, x.f2, x.f3⟩
def expr_Parse.dec (x : ExNode.Nd) : S52 := ⟨x.kind, x.tag, x.a, x.b⟩
def expr_Parse.f (a0 : ByteArray) : Option (List (S52) × Int) := if a0.size ≤ 1099511627776 then some ((ExPar.parseF a0).1.map expr_Parse.dec, (ExPar.parseF a0).2) else none
theorem expr_Parse.calls (a0 : ByteArray) (r1 : List (S52)) (r2 : Int) (w : World) (h : expr_Parse.f a0 = some (r1, r2)) :
    Calls Tryd.prog 19 #[.string a0] w fun e w' => ∃ v0_ : Value, e = .returned (.tuple #[v0_, .int .i64 r2]) ∧ Kd.R k52 52 w' w.heap.size (fun _ => True) v0_ r1 ∧ Below w.heap.size w w' := by
  unfold expr_Parse.f at h
  by_cases h1 : a0.size ≤ 1099511627776
  · rw [if_pos h1] at h
    have e1 := Option.some.inj h
    injection e1 with e1 e2
    subst e1 e2
    refine (ExPar.Parse_calls a0 h1 w).mono ?_
    rintro e w' ⟨v, rfl, ho, hb⟩
    refine ⟨v, rfl, RowsLib.R_of (f := fun x => ExNode.encN (expr_Parse.enc x)) (n := 4) (fun _ => rfl) rfl (fun ok x => k52_mkM _ _ _ x) ?_ (Nat.le_refl _), hb⟩
    have e1 : RowsLib.cellsL (fun x => ExNode.encN (expr_Parse.enc x)) ((ExPar.parseF a0).1.map expr_Parse.dec) = ExNode.cellsN (ExPar.parseF a0).1 := by
      unfold ExNode.cellsN RowsLib.cellsL
      rw [List.flatMap_map]
      rfl
    rw [e1, List.length_map]
    exact ho
  · rw [if_neg h1] at h
    cases h

end Go.Proofs.YtjndccjpjknbkaaDoor.PEx

-- by hprint.py (wip/): the kit's print over contracts proved by hand; a text of this session
namespace Go.Proofs.YtjndccjpjknbkaaDoor.PEx
open Go.RowKit Go.Proofs.YtjndccjpjknbkaaDoorW.PrintWords Go.Proofs.YtjndccjpjknbkaaDoorW.PrintLast Go.Proofs.YtjndccjpjknbkaaDoorW.PrintMore
attribute [local go_sem] max2_int min2_int max_two min_two max_three min_three max_four min_four   -- for this text's walks alone
set_option linter.unusedVariables false
set_option linter.unusedSimpArgs false

/-! ### graftbedlaw12_a: function 12 -/
def graftbedlaw12_a.f  : Option ((List (S52))) := (expr_Parse.f (⟨#[97]⟩ : ByteArray)).bind fun bt102 => (if bt102.2 = 0 then (if (bt102.1.length : Int) = 1 then (some bt102.1) else (some ([] : List (S52)))) else (some ([] : List (S52))))
set_option maxHeartbeats 8000000 in
set_option maxRecDepth 100000 in
theorem graftbedlaw12_a.calls  (r : List (S52)) (w : World) (h : graftbedlaw12_a.f  = some r) :
    Calls Tryd.prog 12 #[] w fun e w' => ∃ v0_ : Value, e = .returned (v0_) ∧ Kd.R k52 52 w' w.heap.size (fun _ => True) v0_ r ∧ Below w.heap.size w w' := by
  have HB := Aside0.mk (Below.refl w.heap.size w)
  have H : ((expr_Parse.f (⟨#[97]⟩ : ByteArray)).bind fun bt102 => (if bt102.2 = 0 then (if (bt102.1.length : Int) = 1 then (some bt102.1) else (some ([] : List (S52)))) else (some ([] : List (S52))))) = some r := h
  clear h
  replace H := Option.bind_eq_some_iff.mp H
  obtain ⟨⟨t102, t103⟩, A10, H⟩ := H
  replace H : (if t103 = 0 then (if (t102.length : Int) = 1 then (some t102) else (some ([] : List (S52)))) else (some ([] : List (S52)))) = some r := H
  have A1 := Aside0.mk A10
  clear A10
  by_cases c2 : t103 = 0
  · rw [if_pos c2] at H
    have c2b0 : (t103 == 0) = true := beq_iff_eq.mpr c2
    have c2b1 : (t103 != 0) = false := bne_eq_false_iff_eq.mpr c2
    clear c2
    by_cases c3 : (t102.length : Int) = 1
    · rw [if_pos c3] at H
      have c3b0 : ((t102.length : Int) == 1) = true := beq_iff_eq.mpr c3
      have c3b1 : ((t102.length : Int) != 1) = false := bne_eq_false_iff_eq.mpr c3
      clear c3
      obtain rfl := Option.some.inj H
      go_enter Tryd.func12, Tryd.ntmps12
      go_wp2_with (first | ((with_reducible refine gate_callee (f := 19) rfl ?_); refine goesL_ (some 4) rfl rfl Tryd.func19 (by kernel_rfl) rfl #[.string (⟨#[97]⟩ : ByteArray)] rfl (by (try simp only [List.map_toArray, List.map_cons, List.map_nil]); first | done | rfl | (simp only [List.length_drop, List.length_take]; rfl) | (simp only [ByteArray.size_extract, Nat.min_self]; done) | (simp only [ByteArray.size_append, StrMore.size_lit, List.length_cons, List.length_nil, Nat.zero_add, Nat.reduceAdd] <;> rfl)) ?_; (with_reducible refine (expr_Parse.calls (⟨#[97]⟩ : ByteArray) t102 t103 _ A1.out).mono ?_); rintro e w4 ⟨v104, rfl, ho0, hb⟩; refine ⟨_, rfl, ?_⟩; have n0_ := Aside0.mk (Kd.R_lower ho0 (below_size (by repeat (first | (with_reducible first | exact HB.out | apply below_alloc | apply pw_below_drewN | apply below_drew1) | exact HB.out)))); have n1_ := Aside0.mk (below_step (by repeat (first | (with_reducible first | exact HB.out | apply below_alloc | apply pw_below_drewN | apply below_drew1) | exact HB.out)) hb); clear HB; have HO105 := n0_; have HB := n1_; clear n0_ n1_; (try clear hb); (try clear hb2); (try clear hk); (try clear hi); (try clear ho0); obtain ⟨Ao5, co5, eo5⟩ := Kd.R_slice HO105.out; subst eo5))
      go_ret
      exact ⟨_, by first | rfl | (simp [errW_none, errW_some] <;> rfl) | (simp [*, errW_none, errW_some] <;> rfl), by (with_reducible repeat (first | apply Kd.R_alloc | apply Kd.R_drewN | apply Kd.R_drew)); exact HO105.out, by repeat (first | (with_reducible first | exact HB.out | apply below_alloc | apply pw_below_drewN | apply below_drew1) | exact HB.out)⟩
    · rw [if_neg c3] at H
      have c3b0 : ((t102.length : Int) == 1) = false := beq_eq_false_iff_ne.mpr c3
      have c3b1 : ((t102.length : Int) != 1) = true := bne_iff_ne.mpr c3
      obtain rfl := Option.some.inj H
      go_enter Tryd.func12, Tryd.ntmps12
      go_wp2_with (first | ((with_reducible refine gate_callee (f := 19) rfl ?_); refine goesL_ (some 4) rfl rfl Tryd.func19 (by kernel_rfl) rfl #[.string (⟨#[97]⟩ : ByteArray)] rfl (by (try simp only [List.map_toArray, List.map_cons, List.map_nil]); first | done | rfl | (simp only [List.length_drop, List.length_take]; rfl) | (simp only [ByteArray.size_extract, Nat.min_self]; done) | (simp only [ByteArray.size_append, StrMore.size_lit, List.length_cons, List.length_nil, Nat.zero_add, Nat.reduceAdd] <;> rfl)) ?_; (with_reducible refine (expr_Parse.calls (⟨#[97]⟩ : ByteArray) t102 t103 _ A1.out).mono ?_); rintro e w6 ⟨v104, rfl, ho0, hb⟩; refine ⟨_, rfl, ?_⟩; have n0_ := Aside0.mk (Kd.R_lower ho0 (below_size (by repeat (first | (with_reducible first | exact HB.out | apply below_alloc | apply pw_below_drewN | apply below_drew1) | exact HB.out)))); have n1_ := Aside0.mk (below_step (by repeat (first | (with_reducible first | exact HB.out | apply below_alloc | apply pw_below_drewN | apply below_drew1) | exact HB.out)) hb); clear HB; have HO105 := n0_; have HB := n1_; clear n0_ n1_; (try clear hb); (try clear hb2); (try clear hk); (try clear hi); (try clear ho0); obtain ⟨Ao7, co7, eo7⟩ := Kd.R_slice HO105.out; subst eo7))
      go_ret
      exact ⟨_, by first | rfl | (simp [errW_none, errW_some] <;> rfl) | (simp [*, errW_none, errW_some] <;> rfl), by first | exact Kd.R_nil _ _ _ _ _ | exact Kd.N_nil _ _ _ _ _ | exact Kd.V_nil _ _ _ _ _ | exact Kd.Q_nil _ _ _ _ _ | exact Kd.S_nil _ _ _ _ _, by repeat (first | (with_reducible first | exact HB.out | apply below_alloc | apply pw_below_drewN | apply below_drew1) | exact HB.out)⟩
  · rw [if_neg c2] at H
    have c2b0 : (t103 == 0) = false := beq_eq_false_iff_ne.mpr c2
    have c2b1 : (t103 != 0) = true := bne_iff_ne.mpr c2
    obtain rfl := Option.some.inj H
    go_enter Tryd.func12, Tryd.ntmps12
    go_wp2_with (first | ((with_reducible refine gate_callee (f := 19) rfl ?_); refine goesL_ (some 4) rfl rfl Tryd.func19 (by kernel_rfl) rfl #[.string (⟨#[97]⟩ : ByteArray)] rfl (by (try simp only [List.map_toArray, List.map_cons, List.map_nil]); first | done | rfl | (simp only [List.length_drop, List.length_take]; rfl) | (simp only [ByteArray.size_extract, Nat.min_self]; done) | (simp only [ByteArray.size_append, StrMore.size_lit, List.length_cons, List.length_nil, Nat.zero_add, Nat.reduceAdd] <;> rfl)) ?_; (with_reducible refine (expr_Parse.calls (⟨#[97]⟩ : ByteArray) t102 t103 _ A1.out).mono ?_); rintro e w8 ⟨v104, rfl, ho0, hb⟩; refine ⟨_, rfl, ?_⟩; have n0_ := Aside0.mk (Kd.R_lower ho0 (below_size (by repeat (first | (with_reducible first | exact HB.out | apply below_alloc | apply pw_below_drewN | apply below_drew1) | exact HB.out)))); have n1_ := Aside0.mk (below_step (by repeat (first | (with_reducible first | exact HB.out | apply below_alloc | apply pw_below_drewN | apply below_drew1) | exact HB.out)) hb); clear HB; have HO105 := n0_; have HB := n1_; clear n0_ n1_; (try clear hb); (try clear hb2); (try clear hk); (try clear hi); (try clear ho0)))
    go_ret
    exact ⟨_, by first | rfl | (simp [errW_none, errW_some] <;> rfl) | (simp [*, errW_none, errW_some] <;> rfl), by first | exact Kd.R_nil _ _ _ _ _ | exact Kd.N_nil _ _ _ _ _ | exact Kd.V_nil _ _ _ _ _ | exact Kd.Q_nil _ _ _ _ _ | exact Kd.S_nil _ _ _ _ _, by repeat (first | (with_reducible first | exact HB.out | apply below_alloc | apply pw_below_drewN | apply below_drew1) | exact HB.out)⟩

end Go.Proofs.YtjndccjpjknbkaaDoor.PEx

-- by hprint.py (wip/): the kit's print over contracts proved by hand; a text of this session
namespace Go.Proofs.YtjndccjpjknbkaaDoor.PEx
open Go.RowKit Go.Proofs.YtjndccjpjknbkaaDoorW.PrintWords Go.Proofs.YtjndccjpjknbkaaDoorW.PrintLast Go.Proofs.YtjndccjpjknbkaaDoorW.PrintMore
attribute [local go_sem] max2_int min2_int max_two min_two max_three min_three max_four min_four   -- for this text's walks alone
set_option linter.unusedVariables false
set_option linter.unusedSimpArgs false

/-! ### expr_Node: function 34 -/
def expr_Node.enc (x : S52) : ExNode.Nd := ⟨x.f0, x.f1, x.f2, x.f3⟩
def expr_Node.f (l0 : List (S52)) : Option (List (S52)) := if l0.length ≤ 3518437208880 then some l0 else none
theorem expr_Node.calls (A0 : Option Addr) (c0 : Nat) (l0 : List (S52)) (r : List (S52)) (w : World) (hr0 : Kd.C k52 w A0 l0.length l0) (hc0 : l0.length ≤ c0) (h : expr_Node.f l0 = some r) :
    Calls Tryd.prog 34 #[.slice A0 l0.length c0] w fun e w' => ∃ v0_ : Value, e = .returned (v0_) ∧ Kd.R k52 52 w' w.heap.size (fun _ => True) v0_ r ∧ Below w.heap.size w w' := by
  unfold expr_Node.f at h
  by_cases h1 : l0.length ≤ 3518437208880
  · rw [if_pos h1] at h
    obtain rfl := Option.some.inj h
    refine (ExNode.Clone_calls k52 rfl expr_Node.enc (fun h => k52_open h) A0 c0 l0 w hr0 h1).mono ?_
    rintro e w' ⟨v, rfl, ho, hb⟩
    refine ⟨v, rfl, RowsLib.R_of (f := fun x => ExNode.encN (expr_Node.enc x)) (n := 4) (fun _ => rfl) rfl (fun ok x => k52_mkM _ _ _ x) ?_ (Nat.le_refl _), hb⟩
    have e1 : ExNode.cellsN (l0.map expr_Node.enc) = RowsLib.cellsL (fun x => ExNode.encN (expr_Node.enc x)) l0 := by
      unfold ExNode.cellsN RowsLib.cellsL
      rw [List.flatMap_map]
    rw [← e1]; exact ho
  · rw [if_neg h1] at h
    cases h

end Go.Proofs.YtjndccjpjknbkaaDoor.PEx

-- by hprint.py (wip/): the kit's print over contracts proved by hand; a text of this session
namespace Go.Proofs.YtjndccjpjknbkaaDoor.PEx
open Go.RowKit Go.Proofs.YtjndccjpjknbkaaDoorW.PrintWords Go.Proofs.YtjndccjpjknbkaaDoorW.PrintLast Go.Proofs.YtjndccjpjknbkaaDoorW.PrintMore
attribute [local go_sem] max2_int min2_int max_two min_two max_three min_three max_four min_four   -- for this text's walks alone
set_option linter.unusedVariables false
set_option linter.unusedSimpArgs false

/-! ### expr_Not: function 13 -/
def expr_Not.f (l0 : List (S52)) : Option ((List (S52))) := (expr_Node.f l0).bind fun t106 => (if t106.length < 3518437208883 then (some (t106 ++ [(⟨1, (⟨#[]⟩ : ByteArray), wrap64 ((l0.length : Int) - 1), 0⟩ : S52)])) else (none))
set_option maxHeartbeats 8000000 in
set_option maxRecDepth 100000 in
theorem expr_Not.calls (A0 : Option Addr) (c0 : Nat) (l0 : List (S52)) (r : List (S52)) (w : World) (hr0 : Kd.C k52 w A0 l0.length l0) (hc0 : l0.length ≤ c0) (h : expr_Not.f l0 = some r) :
    Calls Tryd.prog 13 #[.slice A0 l0.length c0] w fun e w' => ∃ v0_ : Value, e = .returned (v0_) ∧ Kd.R k52 52 w' w.heap.size (fun _ => True) v0_ r ∧ Below w.heap.size w w' := by
  have hu52 := Tryd.underlying52
  have HR0 := Aside0.mk hr0
  have HC0 := Aside0.mk hc0
  clear hr0 hc0
  have HB := Aside0.mk (Below.refl w.heap.size w)
  have H : ((expr_Node.f l0).bind fun t106 => (if t106.length < 3518437208883 then (some (t106 ++ [(⟨1, (⟨#[]⟩ : ByteArray), wrap64 ((l0.length : Int) - 1), 0⟩ : S52)])) else (none))) = some r := h
  clear h
  replace H := Option.bind_eq_some_iff.mp H
  obtain ⟨t106, A20, H⟩ := H
  replace H : (if t106.length < 3518437208883 then (some (t106 ++ [(⟨1, (⟨#[]⟩ : ByteArray), wrap64 ((l0.length : Int) - 1), 0⟩ : S52)])) else (none)) = some r := H
  have A2 := Aside0.mk A20
  clear A20
  by_cases c3 : t106.length < 3518437208883
  · rw [if_pos c3] at H
    have LMc3 := Aside0.mk c3
    clear c3
    obtain ⟨y109, hy109⟩ : ∃ y_ : List (S52), y_ = (t106 ++ [(⟨1, (⟨#[]⟩ : ByteArray), wrap64 ((l0.length : Int) - 1), 0⟩ : S52)]) := ⟨_, rfl⟩
    replace H : (some y109) = some r := by first | (rw [hy109]; with_reducible exact H) | (have H2_ := (Option.bind_some _ _).symm.trans H; rw [hy109]; with_reducible exact H2_) | (have H2_ := (Option.bind_some _ _).symm.trans H; with_reducible exact H2_) | with_reducible exact H | (rw [hy109]; exact H) | exact H
    have Ny109 := Aside0.mk hy109
    clear hy109
    obtain rfl := Option.some.inj H
    go_enter Tryd.func13, Tryd.ntmps13
    go_wp2_with (first | ((with_reducible refine gate_callee (f := 34) rfl ?_); refine goesL_ (some 4) rfl rfl Tryd.func34 (by kernel_rfl) rfl #[.slice A0 l0.length c0] rfl (by (try simp only [List.map_toArray, List.map_cons, List.map_nil]); first | done | rfl | (simp only [List.length_drop, List.length_take]; rfl) | (simp only [ByteArray.size_extract, Nat.min_self]; done) | (simp only [ByteArray.size_append, StrMore.size_lit, List.length_cons, List.length_nil, Nat.zero_add, Nat.reduceAdd] <;> rfl)) ?_; (with_reducible refine (expr_Node.calls _ _ l0 t106 _ ?side1 ?side2 A2.out).mono ?_); (case side1 => repeat (first | exact HR0.out | (with_reducible refine Kd.C_alloc ?_ _) | (with_reducible refine Kd.C_drewN ?_ _) | (with_reducible refine Kd.C_drew ?_))); (case side2 => exact HC0.out); rintro e w4 ⟨v107, rfl, ho0, hb⟩; refine ⟨_, rfl, ?_⟩; have n0_ := Aside0.mk (Kd.R_lower ho0 (below_size (by repeat (first | (with_reducible first | exact HB.out | apply below_alloc | apply pw_below_drewN | apply below_drew1) | exact HB.out)))); have n1_ := Aside0.mk (below_step (by repeat (first | (with_reducible first | exact HB.out | apply below_alloc | apply pw_below_drewN | apply below_drew1) | exact HB.out)) hb); clear HB; have HO108 := n0_; have HB := n1_; clear n0_ n1_; (try clear hb); (try clear hb2); (try clear hk); (try clear hi); (try clear ho0)) | ((with_reducible refine gate_builtin (b := .append) (xs := #[.tmp 4, .tmp 9]) rfl ?_); at_builtin; refine Kd.R_append k52 (w0 := w) w.heap.size rfl (.tmp 4) (.tmp 9) 22 52 (.agg #[(.int .i64 0), (.string ⟨#[]⟩), (.int .i64 0), (.int .i64 0)]) 40 rfl Tryd.underlying22 info52 rfl (by decide) (by omega) v107 t106 (⟨1, (⟨#[]⟩ : ByteArray), wrap64 ((l0.length : Int) - 1), 0⟩ : S52) [.int .i64 1, .string (⟨#[]⟩ : ByteArray), .int .i64 (wrap64 ((l0.length : Int) - 1)), .int .i64 0] (fun _ => True) (fun _ => False) rfl rfl ?aP (fun _ hk => hk.elim) ?aF ?aO ?aB ?aS ?aL ?_; (case aP => exact k52_mkM _ _ _ (⟨1, (⟨#[]⟩ : ByteArray), wrap64 ((l0.length : Int) - 1), 0⟩ : S52)); (case aB => exact (by repeat (first | (with_reducible first | exact HB.out | apply below_alloc | apply pw_below_drewN | apply below_drew1) | exact HB.out))); (case aF => exact (fun _ _ => trivial)); (case aO => exact (by (with_reducible repeat (first | apply Kd.R_alloc | apply Kd.R_drewN | apply Kd.R_drew)); exact HO108.out)); (case aS => exact (below_size (by repeat (first | (with_reducible first | exact HB.out | apply below_alloc | apply pw_below_drewN | apply below_drew1) | exact HB.out)))); (case aL => have := LMc3.out; omega); intro v110 w5 ho hb hg hat; rw [← Ny109.out] at ho; have n0_ := Aside0.mk (hb); have n1_ := Aside0.mk (ho); clear HB; clear HO108; have HB := n0_; have HO111 := n1_; clear n0_ n1_; clear ho hb hg hat))
    go_ret
    exact ⟨_, by first | rfl | (simp [errW_none, errW_some] <;> rfl) | (simp [*, errW_none, errW_some] <;> rfl), by (with_reducible repeat (first | apply Kd.R_alloc | apply Kd.R_drewN | apply Kd.R_drew)); exact HO111.out, by repeat (first | (with_reducible first | exact HB.out | apply below_alloc | apply pw_below_drewN | apply below_drew1) | exact HB.out)⟩
  · rw [if_neg c3] at H
    exact absurd H (by simp)

end Go.Proofs.YtjndccjpjknbkaaDoor.PEx

-- by hprint.py (wip/): the kit's print over contracts proved by hand; a text of this session
namespace Go.Proofs.YtjndccjpjknbkaaDoor.PEx
open Go.RowKit Go.Proofs.YtjndccjpjknbkaaDoorW.PrintWords Go.Proofs.YtjndccjpjknbkaaDoorW.PrintLast Go.Proofs.YtjndccjpjknbkaaDoorW.PrintMore
attribute [local go_sem] max2_int min2_int max_two min_two max_three min_three max_four min_four   -- for this text's walks alone
set_option linter.unusedVariables false
set_option linter.unusedSimpArgs false

/-! ### expr_Check: function 14 -/
def expr_Check.enc (x : S52) : ExNode.Nd := ⟨x.f0, x.f1, x.f2, x.f3⟩
def expr_Check.tagsOk (l0 : List (S52)) : Bool := l0.all fun x => decide (x.f1.size ≤ 4611686018427387904)
def expr_Check.f (l0 : List (S52)) : Option Int := if expr_Check.tagsOk l0 = true then some (ExCheck.checkF (l0.map expr_Check.enc)) else none
theorem expr_Check.tags_of {l0 : List (S52)} (h : expr_Check.tagsOk l0 = true) : ∀ x ∈ l0, (expr_Check.enc x).tag.size ≤ 4611686018427387904 := fun x hx => of_decide_eq_true (List.all_eq_true.1 h x hx)
theorem expr_Check.calls (A0 : Option Addr) (c0 : Nat) (l0 : List (S52)) (r : Int) (w : World) (hr0 : Kd.C k52 w A0 l0.length l0) (hc0 : l0.length ≤ c0) (h : expr_Check.f l0 = some r) :
    Calls Tryd.prog 14 #[.slice A0 l0.length c0] w fun e w' => e = .returned (.int .i64 r) ∧ Below w.heap.size w w' := by
  unfold expr_Check.f at h
  by_cases h1 : expr_Check.tagsOk l0 = true
  · rw [if_pos h1] at h
    obtain rfl := Option.some.inj h
    exact ExCheck.Check_calls k52 rfl expr_Check.enc (fun h => k52_open h) A0 c0 l0 w hr0 (expr_Check.tags_of h1)
  · rw [if_neg h1] at h
    cases h

end Go.Proofs.YtjndccjpjknbkaaDoor.PEx

-- by hprint.py (wip/): the kit's print over contracts proved by hand; a text of this session
namespace Go.Proofs.YtjndccjpjknbkaaDoor.PEx
open Go.RowKit Go.Proofs.YtjndccjpjknbkaaDoorW.PrintWords Go.Proofs.YtjndccjpjknbkaaDoorW.PrintLast Go.Proofs.YtjndccjpjknbkaaDoorW.PrintMore
attribute [local go_sem] max2_int min2_int max_two min_two max_three min_three max_four min_four   -- for this text's walks alone
set_option linter.unusedVariables false
set_option linter.unusedSimpArgs false

/-! ### graftbedlaw12_theirs: function 16 -/
def graftbedlaw12_theirs.l0 : Nat → List (S52) → List (S61) → Int → Option ((List (S61)))
  | 0, _, _, _ => none
  | k + 1, x0, x3, x4 => if x4 < (x0.length : Int) then (if 0 ≤ x4 then (if x3.length < 3518437208883 then (graftbedlaw12_theirs.l0 k x0 (x3 ++ [(⟨(rd_T52 x0 x4).f0, (rd_T52 x0 x4).f1, (rd_T52 x0 x4).f2, (rd_T52 x0 x4).f3⟩ : S61)]) (wrap64 (x4 + 1))) else (none)) else (none)) else (some x3)
def graftbedlaw12_theirs.f (k : Nat) (l0 : List (S52)) : Option ((List (S61))) := graftbedlaw12_theirs.l0 k l0 (([] : List (S61))) 0
theorem graftbedlaw12_theirs.mono_l : ∀ k, (∀ y0 y1 y2, LeO (graftbedlaw12_theirs.l0 k y0 y1 y2) (graftbedlaw12_theirs.l0 (k + 1) y0 y1 y2))
  | 0 => fun _ _ _ r h => by simp [graftbedlaw12_theirs.l0] at h
  | k + 1 => by
    have ih0 := graftbedlaw12_theirs.mono_l k
    · intro y0 y1 y2
      unfold graftbedlaw12_theirs.l0
      repeat' first
      | (with_reducible exact ih0 _ _ _)
      | (with_reducible exact LeO.refl _)
      | (with_reducible exact LeO.none _)
      | (with_reducible refine LeO.ite ?_ ?_)
      | (with_reducible refine LeO.bind ?_ (fun _ => ?_))
      | exact ih0 _ _ _
      | exact LeO.none _
      | refine LeO.ite ?_ ?_
      | refine LeO.bind ?_ (fun _ => ?_)
theorem graftbedlaw12_theirs.mono : ∀ a0 k, LeO (graftbedlaw12_theirs.f k a0) (graftbedlaw12_theirs.f (k + 1) a0) := by
  intro a0 k
  have ih0 := graftbedlaw12_theirs.mono_l k
  unfold graftbedlaw12_theirs.f
  repeat' first
      | (with_reducible exact ih0 _ _ _)
      | (with_reducible exact LeO.refl _)
      | (with_reducible exact LeO.none _)
      | (with_reducible refine LeO.ite ?_ ?_)
      | (with_reducible refine LeO.bind ?_ (fun _ => ?_))
      | exact ih0 _ _ _
      | exact LeO.none _
      | refine LeO.ite ?_ ?_
      | refine LeO.bind ?_ (fun _ => ?_)
set_option maxHeartbeats 8000000 in
set_option maxRecDepth 100000 in
theorem graftbedlaw12_theirs.calls (k : Nat) (A0 : Option Addr) (c0 : Nat) (l0 : List (S52)) (r : List (S61)) (w : World) (hr0 : Kd.C k52 w A0 l0.length l0) (hc0 : l0.length ≤ c0) (h : graftbedlaw12_theirs.f k l0 = some r) :
    Calls Tryd.prog 16 #[.slice A0 l0.length c0] w fun e w' => ∃ v0_ : Value, e = .returned (v0_) ∧ Kd.R k61 61 w' w.heap.size (fun _ => True) v0_ r ∧ Below w.heap.size w w' := by
  have hu52 := Tryd.underlying52
  have HR0 := Aside0.mk hr0
  have HC0 := Aside0.mk hc0
  clear hr0 hc0
  have HB := Aside0.mk (Below.refl w.heap.size w)
  have H : (graftbedlaw12_theirs.l0 k l0 (([] : List (S61))) 0) = some r := h
  clear h
  obtain ⟨y124, hy124⟩ : ∃ y_ : List (S61), y_ = (([] : List (S61))) := ⟨_, rfl⟩
  replace H : (graftbedlaw12_theirs.l0 k l0 y124 0) = some r := by first | (rw [hy124]; with_reducible exact H) | (have H2_ := (Option.bind_some _ _).symm.trans H; rw [hy124]; with_reducible exact H2_) | (have H2_ := (Option.bind_some _ _).symm.trans H; with_reducible exact H2_) | with_reducible exact H | (rw [hy124]; exact H) | exact H
  have Ny124 := Aside0.mk hy124
  clear hy124
  have H' := Aside0.mk H
  clear H
  go_enter Tryd.func16, Tryd.ntmps16
  go_wp2_with (first | ((with_reducible refine gate_dst (N := 5) rfl ?_); refine Kd.R_lit k61 _ 61 ?hg (N := 5) ?hd (xs := ([] : List (S61))) (inner := []) (ok := fun _ => True) (okp := fun _ => True) ?hr ?hp (fun _ hk => hk) trivial (Below.refl _ _) (Nat.le_refl _) (by simp) ?_; (case hd => rfl); (case hg => rfl); (case hr => first | (go_simp; done) | (go_simp; rfl)); (case hp => exact (Reps.none _ _)); intro v125 w2 ho3 hb hg_ hnew_; clear hg_ hnew_; (first | rw [← Ny124.out] at ho3 | (simp only [Int.reduceToNat] at ho3; rw [← Ny124.out] at ho3)); have n0_ := Aside0.mk (Kd.R_lower ho3 (below_size (by repeat (first | (with_reducible first | exact HB.out | apply below_alloc | apply pw_below_drewN | apply below_drew1) | exact HB.out)))); have n1_ := Aside0.mk (below_step (by repeat (first | (with_reducible first | exact HB.out | apply below_alloc | apply pw_below_drewN | apply below_drew1) | exact HB.out)) hb); clear HB; have HO126 := n0_; have HB := n1_; clear n0_ n1_; clear hb ho3))
  go_loopg [3, 4] k (fun kq v3 v4 w' => ∃ (x3_1 : List (S61)) (x4_1 : Int), v4 = .int .i64 x4_1 ∧ Aside0 (graftbedlaw12_theirs.l0 kq l0 x3_1 x4_1 = some r) ∧ Aside0 (kq ≤ k) ∧ Aside0 (Kd.R k61 61 w' w.heap.size (fun _ => True) v3 x3_1) ∧ Aside0 (Below w.heap.size w w'))
  case atStart => exact ⟨(y124), (0), (by first | rfl | (simp; done) | (simp [*]; done)), H', ⟨Nat.le_refl _⟩, ⟨by (with_reducible repeat (first | apply Kd.R_alloc | apply Kd.R_drewN | apply Kd.R_drew)); first | exact HO126.out | (have e_ := HO126.out; simp only [StrOrd.own_any] at e_ ⊢; exact e_)⟩, ⟨by repeat (first | (with_reducible first | exact HB.out | apply below_alloc | apply pw_below_drewN | apply below_drew1) | exact HB.out)⟩⟩
  case round =>
    clear H'
    try clear c1
    try clear p2
    obtain ⟨x3_1, x4_1, rfl, HA, HK1, HO_3, HB⟩ := hrel
    cases gk with
    | zero => exact absurd HA.out (by simp [graftbedlaw12_theirs.l0])
    | succ k1 =>
      have H := HA.out
      clear HA
      simp only [graftbedlaw12_theirs.l0] at H
      by_cases c4 : x4_1 < (l0.length : Int)
      · rw [if_pos c4] at H
        have c4b0 : decide (x4_1 < (l0.length : Int)) = true := decide_eq_true c4
        clear c4
        by_cases c5 : 0 ≤ x4_1
        · rw [if_pos c5] at H
          have c5b0 : decide (0 ≤ x4_1) = true := decide_eq_true c5
          clear c5
          by_cases c6 : x3_1.length < 3518437208883
          · rw [if_pos c6] at H
            have LMc6 := Aside0.mk c6
            clear c6
            obtain ⟨y128, hy128⟩ : ∃ y_ : List (S61), y_ = (x3_1 ++ [(⟨(rd_T52 l0 x4_1).f0, (rd_T52 l0 x4_1).f1, (rd_T52 l0 x4_1).f2, (rd_T52 l0 x4_1).f3⟩ : S61)]) := ⟨_, rfl⟩
            replace H : (graftbedlaw12_theirs.l0 k1 l0 y128 (wrap64 (x4_1 + 1))) = some r := by first | (rw [hy128]; with_reducible exact H) | (have H2_ := (Option.bind_some _ _).symm.trans H; rw [hy128]; with_reducible exact H2_) | (have H2_ := (Option.bind_some _ _).symm.trans H; with_reducible exact H2_) | with_reducible exact H | (rw [hy128]; exact H) | exact H
            have Ny128 := Aside0.mk hy128
            clear hy128
            have H' := Aside0.mk H
            clear H
            have p127 : 0 ≤ (x4_1 : Int) := of_decide_eq_true (by first | (with_reducible assumption) | assumption)
            have q127 : x4_1 < (l0.length : Int) := of_decide_eq_true (by first | (with_reducible assumption) | assumption)
            obtain ⟨ad127, e127, hx127_0, hx127_1, hx127_2, hx127_3⟩ := at_T52 HR0.out x4_1 p127 q127
            cases e127
            replace hx127_0 := (HB.out.cell (World.block_lt_of_cell? w _ hx127_0)).trans hx127_0
            replace hx127_1 := (HB.out.cell (World.block_lt_of_cell? w _ hx127_1)).trans hx127_1
            replace hx127_2 := (HB.out.cell (World.block_lt_of_cell? w _ hx127_2)).trans hx127_2
            replace hx127_3 := (HB.out.cell (World.block_lt_of_cell? w _ hx127_3)).trans hx127_3
            replace p127 := eq_true p127
            replace q127 := eq_true q127
            go_wp2_with (first | ((with_reducible refine gate_builtin (b := .append) (xs := #[.tmp 12, .tmp 17]) rfl ?_); at_builtin; refine Kd.R_append k61 (w0 := w) w.heap.size rfl (.tmp 12) (.tmp 17) 30 61 (.agg #[(.int .i64 0), (.string ⟨#[]⟩), (.int .i64 0), (.int .i64 0)]) 40 rfl Tryd.underlying30 info61 rfl (by decide) (by omega) u3 x3_1 (⟨(rd_T52 l0 x4_1).f0, (rd_T52 l0 x4_1).f1, (rd_T52 l0 x4_1).f2, (rd_T52 l0 x4_1).f3⟩ : S61) [.int .i64 ((rd_T52 l0 x4_1).f0), .string ((rd_T52 l0 x4_1).f1), .int .i64 ((rd_T52 l0 x4_1).f2), .int .i64 ((rd_T52 l0 x4_1).f3)] (fun _ => True) (fun _ => False) rfl rfl ?aP (fun _ hk => hk.elim) ?aF ?aO ?aB ?aS ?aL ?_; (case aP => exact k61_mkM _ _ _ (⟨(rd_T52 l0 x4_1).f0, (rd_T52 l0 x4_1).f1, (rd_T52 l0 x4_1).f2, (rd_T52 l0 x4_1).f3⟩ : S61)); (case aB => exact (by repeat (first | (with_reducible first | exact HB.out | apply below_alloc | apply pw_below_drewN | apply below_drew1) | exact HB.out))); (case aF => exact (fun _ _ => trivial)); (case aO => exact (by (with_reducible repeat (first | apply Kd.R_alloc | apply Kd.R_drewN | apply Kd.R_drew)); exact HO_3.out)); (case aS => exact (below_size (by repeat (first | (with_reducible first | exact HB.out | apply below_alloc | apply pw_below_drewN | apply below_drew1) | exact HB.out)))); (case aL => have := LMc6.out; omega); intro v129 w7 ho hb hg hat; rw [← Ny128.out] at ho; have n0_ := Aside0.mk (hb); have n1_ := Aside0.mk (ho); clear HB; clear HO_3; have HB := n0_; have HO130 := n1_; clear n0_ n1_; clear ho hb hg hat))
            go_roundg k1
            case measure => have := HK1.out; omega
            case rel => exact ⟨(y128), (wrap64 (x4_1 + 1)), (by first | rfl | (simp; done) | (simp [*]; done)), H', ⟨by have := HK1.out; omega⟩, ⟨by (with_reducible repeat (first | apply Kd.R_alloc | apply Kd.R_drewN | apply Kd.R_drew)); first | exact HO130.out | (have e_ := HO130.out; simp only [StrOrd.own_any] at e_ ⊢; exact e_)⟩, ⟨by repeat (first | (with_reducible first | exact HB.out | apply below_alloc | apply pw_below_drewN | apply below_drew1) | exact HB.out)⟩⟩
          · rw [if_neg c6] at H
            exact absurd H (by simp)
        · rw [if_neg c5] at H
          exact absurd H (by simp)
      · rw [if_neg c4] at H
        have c4b0 : decide (x4_1 < (l0.length : Int)) = false := decide_eq_false c4
        clear c4
        obtain rfl := Option.some.inj H
        go_wp2
        go_ret
        exact ⟨_, by first | rfl | (simp [errW_none, errW_some] <;> rfl) | (simp [*, errW_none, errW_some] <;> rfl), by (with_reducible repeat (first | apply Kd.R_alloc | apply Kd.R_drewN | apply Kd.R_drew)); exact HO_3.out, by repeat (first | (with_reducible first | exact HB.out | apply below_alloc | apply pw_below_drewN | apply below_drew1) | exact HB.out)⟩

end Go.Proofs.YtjndccjpjknbkaaDoor.PEx

-- by hprint.py (wip/): the kit's print over contracts proved by hand; a text of this session
namespace Go.Proofs.YtjndccjpjknbkaaDoor.PEx
open Go.RowKit Go.Proofs.YtjndccjpjknbkaaDoorW.PrintWords Go.Proofs.YtjndccjpjknbkaaDoorW.PrintLast Go.Proofs.YtjndccjpjknbkaaDoorW.PrintMore
attribute [local go_sem] max2_int min2_int max_two min_two max_three min_three max_four min_four   -- for this text's walks alone
set_option linter.unusedVariables false
set_option linter.unusedSimpArgs false

/-! ### expr_Eval: function 17 -/
def expr_Eval.enc (x : S52) : ExNode.Nd := ⟨x.f0, x.f1, x.f2, x.f3⟩
def expr_Eval.tagsOk (l0 : List (S52)) : Bool := l0.all fun x => decide (x.f1.size ≤ 4611686018427387904)
def expr_Eval.f (l0 : List (S52)) (l1 : List ByteArray) : Option Bool := if expr_Eval.tagsOk l0 = true then some (ExSem.evalF (l0.map expr_Eval.enc) l1) else none
theorem expr_Eval.tags_of {l0 : List (S52)} (h : expr_Eval.tagsOk l0 = true) : ∀ x ∈ l0, (expr_Eval.enc x).tag.size ≤ 4611686018427387904 := fun x hx => of_decide_eq_true (List.all_eq_true.1 h x hx)
theorem expr_Eval.calls (A0 : Option Addr) (c0 : Nat) (l0 : List (S52)) (A1 : Option Addr) (c1 : Nat) (l1 : List ByteArray) (r : Bool) (w : World) (hr0 : Kd.C k52 w A0 l0.length l0) (hc0 : l0.length ≤ c0) (hr1 : Kd.C Kd.string w A1 l1.length l1) (hc1 : l1.length ≤ c1) (h : expr_Eval.f l0 l1 = some r) :
    Calls Tryd.prog 17 #[.slice A0 l0.length c0, .slice A1 l1.length c1] w fun e w' => e = .returned (.bool r) ∧ Below w.heap.size w w' := by
  unfold expr_Eval.f at h
  by_cases h1 : expr_Eval.tagsOk l0 = true
  · rw [if_pos h1] at h
    obtain rfl := Option.some.inj h
    exact ExRun.Eval_calls k52 rfl expr_Eval.enc (fun h => k52_open h) A0 A1 c0 c1 l0 l1 w hr0 hr1 (expr_Eval.tags_of h1)
  · rw [if_neg h1] at h
    cases h

end Go.Proofs.YtjndccjpjknbkaaDoor.PEx

-- by hprint.py (wip/): the kit's print over contracts proved by hand; a text of this session
namespace Go.Proofs.YtjndccjpjknbkaaDoor.PEx
open Go.RowKit Go.Proofs.YtjndccjpjknbkaaDoorW.PrintWords Go.Proofs.YtjndccjpjknbkaaDoorW.PrintLast Go.Proofs.YtjndccjpjknbkaaDoorW.PrintMore
attribute [local go_sem] max2_int min2_int max_two min_two max_three min_three max_four min_four   -- for this text's walks alone
set_option linter.unusedVariables false
set_option linter.unusedSimpArgs false

/-! ### expr_both: function 44 -/
def expr_both.enc (x : S52) : ExNode.Nd := ⟨x.f0, x.f1, x.f2, x.f3⟩
def expr_both.dec (x : ExNode.Nd) : S52 := ⟨x.kind, x.tag, x.a, x.b⟩
def expr_both.f (a0 : Int) (l1 : List (S52)) (l2 : List (S52)) : Option (List (S52)) :=
  if l1.length ≤ 1000000 then (if l2.length ≤ 1000000 then some ((ExBoth.bothN a0 (l1.map expr_both.enc) (l2.map expr_both.enc)).map expr_both.dec) else none) else none
theorem expr_both.calls (a0 : Int) (A1 : Option Addr) (c1 : Nat) (l1 : List (S52)) (A2 : Option Addr) (c2 : Nat) (l2 : List (S52)) (r : List (S52)) (w : World) (hr1 : Kd.C k52 w A1 l1.length l1) (hc1 : l1.length ≤ c1) (hr2 : Kd.C k52 w A2 l2.length l2) (hc2 : l2.length ≤ c2) (h : expr_both.f a0 l1 l2 = some r) :
    Calls Tryd.prog 44 #[.int .i64 a0, .slice A1 l1.length c1, .slice A2 l2.length c2] w fun e w' => ∃ v0_ : Value, e = .returned (v0_) ∧ Kd.R k52 52 w' w.heap.size (fun _ => True) v0_ r ∧ Below w.heap.size w w' := by
  unfold expr_both.f at h
  by_cases h1 : l1.length ≤ 1000000
  · rw [if_pos h1] at h
    by_cases h2 : l2.length ≤ 1000000
    · rw [if_pos h2] at h
      obtain rfl := Option.some.inj h
      refine (ExBoth.both_calls k52 rfl expr_both.enc (fun h => k52_open h) k52 rfl expr_both.enc (fun h => k52_open h) a0 A1 A2 c1 c2 l1 l2 w hr1 hr2 h1 h2).mono ?_
      rintro e w' ⟨v, rfl, ho, hb⟩
      refine ⟨v, rfl, RowsLib.R_of (f := fun x => ExNode.encN (expr_both.enc x)) (n := 4) (fun _ => rfl) rfl (fun ok x => k52_mkM _ _ _ x) ?_ (Nat.le_refl _), hb⟩
      have e1 : ∀ l : List ExNode.Nd, RowsLib.cellsL (fun x => ExNode.encN (expr_both.enc x)) (l.map expr_both.dec) = ExNode.cellsN l := fun l => by
        unfold ExNode.cellsN RowsLib.cellsL
        rw [List.flatMap_map]
        rfl
      rw [e1, List.length_map]
      exact ho
    · rw [if_neg h2] at h
      cases h
  · rw [if_neg h1] at h
    cases h

end Go.Proofs.YtjndccjpjknbkaaDoor.PEx

-- by hprint.py (wip/): the kit's print over contracts proved by hand; a text of this session
namespace Go.Proofs.YtjndccjpjknbkaaDoor.PEx
open Go.RowKit Go.Proofs.YtjndccjpjknbkaaDoorW.PrintWords Go.Proofs.YtjndccjpjknbkaaDoorW.PrintLast Go.Proofs.YtjndccjpjknbkaaDoorW.PrintMore
attribute [local go_sem] max2_int min2_int max_two min_two max_three min_three max_four min_four   -- for this text's walks alone
set_option linter.unusedVariables false
set_option linter.unusedSimpArgs false

/-! ### expr_And: function 20 -/
def expr_And.f (l0 : List (S52)) (l1 : List (S52)) : Option ((List (S52))) := (expr_both.f 2 l0 l1).bind fun t169 => (some t169)
set_option maxHeartbeats 8000000 in
set_option maxRecDepth 100000 in
theorem expr_And.calls (A0 : Option Addr) (c0 : Nat) (l0 : List (S52)) (A1 : Option Addr) (c1 : Nat) (l1 : List (S52)) (r : List (S52)) (w : World) (hr0 : Kd.C k52 w A0 l0.length l0) (hc0 : l0.length ≤ c0) (hr1 : Kd.C k52 w A1 l1.length l1) (hc1 : l1.length ≤ c1) (h : expr_And.f l0 l1 = some r) :
    Calls Tryd.prog 20 #[.slice A0 l0.length c0, .slice A1 l1.length c1] w fun e w' => ∃ v0_ : Value, e = .returned (v0_) ∧ Kd.R k52 52 w' w.heap.size (fun _ => True) v0_ r ∧ Below w.heap.size w w' := by
  have HR0 := Aside0.mk hr0
  have HC0 := Aside0.mk hc0
  clear hr0 hc0
  have HR1 := Aside0.mk hr1
  have HC1 := Aside0.mk hc1
  clear hr1 hc1
  have HB := Aside0.mk (Below.refl w.heap.size w)
  have H : ((expr_both.f 2 l0 l1).bind fun t169 => (some t169)) = some r := h
  clear h
  replace H := Option.bind_eq_some_iff.mp H
  obtain ⟨t169, A30, H⟩ := H
  replace H : (some t169) = some r := H
  have A3 := Aside0.mk A30
  clear A30
  obtain rfl := Option.some.inj H
  go_enter Tryd.func20, Tryd.ntmps20
  go_wp2_with (first | ((with_reducible refine gate_callee (f := 44) rfl ?_); refine goesL_ (some 7) rfl rfl Tryd.func44 (by kernel_rfl) rfl #[.int .i64 2, .slice A0 l0.length c0, .slice A1 l1.length c1] rfl (by (try simp only [List.map_toArray, List.map_cons, List.map_nil]); first | done | rfl | (simp only [List.length_drop, List.length_take]; rfl) | (simp only [ByteArray.size_extract, Nat.min_self]; done) | (simp only [ByteArray.size_append, StrMore.size_lit, List.length_cons, List.length_nil, Nat.zero_add, Nat.reduceAdd] <;> rfl)) ?_; (with_reducible refine (expr_both.calls 2 _ _ l0 _ _ l1 t169 _ ?side1 ?side2 ?side3 ?side4 A3.out).mono ?_); (case side1 => repeat (first | exact HR0.out | (with_reducible refine Kd.C_alloc ?_ _) | (with_reducible refine Kd.C_drewN ?_ _) | (with_reducible refine Kd.C_drew ?_))); (case side2 => exact HC0.out); (case side3 => repeat (first | exact HR1.out | (with_reducible refine Kd.C_alloc ?_ _) | (with_reducible refine Kd.C_drewN ?_ _) | (with_reducible refine Kd.C_drew ?_))); (case side4 => exact HC1.out); rintro e w4 ⟨v170, rfl, ho0, hb⟩; refine ⟨_, rfl, ?_⟩; have n0_ := Aside0.mk (Kd.R_lower ho0 (below_size (by repeat (first | (with_reducible first | exact HB.out | apply below_alloc | apply pw_below_drewN | apply below_drew1) | exact HB.out)))); have n1_ := Aside0.mk (below_step (by repeat (first | (with_reducible first | exact HB.out | apply below_alloc | apply pw_below_drewN | apply below_drew1) | exact HB.out)) hb); clear HB; have HO171 := n0_; have HB := n1_; clear n0_ n1_; (try clear hb); (try clear hb2); (try clear hk); (try clear hi); (try clear ho0)))
  go_ret
  exact ⟨_, by first | rfl | (simp [errW_none, errW_some] <;> rfl) | (simp [*, errW_none, errW_some] <;> rfl), by (with_reducible repeat (first | apply Kd.R_alloc | apply Kd.R_drewN | apply Kd.R_drew)); exact HO171.out, by repeat (first | (with_reducible first | exact HB.out | apply below_alloc | apply pw_below_drewN | apply below_drew1) | exact HB.out)⟩

end Go.Proofs.YtjndccjpjknbkaaDoor.PEx

-- by hprint.py (wip/): the kit's print over contracts proved by hand; a text of this session
namespace Go.Proofs.YtjndccjpjknbkaaDoor.PEx
open Go.RowKit Go.Proofs.YtjndccjpjknbkaaDoorW.PrintWords Go.Proofs.YtjndccjpjknbkaaDoorW.PrintLast Go.Proofs.YtjndccjpjknbkaaDoorW.PrintMore
attribute [local go_sem] max2_int min2_int max_two min_two max_three min_three max_four min_four   -- for this text's walks alone
set_option linter.unusedVariables false
set_option linter.unusedSimpArgs false

/-! ### expr_Or: function 21 -/
def expr_Or.f (l0 : List (S52)) (l1 : List (S52)) : Option ((List (S52))) := (expr_both.f 3 l0 l1).bind fun t172 => (some t172)
set_option maxHeartbeats 8000000 in
set_option maxRecDepth 100000 in
theorem expr_Or.calls (A0 : Option Addr) (c0 : Nat) (l0 : List (S52)) (A1 : Option Addr) (c1 : Nat) (l1 : List (S52)) (r : List (S52)) (w : World) (hr0 : Kd.C k52 w A0 l0.length l0) (hc0 : l0.length ≤ c0) (hr1 : Kd.C k52 w A1 l1.length l1) (hc1 : l1.length ≤ c1) (h : expr_Or.f l0 l1 = some r) :
    Calls Tryd.prog 21 #[.slice A0 l0.length c0, .slice A1 l1.length c1] w fun e w' => ∃ v0_ : Value, e = .returned (v0_) ∧ Kd.R k52 52 w' w.heap.size (fun _ => True) v0_ r ∧ Below w.heap.size w w' := by
  have HR0 := Aside0.mk hr0
  have HC0 := Aside0.mk hc0
  clear hr0 hc0
  have HR1 := Aside0.mk hr1
  have HC1 := Aside0.mk hc1
  clear hr1 hc1
  have HB := Aside0.mk (Below.refl w.heap.size w)
  have H : ((expr_both.f 3 l0 l1).bind fun t172 => (some t172)) = some r := h
  clear h
  replace H := Option.bind_eq_some_iff.mp H
  obtain ⟨t172, A30, H⟩ := H
  replace H : (some t172) = some r := H
  have A3 := Aside0.mk A30
  clear A30
  obtain rfl := Option.some.inj H
  go_enter Tryd.func21, Tryd.ntmps21
  go_wp2_with (first | ((with_reducible refine gate_callee (f := 44) rfl ?_); refine goesL_ (some 7) rfl rfl Tryd.func44 (by kernel_rfl) rfl #[.int .i64 3, .slice A0 l0.length c0, .slice A1 l1.length c1] rfl (by (try simp only [List.map_toArray, List.map_cons, List.map_nil]); first | done | rfl | (simp only [List.length_drop, List.length_take]; rfl) | (simp only [ByteArray.size_extract, Nat.min_self]; done) | (simp only [ByteArray.size_append, StrMore.size_lit, List.length_cons, List.length_nil, Nat.zero_add, Nat.reduceAdd] <;> rfl)) ?_; (with_reducible refine (expr_both.calls 3 _ _ l0 _ _ l1 t172 _ ?side1 ?side2 ?side3 ?side4 A3.out).mono ?_); (case side1 => repeat (first | exact HR0.out | (with_reducible refine Kd.C_alloc ?_ _) | (with_reducible refine Kd.C_drewN ?_ _) | (with_reducible refine Kd.C_drew ?_))); (case side2 => exact HC0.out); (case side3 => repeat (first | exact HR1.out | (with_reducible refine Kd.C_alloc ?_ _) | (with_reducible refine Kd.C_drewN ?_ _) | (with_reducible refine Kd.C_drew ?_))); (case side4 => exact HC1.out); rintro e w4 ⟨v173, rfl, ho0, hb⟩; refine ⟨_, rfl, ?_⟩; have n0_ := Aside0.mk (Kd.R_lower ho0 (below_size (by repeat (first | (with_reducible first | exact HB.out | apply below_alloc | apply pw_below_drewN | apply below_drew1) | exact HB.out)))); have n1_ := Aside0.mk (below_step (by repeat (first | (with_reducible first | exact HB.out | apply below_alloc | apply pw_below_drewN | apply below_drew1) | exact HB.out)) hb); clear HB; have HO174 := n0_; have HB := n1_; clear n0_ n1_; (try clear hb); (try clear hb2); (try clear hk); (try clear hi); (try clear ho0)))
  go_ret
  exact ⟨_, by first | rfl | (simp [errW_none, errW_some] <;> rfl) | (simp [*, errW_none, errW_some] <;> rfl), by (with_reducible repeat (first | apply Kd.R_alloc | apply Kd.R_drewN | apply Kd.R_drew)); exact HO174.out, by repeat (first | (with_reducible first | exact HB.out | apply below_alloc | apply pw_below_drewN | apply below_drew1) | exact HB.out)⟩

end Go.Proofs.YtjndccjpjknbkaaDoor.PEx

-- by hprint.py (wip/): the kit's print over contracts proved by hand; a text of this session
namespace Go.Proofs.YtjndccjpjknbkaaDoor.PEx
open Go.RowKit Go.Proofs.YtjndccjpjknbkaaDoorW.PrintWords Go.Proofs.YtjndccjpjknbkaaDoorW.PrintLast Go.Proofs.YtjndccjpjknbkaaDoorW.PrintMore
attribute [local go_sem] max2_int min2_int max_two min_two max_three min_three max_four min_four   -- for this text's walks alone
set_option linter.unusedVariables false
set_option linter.unusedSimpArgs false

theorem eqA61 (d : Nat) (w : World) (x0 y0 : Int) (x1 y1 : ByteArray) (x2 y2 : Int) (x3 y3 : Int) :
    (Op.equalIn (d + 2) 61 (.agg #[.int .i64 x0, .string x1, .int .i64 x2, .int .i64 x3]) (.agg #[.int .i64 y0, .string y1, .int .i64 y2, .int .i64 y3])).run Tryd.prog w = .ok (x0 == y0 && (x1.toList == y1.toList && (x2 == y2 && (x3 == y3)))) w := by
  refine eqA_of Tryd.underlying61 (by kernel_rfl) ?_
  refine eqf_cons (by rfl) (by go_simp; rfl) (by go_simp; rfl) (by go_simp) ?_
  refine eqf_cons (by rfl) (by go_simp; rfl) (by go_simp; rfl) (by go_simp) ?_
  refine eqf_cons (by rfl) (by go_simp; rfl) (by go_simp; rfl) (by go_simp) ?_
  exact eqf_last (by rfl) (by go_simp; rfl) (by go_simp; rfl) (by go_simp)
end Go.Proofs.YtjndccjpjknbkaaDoor.PEx

-- by hprint.py (wip/): the kit's print over contracts proved by hand; a text of this session
namespace Go.Proofs.YtjndccjpjknbkaaDoor.PEx
open Go.RowKit Go.Proofs.YtjndccjpjknbkaaDoorW.PrintWords Go.Proofs.YtjndccjpjknbkaaDoorW.PrintLast Go.Proofs.YtjndccjpjknbkaaDoorW.PrintMore
attribute [local go_sem] max2_int min2_int max_two min_two max_three min_three max_four min_four   -- for this text's walks alone
set_option linter.unusedVariables false
set_option linter.unusedSimpArgs false

attribute [local go_sem high] eqA61
/-! ### graftbedref12_Same: function 22 -/
def graftbedref12_Same.l0 : Nat → List (S61) → List (S61) → Int → Option (Bool)
  | 0, _, _, _ => none
  | k + 1, x0, x1, x5 => if x5 < (x0.length : Int) then (if 0 ≤ x5 then (if x5 < (x1.length : Int) then (if (!(((rd_T61 x0 x5).f0) == ((rd_T61 x1 x5).f0)) || (!((((rd_T61 x0 x5).f1).toList) == (((rd_T61 x1 x5).f1).toList)) || (!(((rd_T61 x0 x5).f2) == ((rd_T61 x1 x5).f2)) || (!(((rd_T61 x0 x5).f3) == ((rd_T61 x1 x5).f3)))))) = true then (some false) else (graftbedref12_Same.l0 k x0 x1 (wrap64 (x5 + 1)))) else (none)) else (none)) else (some true)
def graftbedref12_Same.f (k : Nat) (l0 : List (S61)) (l1 : List (S61)) : Option (Bool) := if (l0.length : Int) = (l1.length : Int) then (graftbedref12_Same.l0 k l0 l1 0) else (some false)
theorem graftbedref12_Same.mono_l : ∀ k, (∀ y0 y1 y2, LeO (graftbedref12_Same.l0 k y0 y1 y2) (graftbedref12_Same.l0 (k + 1) y0 y1 y2))
  | 0 => fun _ _ _ r h => by simp [graftbedref12_Same.l0] at h
  | k + 1 => by
    have ih0 := graftbedref12_Same.mono_l k
    · intro y0 y1 y2
      unfold graftbedref12_Same.l0
      repeat' first
      | (with_reducible exact ih0 _ _ _)
      | (with_reducible exact LeO.refl _)
      | (with_reducible exact LeO.none _)
      | (with_reducible refine LeO.ite ?_ ?_)
      | (with_reducible refine LeO.bind ?_ (fun _ => ?_))
      | exact ih0 _ _ _
      | exact LeO.none _
      | refine LeO.ite ?_ ?_
      | refine LeO.bind ?_ (fun _ => ?_)
theorem graftbedref12_Same.mono : ∀ a0 a1 k, LeO (graftbedref12_Same.f k a0 a1) (graftbedref12_Same.f (k + 1) a0 a1) := by
  intro a0 a1 k
  have ih0 := graftbedref12_Same.mono_l k
  unfold graftbedref12_Same.f
  repeat' first
      | (with_reducible exact ih0 _ _ _)
      | (with_reducible exact LeO.refl _)
      | (with_reducible exact LeO.none _)
      | (with_reducible refine LeO.ite ?_ ?_)
      | (with_reducible refine LeO.bind ?_ (fun _ => ?_))
      | exact ih0 _ _ _
      | exact LeO.none _
      | refine LeO.ite ?_ ?_
      | refine LeO.bind ?_ (fun _ => ?_)
set_option maxHeartbeats 8000000 in
set_option maxRecDepth 100000 in
theorem graftbedref12_Same.calls (k : Nat) (A0 : Option Addr) (c0 : Nat) (l0 : List (S61)) (A1 : Option Addr) (c1 : Nat) (l1 : List (S61)) (r : Bool) (w : World) (hr0 : Kd.C k61 w A0 l0.length l0) (hc0 : l0.length ≤ c0) (hr1 : Kd.C k61 w A1 l1.length l1) (hc1 : l1.length ≤ c1) (h : graftbedref12_Same.f k l0 l1 = some r) :
    Calls Tryd.prog 22 #[.slice A0 l0.length c0, .slice A1 l1.length c1] w fun e w' => e = .returned (.bool r) ∧ Drawn0 w w' := by
  have hu61 := Tryd.underlying61
  have HR0 := Aside0.mk hr0
  have HC0 := Aside0.mk hc0
  clear hr0 hc0
  have HR1 := Aside0.mk hr1
  have HC1 := Aside0.mk hc1
  clear hr1 hc1
  have H : (if (l0.length : Int) = (l1.length : Int) then (graftbedref12_Same.l0 k l0 l1 0) else (some false)) = some r := h
  clear h
  by_cases c3 : (l0.length : Int) = (l1.length : Int)
  · rw [if_pos c3] at H
    have c3b0 : ((l0.length : Int) == (l1.length : Int)) = true := beq_iff_eq.mpr c3
    have c3b1 : ((l0.length : Int) != (l1.length : Int)) = false := bne_eq_false_iff_eq.mpr c3
    have c3b2 : (l0.length == l1.length) = true := by first | simpa using c3 | (simp at c3 ⊢; omega)
    clear c3
    have H' := Aside0.mk H
    clear H
    go_enter Tryd.func22, Tryd.ntmps22
    go_wp2
    repeat (go_quiet (fail); try go_wp2)
    go_loopg [5] k (fun kq v5 w' => ∃ (x5_1 : Int), v5 = .int .i64 x5_1 ∧ Aside0 (graftbedref12_Same.l0 kq l0 l1 x5_1 = some r) ∧ Aside0 (kq ≤ k) ∧ Drawn0 w w')
    case atStart => exact ⟨(0), (by first | rfl | (simp; done) | (simp [*]; done)), H', ⟨Nat.le_refl _⟩, by repeat (first | exact Drawn0.refl _ | apply Drawn0.step)⟩
    case round =>
      clear H'
      try clear c1
      try clear c2
      try clear p2
      try clear c3
      try clear c3b0
      try clear c3b1
      try clear c3b2
      obtain ⟨x5_1, rfl, HA, HK1, ⟨m1, rfl⟩⟩ := hrel
      cases gk with
      | zero => exact absurd HA.out (by simp [graftbedref12_Same.l0])
      | succ k1 =>
        have H := HA.out
        clear HA
        simp only [graftbedref12_Same.l0] at H
        by_cases c4 : x5_1 < (l0.length : Int)
        · rw [if_pos c4] at H
          have c4b0 : decide (x5_1 < (l0.length : Int)) = true := decide_eq_true c4
          clear c4
          by_cases c5 : 0 ≤ x5_1
          · rw [if_pos c5] at H
            have c5b0 : decide (0 ≤ x5_1) = true := decide_eq_true c5
            clear c5
            by_cases c6 : x5_1 < (l1.length : Int)
            · rw [if_pos c6] at H
              have c6b0 : decide (x5_1 < (l1.length : Int)) = true := decide_eq_true c6
              clear c6
              by_cases c7 : (!(((rd_T61 l0 x5_1).f0) == ((rd_T61 l1 x5_1).f0)) || (!((((rd_T61 l0 x5_1).f1).toList) == (((rd_T61 l1 x5_1).f1).toList)) || (!(((rd_T61 l0 x5_1).f2) == ((rd_T61 l1 x5_1).f2)) || (!(((rd_T61 l0 x5_1).f3) == ((rd_T61 l1 x5_1).f3)))))) = true
              · rw [if_pos c7] at H
                have c7b0 : (!(((rd_T61 l0 x5_1).f0) == ((rd_T61 l1 x5_1).f0)) || (!((((rd_T61 l0 x5_1).f1).toList) == (((rd_T61 l1 x5_1).f1).toList)) || (!(((rd_T61 l0 x5_1).f2) == ((rd_T61 l1 x5_1).f2)) || (!(((rd_T61 l0 x5_1).f3) == ((rd_T61 l1 x5_1).f3)))))) = true := c7
                clear c7
                obtain rfl := Option.some.inj H
                have p175 : 0 ≤ (x5_1 : Int) := of_decide_eq_true (by first | (with_reducible assumption) | assumption)
                have q175 : x5_1 < (l0.length : Int) := of_decide_eq_true (by first | (with_reducible assumption) | assumption)
                obtain ⟨ad175, e175, hx175_0, hx175_1, hx175_2, hx175_3⟩ := at_T61 HR0.out x5_1 p175 q175
                cases e175
                replace p175 := eq_true p175
                replace q175 := eq_true q175
                have p176 : 0 ≤ (x5_1 : Int) := of_decide_eq_true (by first | (with_reducible assumption) | assumption)
                have q176 : x5_1 < (l1.length : Int) := of_decide_eq_true (by first | (with_reducible assumption) | assumption)
                obtain ⟨ad176, e176, hx176_0, hx176_1, hx176_2, hx176_3⟩ := at_T61 HR1.out x5_1 p176 q176
                cases e176
                replace p176 := eq_true p176
                replace q176 := eq_true q176
                go_wp2
                repeat (go_quiet (fail); try go_wp2)
                go_ret
                exact ⟨by first | rfl | (simp; done) | (simp [*]; done) | (have ne_ : ∀ l : List UInt8, (l != []) = !l.isEmpty := (fun l => by cases l <;> rfl); simp [ne_]; done), by repeat (first | exact Drawn0.refl _ | apply Drawn0.step)⟩
              · rw [if_neg c7] at H
                have c7b0 : (!(((rd_T61 l0 x5_1).f0) == ((rd_T61 l1 x5_1).f0)) || (!((((rd_T61 l0 x5_1).f1).toList) == (((rd_T61 l1 x5_1).f1).toList)) || (!(((rd_T61 l0 x5_1).f2) == ((rd_T61 l1 x5_1).f2)) || (!(((rd_T61 l0 x5_1).f3) == ((rd_T61 l1 x5_1).f3)))))) = false := by simpa using c7
                clear c7
                have H' := Aside0.mk H
                clear H
                have p175 : 0 ≤ (x5_1 : Int) := of_decide_eq_true (by first | (with_reducible assumption) | assumption)
                have q175 : x5_1 < (l0.length : Int) := of_decide_eq_true (by first | (with_reducible assumption) | assumption)
                obtain ⟨ad175, e175, hx175_0, hx175_1, hx175_2, hx175_3⟩ := at_T61 HR0.out x5_1 p175 q175
                cases e175
                replace p175 := eq_true p175
                replace q175 := eq_true q175
                have p176 : 0 ≤ (x5_1 : Int) := of_decide_eq_true (by first | (with_reducible assumption) | assumption)
                have q176 : x5_1 < (l1.length : Int) := of_decide_eq_true (by first | (with_reducible assumption) | assumption)
                obtain ⟨ad176, e176, hx176_0, hx176_1, hx176_2, hx176_3⟩ := at_T61 HR1.out x5_1 p176 q176
                cases e176
                replace p176 := eq_true p176
                replace q176 := eq_true q176
                go_wp2
                repeat (go_quiet (fail); try go_wp2)
                go_roundg k1
                case measure => have := HK1.out; omega
                case rel => exact ⟨(wrap64 (x5_1 + 1)), (by first | rfl | (simp; done) | (simp [*]; done)), H', ⟨by have := HK1.out; omega⟩, by repeat (first | exact Drawn0.refl _ | apply Drawn0.step)⟩
            · rw [if_neg c6] at H
              exact absurd H (by simp)
          · rw [if_neg c5] at H
            exact absurd H (by simp)
        · rw [if_neg c4] at H
          have c4b0 : decide (x5_1 < (l0.length : Int)) = false := decide_eq_false c4
          clear c4
          obtain rfl := Option.some.inj H
          go_wp2
          repeat (go_quiet (fail); try go_wp2)
          go_ret
          exact ⟨by first | rfl | (simp; done) | (simp [*]; done) | (have ne_ : ∀ l : List UInt8, (l != []) = !l.isEmpty := (fun l => by cases l <;> rfl); simp [ne_]; done), by repeat (first | exact Drawn0.refl _ | apply Drawn0.step)⟩
  · rw [if_neg c3] at H
    have c3b0 : ((l0.length : Int) == (l1.length : Int)) = false := beq_eq_false_iff_ne.mpr c3
    have c3b1 : ((l0.length : Int) != (l1.length : Int)) = true := bne_iff_ne.mpr c3
    have c3b2 : (l0.length == l1.length) = false := by first | simpa using c3 | (simp at c3 ⊢; omega)
    obtain rfl := Option.some.inj H
    go_enter Tryd.func22, Tryd.ntmps22
    go_wp2
    repeat (go_quiet (fail); try go_wp2)
    go_ret
    exact ⟨by first | rfl | (simp; done) | (simp [*]; done) | (have ne_ : ∀ l : List UInt8, (l != []) = !l.isEmpty := (fun l => by cases l <;> rfl); simp [ne_]; done), by repeat (first | exact Drawn0.refl _ | apply Drawn0.step)⟩

end Go.Proofs.YtjndccjpjknbkaaDoor.PEx

-- by hprint.py (wip/): the kit's print over contracts proved by hand; a text of this session
namespace Go.Proofs.YtjndccjpjknbkaaDoor.PEx
open Go.RowKit Go.Proofs.YtjndccjpjknbkaaDoorW.PrintWords Go.Proofs.YtjndccjpjknbkaaDoorW.PrintLast Go.Proofs.YtjndccjpjknbkaaDoorW.PrintMore
attribute [local go_sem] max2_int min2_int max_two min_two max_three min_three max_four min_four   -- for this text's walks alone
set_option linter.unusedVariables false
set_option linter.unusedSimpArgs false

/-! ### graftbedref12_moved: function 68 -/
def graftbedref12_moved.enc (x : S61) : ExNode.Nd := ⟨x.f0, x.f1, x.f2, x.f3⟩
def graftbedref12_moved.dec (x : ExNode.Nd) : S61 := ⟨x.kind, x.tag, x.a, x.b⟩
def graftbedref12_moved.f (l0 : List (S61)) (a1 : Int) : Option (List (S61)) :=
  if l0.length ≤ 1000000 then some (((l0.map graftbedref12_moved.enc).map (ExBoth.shiftN a1)).map graftbedref12_moved.dec) else none
theorem graftbedref12_moved.calls (A0 : Option Addr) (c0 : Nat) (l0 : List (S61)) (a1 : Int) (r : List (S61)) (w : World) (hr0 : Kd.C k61 w A0 l0.length l0) (hc0 : l0.length ≤ c0) (h : graftbedref12_moved.f l0 a1 = some r) :
    Calls Tryd.prog 68 #[.slice A0 l0.length c0, .int .i64 a1] w fun e w' => ∃ v0_ : Value, e = .returned (v0_) ∧ Kd.R k61 61 w' w.heap.size (fun _ => True) v0_ r ∧ Below w.heap.size w w' := by
  unfold graftbedref12_moved.f at h
  by_cases h1 : l0.length ≤ 1000000
  · rw [if_pos h1] at h
    obtain rfl := Option.some.inj h
    refine (ExBoth.moved_calls k61 rfl graftbedref12_moved.enc (fun h => k61_open h) a1 A0 c0 l0 w hr0 h1).mono ?_
    rintro e w' ⟨v, rfl, ho, hb⟩
    refine ⟨v, rfl, RowsLib.R_of (f := fun x => ExNode.encN (graftbedref12_moved.enc x)) (n := 4) (fun _ => rfl) rfl (fun ok x => k61_mkM _ _ _ x) ?_ (Nat.le_refl _), hb⟩
    have e1 : ∀ l : List ExNode.Nd, RowsLib.cellsL (fun x => ExNode.encN (graftbedref12_moved.enc x)) (l.map graftbedref12_moved.dec) = ExNode.cellsN l := fun l => by
      unfold ExNode.cellsN RowsLib.cellsL
      rw [List.flatMap_map]
      rfl
    rw [e1, List.length_map]
    exact ho
  · rw [if_neg h1] at h
    cases h

end Go.Proofs.YtjndccjpjknbkaaDoor.PEx

-- by hprint.py (wip/): the kit's print over contracts proved by hand; a text of this session
namespace Go.Proofs.YtjndccjpjknbkaaDoor.PEx
open Go.RowKit Go.Proofs.YtjndccjpjknbkaaDoorW.PrintWords Go.Proofs.YtjndccjpjknbkaaDoorW.PrintLast Go.Proofs.YtjndccjpjknbkaaDoorW.PrintMore
attribute [local go_sem] max2_int min2_int max_two min_two max_three min_three max_four min_four   -- for this text's walks alone
set_option linter.unusedVariables false
set_option linter.unusedSimpArgs false

/-! ### graftbedref12_both: function 45 -/
def graftbedref12_both.f (a0 : Int) (l1 : List (S61)) (l2 : List (S61)) : Option ((List (S61))) := (some (([] : List (S61)) : List (S61))).bind fun y177 => (if y177.length + l1.length < 3518437208883 then ((some (y177 ++ l1 : List (S61))).bind fun y180 => ((graftbedref12_moved.f l2 (l1.length : Int)).bind fun t183 => (if y180.length + t183.length < 3518437208883 then ((some (y180 ++ t183 : List (S61))).bind fun y186 => (if y186.length < 3518437208883 then (some (y186 ++ [(⟨a0, (⟨#[]⟩ : ByteArray), wrap64 ((l1.length : Int) - 1), wrap64 ((wrap64 ((l1.length : Int) + (l2.length : Int))) - 1)⟩ : S61)])) else (none))) else (none)))) else (none))
set_option maxHeartbeats 8000000 in
set_option maxRecDepth 100000 in
theorem graftbedref12_both.calls (a0 : Int) (A1 : Option Addr) (c1 : Nat) (l1 : List (S61)) (A2 : Option Addr) (c2 : Nat) (l2 : List (S61)) (r : List (S61)) (w : World) (hr1 : Kd.C k61 w A1 l1.length l1) (hc1 : l1.length ≤ c1) (hr2 : Kd.C k61 w A2 l2.length l2) (hc2 : l2.length ≤ c2) (h : graftbedref12_both.f a0 l1 l2 = some r) :
    Calls Tryd.prog 45 #[.int .i64 a0, .slice A1 l1.length c1, .slice A2 l2.length c2] w fun e w' => ∃ v0_ : Value, e = .returned (v0_) ∧ Kd.R k61 61 w' w.heap.size (fun _ => True) v0_ r ∧ Below w.heap.size w w' := by
  have hu61 := Tryd.underlying61
  have HR1 := Aside0.mk hr1
  have HC1 := Aside0.mk hc1
  clear hr1 hc1
  have HR2 := Aside0.mk hr2
  have HC2 := Aside0.mk hc2
  clear hr2 hc2
  have HB := Aside0.mk (Below.refl w.heap.size w)
  have H : ((some (([] : List (S61)) : List (S61))).bind fun y177 => (if y177.length + l1.length < 3518437208883 then ((some (y177 ++ l1 : List (S61))).bind fun y180 => ((graftbedref12_moved.f l2 (l1.length : Int)).bind fun t183 => (if y180.length + t183.length < 3518437208883 then ((some (y180 ++ t183 : List (S61))).bind fun y186 => (if y186.length < 3518437208883 then (some (y186 ++ [(⟨a0, (⟨#[]⟩ : ByteArray), wrap64 ((l1.length : Int) - 1), wrap64 ((wrap64 ((l1.length : Int) + (l2.length : Int))) - 1)⟩ : S61)])) else (none))) else (none)))) else (none))) = some r := h
  clear h
  obtain ⟨y177, hy177⟩ : ∃ y_ : List (S61), y_ = (([] : List (S61))) := ⟨_, rfl⟩
  replace H : (if y177.length + l1.length < 3518437208883 then ((some (y177 ++ l1 : List (S61))).bind fun y180 => ((graftbedref12_moved.f l2 (l1.length : Int)).bind fun t183 => (if y180.length + t183.length < 3518437208883 then ((some (y180 ++ t183 : List (S61))).bind fun y186 => (if y186.length < 3518437208883 then (some (y186 ++ [(⟨a0, (⟨#[]⟩ : ByteArray), wrap64 ((l1.length : Int) - 1), wrap64 ((wrap64 ((l1.length : Int) + (l2.length : Int))) - 1)⟩ : S61)])) else (none))) else (none)))) else (none)) = some r := by first | (rw [hy177]; with_reducible exact H) | (have H2_ := (Option.bind_some _ _).symm.trans H; rw [hy177]; with_reducible exact H2_) | (have H2_ := (Option.bind_some _ _).symm.trans H; with_reducible exact H2_) | with_reducible exact H | (rw [hy177]; exact H) | exact H
  have Ny177 := Aside0.mk hy177
  clear hy177
  by_cases c4 : y177.length + l1.length < 3518437208883
  · rw [if_pos c4] at H
    have LMc4 := Aside0.mk c4
    clear c4
    obtain ⟨y180, hy180⟩ : ∃ y_ : List (S61), y_ = (y177 ++ l1) := ⟨_, rfl⟩
    replace H : ((graftbedref12_moved.f l2 (l1.length : Int)).bind fun t183 => (if y180.length + t183.length < 3518437208883 then ((some (y180 ++ t183 : List (S61))).bind fun y186 => (if y186.length < 3518437208883 then (some (y186 ++ [(⟨a0, (⟨#[]⟩ : ByteArray), wrap64 ((l1.length : Int) - 1), wrap64 ((wrap64 ((l1.length : Int) + (l2.length : Int))) - 1)⟩ : S61)])) else (none))) else (none))) = some r := by first | (rw [hy180]; with_reducible exact H) | (have H2_ := (Option.bind_some _ _).symm.trans H; rw [hy180]; with_reducible exact H2_) | (have H2_ := (Option.bind_some _ _).symm.trans H; with_reducible exact H2_) | with_reducible exact H | (rw [hy180]; exact H) | exact H
    have Ny180 := Aside0.mk hy180
    clear hy180
    replace H := Option.bind_eq_some_iff.mp H
    obtain ⟨t183, A50, H⟩ := H
    replace H : (if y180.length + t183.length < 3518437208883 then ((some (y180 ++ t183 : List (S61))).bind fun y186 => (if y186.length < 3518437208883 then (some (y186 ++ [(⟨a0, (⟨#[]⟩ : ByteArray), wrap64 ((l1.length : Int) - 1), wrap64 ((wrap64 ((l1.length : Int) + (l2.length : Int))) - 1)⟩ : S61)])) else (none))) else (none)) = some r := H
    have A5 := Aside0.mk A50
    clear A50
    by_cases c6 : y180.length + t183.length < 3518437208883
    · rw [if_pos c6] at H
      have LMc6 := Aside0.mk c6
      clear c6
      obtain ⟨y186, hy186⟩ : ∃ y_ : List (S61), y_ = (y180 ++ t183) := ⟨_, rfl⟩
      replace H : (if y186.length < 3518437208883 then (some (y186 ++ [(⟨a0, (⟨#[]⟩ : ByteArray), wrap64 ((l1.length : Int) - 1), wrap64 ((wrap64 ((l1.length : Int) + (l2.length : Int))) - 1)⟩ : S61)])) else (none)) = some r := by first | (rw [hy186]; with_reducible exact H) | (have H2_ := (Option.bind_some _ _).symm.trans H; rw [hy186]; with_reducible exact H2_) | (have H2_ := (Option.bind_some _ _).symm.trans H; with_reducible exact H2_) | with_reducible exact H | (rw [hy186]; exact H) | exact H
      have Ny186 := Aside0.mk hy186
      clear hy186
      by_cases c7 : y186.length < 3518437208883
      · rw [if_pos c7] at H
        have LMc7 := Aside0.mk c7
        clear c7
        obtain ⟨y189, hy189⟩ : ∃ y_ : List (S61), y_ = (y186 ++ [(⟨a0, (⟨#[]⟩ : ByteArray), wrap64 ((l1.length : Int) - 1), wrap64 ((wrap64 ((l1.length : Int) + (l2.length : Int))) - 1)⟩ : S61)]) := ⟨_, rfl⟩
        replace H : (some y189) = some r := by first | (rw [hy189]; with_reducible exact H) | (have H2_ := (Option.bind_some _ _).symm.trans H; rw [hy189]; with_reducible exact H2_) | (have H2_ := (Option.bind_some _ _).symm.trans H; with_reducible exact H2_) | with_reducible exact H | (rw [hy189]; exact H) | exact H
        have Ny189 := Aside0.mk hy189
        clear hy189
        obtain rfl := Option.some.inj H
        go_enter Tryd.func45, Tryd.ntmps45
        go_wp2_with (first | ((with_reducible refine gate_dst (N := 8) rfl ?_); refine Kd.R_lit k61 _ 61 ?hg (N := 8) ?hd (xs := ([] : List (S61))) (inner := []) (ok := fun _ => True) (okp := fun _ => True) ?hr ?hp (fun _ hk => hk) trivial (Below.refl _ _) (Nat.le_refl _) (by simp) ?_; (case hd => rfl); (case hg => rfl); (case hr => first | (go_simp; done) | (go_simp; rfl)); (case hp => exact (Reps.none _ _)); intro v178 w8 ho9 hb hg_ hnew_; clear hg_ hnew_; (first | rw [← Ny177.out] at ho9 | (simp only [Int.reduceToNat] at ho9; rw [← Ny177.out] at ho9)); have n0_ := Aside0.mk (Kd.R_lower ho9 (below_size (by repeat (first | (with_reducible first | exact HB.out | apply below_alloc | apply pw_below_drewN | apply below_drew1) | exact HB.out)))); have n1_ := Aside0.mk (below_step (by repeat (first | (with_reducible first | exact HB.out | apply below_alloc | apply pw_below_drewN | apply below_drew1) | exact HB.out)) hb); clear HB; have HO179 := n0_; have HB := n1_; clear n0_ n1_; clear hb ho9) | ((with_reducible refine gate_builtin (b := .append) (xs := #[.tmp 9, .tmp 10]) rfl ?_); at_builtin; refine Kd.R_append_rows k61 (w0 := w) w.heap.size rfl (.tmp 9) (.tmp 10) 30 61 (.agg #[(.int .i64 0), (.string ⟨#[]⟩), (.int .i64 0), (.int .i64 0)]) 40 rfl Tryd.underlying30 info61 rfl (by decide) (by omega) v178 y177 l1 _ _ _ (fun _ => True) (fun _ => False) rfl rfl ?aO ?aR (fun _ _ h => h) (fun _ h => h.elim) ?aF ?aB ?aS ?aL ?_; (case aR => repeat (first | exact (Kd.C_below HR1.out HB.out) | (with_reducible refine Kd.C_alloc ?_ _) | (with_reducible refine Kd.C_drewN ?_ _) | (with_reducible refine Kd.C_drew ?_))); (case aB => exact (by repeat (first | (with_reducible first | exact HB.out | apply below_alloc | apply pw_below_drewN | apply below_drew1) | exact HB.out))); (case aF => exact (fun _ _ => trivial)); (case aO => exact (by (with_reducible repeat (first | apply Kd.R_alloc | apply Kd.R_drewN | apply Kd.R_drew)); exact HO179.out)); (case aS => exact (below_size (by repeat (first | (with_reducible first | exact HB.out | apply below_alloc | apply pw_below_drewN | apply below_drew1) | exact HB.out)))); (case aL => have := LMc4.out; omega); intro v181 w10 ho hb hg hat; rw [← Ny180.out] at ho; have n0_ := Aside0.mk (hb); have n1_ := Aside0.mk (ho); clear HB; clear HO179; have HB := n0_; have HO182 := n1_; clear n0_ n1_; clear ho hb hg hat) | ((with_reducible refine gate_callee (f := 68) rfl ?_); refine goesL_ (some 16) rfl rfl Tryd.func68 (by kernel_rfl) rfl #[.slice A2 l2.length c2, .int .i64 (l1.length : Int)] rfl (by (try simp only [List.map_toArray, List.map_cons, List.map_nil]); first | done | rfl | (simp only [List.length_drop, List.length_take]; rfl) | (simp only [ByteArray.size_extract, Nat.min_self]; done) | (simp only [ByteArray.size_append, StrMore.size_lit, List.length_cons, List.length_nil, Nat.zero_add, Nat.reduceAdd] <;> rfl)) ?_; (with_reducible refine (graftbedref12_moved.calls _ _ l2 (l1.length : Int) t183 _ ?side1 ?side2 A5.out).mono ?_); (case side1 => repeat (first | exact (Kd.C_below HR2.out HB.out) | (with_reducible refine Kd.C_alloc ?_ _) | (with_reducible refine Kd.C_drewN ?_ _) | (with_reducible refine Kd.C_drew ?_))); (case side2 => exact HC2.out); rintro e w11 ⟨v184, rfl, ho0, hb⟩; refine ⟨_, rfl, ?_⟩; have n0_ := Aside0.mk (Kd.R_elder' (by (with_reducible repeat (first | apply Kd.R_alloc | apply Kd.R_drewN | apply Kd.R_drew)); exact HO182.out) (Kd.R_base ho0) hb); have n1_ := Aside0.mk (Kd.R_lower (Kd.R_new' ho0 (Kd.R_lt (by (with_reducible repeat (first | apply Kd.R_alloc | apply Kd.R_drewN | apply Kd.R_drew)); exact HO182.out))) (below_size (by repeat (first | (with_reducible first | exact HB.out | apply below_alloc | apply pw_below_drewN | apply below_drew1) | exact HB.out)))); have n2_ := Aside0.mk (below_step (by repeat (first | (with_reducible first | exact HB.out | apply below_alloc | apply pw_below_drewN | apply below_drew1) | exact HB.out)) hb); clear HO182; clear HB; have HO182 := n0_; have HO185 := n1_; have HB := n2_; clear n0_ n1_ n2_; (try clear hb); (try clear hb2); (try clear hk); (try clear hi); (try clear ho0); obtain ⟨Ao13, co13, eo13⟩ := Kd.R_slice HO185.out; subst eo13) | ((with_reducible refine gate_builtin (b := .append) (xs := #[.tmp 12, .tmp 16]) rfl ?_); at_builtin; refine Kd.R_append_rows k61 (w0 := w) w.heap.size rfl (.tmp 12) (.tmp 16) 30 61 (.agg #[(.int .i64 0), (.string ⟨#[]⟩), (.int .i64 0), (.int .i64 0)]) 40 rfl Tryd.underlying30 info61 rfl (by decide) (by omega) v181 y180 t183 _ _ _ (fun k_ => some k_ ≠ (.slice Ao13 t183.length co13 : Value).ownBlock) (fun _ => False) rfl rfl ?aO ?aR (fun _ _ h => h) (fun _ h => h.elim) ?aF ?aB ?aS ?aL ?_; (case aR => repeat (first | exact (Kd.R_reads' HO185.out).2.2 | (with_reducible refine Kd.C_alloc ?_ _) | (with_reducible refine Kd.C_drewN ?_ _) | (with_reducible refine Kd.C_drew ?_))); (case aB => exact (by repeat (first | (with_reducible first | exact HB.out | apply below_alloc | apply pw_below_drewN | apply below_drew1) | exact HB.out))); (case aF => exact (fun k_ hk => Kd.fresh' (Kd.R_lt (by (with_reducible repeat (first | apply Kd.R_alloc | apply Kd.R_drewN | apply Kd.R_drew)); exact HO185.out)) k_ hk)); (case aO => exact (by (with_reducible repeat (first | apply Kd.R_alloc | apply Kd.R_drewN | apply Kd.R_drew)); exact Kd.R_mono HO182.out (fun _ hk => hk.2))); (case aS => exact (below_size (by repeat (first | (with_reducible first | exact HB.out | apply below_alloc | apply pw_below_drewN | apply below_drew1) | exact HB.out)))); (case aL => have := LMc6.out; omega); intro v187 w12 ho hb hg hat; rw [← Ny186.out] at ho; have n0_ := Aside0.mk (Kd.R_after (ok := (fun _ => True)) (by (with_reducible repeat (first | apply Kd.R_alloc | apply Kd.R_drewN | apply Kd.R_drew)); exact HO185.out) hg hat); have n1_ := Aside0.mk (hb); have n2_ := Aside0.mk (ho); clear HO185; clear HB; clear HO182; have HO185 := n0_; have HB := n1_; have HO188 := n2_; clear n0_ n1_ n2_; clear ho hb hg hat) | ((with_reducible refine gate_builtin (b := .append) (xs := #[.tmp 18, .tmp 30]) rfl ?_); at_builtin; refine Kd.R_append k61 (w0 := w) w.heap.size rfl (.tmp 18) (.tmp 30) 30 61 (.agg #[(.int .i64 0), (.string ⟨#[]⟩), (.int .i64 0), (.int .i64 0)]) 40 rfl Tryd.underlying30 info61 rfl (by decide) (by omega) v187 y186 (⟨a0, (⟨#[]⟩ : ByteArray), wrap64 ((l1.length : Int) - 1), wrap64 ((wrap64 ((l1.length : Int) + (l2.length : Int))) - 1)⟩ : S61) [.int .i64 a0, .string (⟨#[]⟩ : ByteArray), .int .i64 (wrap64 ((l1.length : Int) - 1)), .int .i64 (wrap64 ((wrap64 ((l1.length : Int) + (l2.length : Int))) - 1))] (fun k_ => some k_ ≠ (.slice Ao13 t183.length co13 : Value).ownBlock) (fun _ => False) rfl rfl ?aP (fun _ hk => hk.elim) ?aF ?aO ?aB ?aS ?aL ?_; (case aP => exact k61_mkM _ _ _ (⟨a0, (⟨#[]⟩ : ByteArray), wrap64 ((l1.length : Int) - 1), wrap64 ((wrap64 ((l1.length : Int) + (l2.length : Int))) - 1)⟩ : S61)); (case aB => exact (by repeat (first | (with_reducible first | exact HB.out | apply below_alloc | apply pw_below_drewN | apply below_drew1) | exact HB.out))); (case aF => exact (fun k_ hk => Kd.fresh' (Kd.R_lt (by (with_reducible repeat (first | apply Kd.R_alloc | apply Kd.R_drewN | apply Kd.R_drew)); exact HO185.out)) k_ hk)); (case aO => exact (by (with_reducible repeat (first | apply Kd.R_alloc | apply Kd.R_drewN | apply Kd.R_drew)); exact HO188.out)); (case aS => exact (below_size (by repeat (first | (with_reducible first | exact HB.out | apply below_alloc | apply pw_below_drewN | apply below_drew1) | exact HB.out)))); (case aL => have := LMc7.out; omega); intro v190 w14 ho hb hg hat; rw [← Ny189.out] at ho; have n0_ := Aside0.mk (Kd.R_after (ok := (fun _ => True)) (by (with_reducible repeat (first | apply Kd.R_alloc | apply Kd.R_drewN | apply Kd.R_drew)); exact HO185.out) hg hat); have n1_ := Aside0.mk (hb); have n2_ := Aside0.mk (ho); clear HO185; clear HB; clear HO188; have HO185 := n0_; have HB := n1_; have HO191 := n2_; clear n0_ n1_ n2_; clear ho hb hg hat))
        go_ret
        exact ⟨_, by first | rfl | (simp [errW_none, errW_some] <;> rfl) | (simp [*, errW_none, errW_some] <;> rfl), by (with_reducible repeat (first | apply Kd.R_alloc | apply Kd.R_drewN | apply Kd.R_drew)); exact Kd.R_mono HO191.out (fun _ hk => trivial), by repeat (first | (with_reducible first | exact HB.out | apply below_alloc | apply pw_below_drewN | apply below_drew1) | exact HB.out)⟩
      · rw [if_neg c7] at H
        exact absurd H (by simp)
    · rw [if_neg c6] at H
      exact absurd H (by simp)
  · rw [if_neg c4] at H
    exact absurd H (by simp)

end Go.Proofs.YtjndccjpjknbkaaDoor.PEx

-- by hprint.py (wip/): the kit's print over contracts proved by hand; a text of this session
namespace Go.Proofs.YtjndccjpjknbkaaDoor.PEx
open Go.RowKit Go.Proofs.YtjndccjpjknbkaaDoorW.PrintWords Go.Proofs.YtjndccjpjknbkaaDoorW.PrintLast Go.Proofs.YtjndccjpjknbkaaDoorW.PrintMore
attribute [local go_sem] max2_int min2_int max_two min_two max_three min_three max_four min_four   -- for this text's walks alone
set_option linter.unusedVariables false
set_option linter.unusedSimpArgs false

/-! ### graftbedref12_And: function 23 -/
def graftbedref12_And.f (l0 : List (S61)) (l1 : List (S61)) : Option ((List (S61))) := (graftbedref12_both.f 2 l0 l1).bind fun t192 => (some t192)
set_option maxHeartbeats 8000000 in
set_option maxRecDepth 100000 in
theorem graftbedref12_And.calls (A0 : Option Addr) (c0 : Nat) (l0 : List (S61)) (A1 : Option Addr) (c1 : Nat) (l1 : List (S61)) (r : List (S61)) (w : World) (hr0 : Kd.C k61 w A0 l0.length l0) (hc0 : l0.length ≤ c0) (hr1 : Kd.C k61 w A1 l1.length l1) (hc1 : l1.length ≤ c1) (h : graftbedref12_And.f l0 l1 = some r) :
    Calls Tryd.prog 23 #[.slice A0 l0.length c0, .slice A1 l1.length c1] w fun e w' => ∃ v0_ : Value, e = .returned (v0_) ∧ Kd.R k61 61 w' w.heap.size (fun _ => True) v0_ r ∧ Below w.heap.size w w' := by
  have HR0 := Aside0.mk hr0
  have HC0 := Aside0.mk hc0
  clear hr0 hc0
  have HR1 := Aside0.mk hr1
  have HC1 := Aside0.mk hc1
  clear hr1 hc1
  have HB := Aside0.mk (Below.refl w.heap.size w)
  have H : ((graftbedref12_both.f 2 l0 l1).bind fun t192 => (some t192)) = some r := h
  clear h
  replace H := Option.bind_eq_some_iff.mp H
  obtain ⟨t192, A30, H⟩ := H
  replace H : (some t192) = some r := H
  have A3 := Aside0.mk A30
  clear A30
  obtain rfl := Option.some.inj H
  go_enter Tryd.func23, Tryd.ntmps23
  go_wp2_with (first | ((with_reducible refine gate_callee (f := 45) rfl ?_); refine goesL_ (some 7) rfl rfl Tryd.func45 (by kernel_rfl) rfl #[.int .i64 2, .slice A0 l0.length c0, .slice A1 l1.length c1] rfl (by (try simp only [List.map_toArray, List.map_cons, List.map_nil]); first | done | rfl | (simp only [List.length_drop, List.length_take]; rfl) | (simp only [ByteArray.size_extract, Nat.min_self]; done) | (simp only [ByteArray.size_append, StrMore.size_lit, List.length_cons, List.length_nil, Nat.zero_add, Nat.reduceAdd] <;> rfl)) ?_; (with_reducible refine (graftbedref12_both.calls 2 _ _ l0 _ _ l1 t192 _ ?side1 ?side2 ?side3 ?side4 A3.out).mono ?_); (case side1 => repeat (first | exact HR0.out | (with_reducible refine Kd.C_alloc ?_ _) | (with_reducible refine Kd.C_drewN ?_ _) | (with_reducible refine Kd.C_drew ?_))); (case side2 => exact HC0.out); (case side3 => repeat (first | exact HR1.out | (with_reducible refine Kd.C_alloc ?_ _) | (with_reducible refine Kd.C_drewN ?_ _) | (with_reducible refine Kd.C_drew ?_))); (case side4 => exact HC1.out); rintro e w4 ⟨v193, rfl, ho0, hb⟩; refine ⟨_, rfl, ?_⟩; have n0_ := Aside0.mk (Kd.R_lower ho0 (below_size (by repeat (first | (with_reducible first | exact HB.out | apply below_alloc | apply pw_below_drewN | apply below_drew1) | exact HB.out)))); have n1_ := Aside0.mk (below_step (by repeat (first | (with_reducible first | exact HB.out | apply below_alloc | apply pw_below_drewN | apply below_drew1) | exact HB.out)) hb); clear HB; have HO194 := n0_; have HB := n1_; clear n0_ n1_; (try clear hb); (try clear hb2); (try clear hk); (try clear hi); (try clear ho0)))
  go_ret
  exact ⟨_, by first | rfl | (simp [errW_none, errW_some] <;> rfl) | (simp [*, errW_none, errW_some] <;> rfl), by (with_reducible repeat (first | apply Kd.R_alloc | apply Kd.R_drewN | apply Kd.R_drew)); exact HO194.out, by repeat (first | (with_reducible first | exact HB.out | apply below_alloc | apply pw_below_drewN | apply below_drew1) | exact HB.out)⟩

end Go.Proofs.YtjndccjpjknbkaaDoor.PEx

-- by hprint.py (wip/): the kit's print over contracts proved by hand; a text of this session
namespace Go.Proofs.YtjndccjpjknbkaaDoor.PEx
open Go.RowKit Go.Proofs.YtjndccjpjknbkaaDoorW.PrintWords Go.Proofs.YtjndccjpjknbkaaDoorW.PrintLast Go.Proofs.YtjndccjpjknbkaaDoorW.PrintMore
attribute [local go_sem] max2_int min2_int max_two min_two max_three min_three max_four min_four   -- for this text's walks alone
set_option linter.unusedVariables false
set_option linter.unusedSimpArgs false

/-! ### graftbedref12_Or: function 24 -/
def graftbedref12_Or.f (l0 : List (S61)) (l1 : List (S61)) : Option ((List (S61))) := (graftbedref12_both.f 3 l0 l1).bind fun t195 => (some t195)
set_option maxHeartbeats 8000000 in
set_option maxRecDepth 100000 in
theorem graftbedref12_Or.calls (A0 : Option Addr) (c0 : Nat) (l0 : List (S61)) (A1 : Option Addr) (c1 : Nat) (l1 : List (S61)) (r : List (S61)) (w : World) (hr0 : Kd.C k61 w A0 l0.length l0) (hc0 : l0.length ≤ c0) (hr1 : Kd.C k61 w A1 l1.length l1) (hc1 : l1.length ≤ c1) (h : graftbedref12_Or.f l0 l1 = some r) :
    Calls Tryd.prog 24 #[.slice A0 l0.length c0, .slice A1 l1.length c1] w fun e w' => ∃ v0_ : Value, e = .returned (v0_) ∧ Kd.R k61 61 w' w.heap.size (fun _ => True) v0_ r ∧ Below w.heap.size w w' := by
  have HR0 := Aside0.mk hr0
  have HC0 := Aside0.mk hc0
  clear hr0 hc0
  have HR1 := Aside0.mk hr1
  have HC1 := Aside0.mk hc1
  clear hr1 hc1
  have HB := Aside0.mk (Below.refl w.heap.size w)
  have H : ((graftbedref12_both.f 3 l0 l1).bind fun t195 => (some t195)) = some r := h
  clear h
  replace H := Option.bind_eq_some_iff.mp H
  obtain ⟨t195, A30, H⟩ := H
  replace H : (some t195) = some r := H
  have A3 := Aside0.mk A30
  clear A30
  obtain rfl := Option.some.inj H
  go_enter Tryd.func24, Tryd.ntmps24
  go_wp2_with (first | ((with_reducible refine gate_callee (f := 45) rfl ?_); refine goesL_ (some 7) rfl rfl Tryd.func45 (by kernel_rfl) rfl #[.int .i64 3, .slice A0 l0.length c0, .slice A1 l1.length c1] rfl (by (try simp only [List.map_toArray, List.map_cons, List.map_nil]); first | done | rfl | (simp only [List.length_drop, List.length_take]; rfl) | (simp only [ByteArray.size_extract, Nat.min_self]; done) | (simp only [ByteArray.size_append, StrMore.size_lit, List.length_cons, List.length_nil, Nat.zero_add, Nat.reduceAdd] <;> rfl)) ?_; (with_reducible refine (graftbedref12_both.calls 3 _ _ l0 _ _ l1 t195 _ ?side1 ?side2 ?side3 ?side4 A3.out).mono ?_); (case side1 => repeat (first | exact HR0.out | (with_reducible refine Kd.C_alloc ?_ _) | (with_reducible refine Kd.C_drewN ?_ _) | (with_reducible refine Kd.C_drew ?_))); (case side2 => exact HC0.out); (case side3 => repeat (first | exact HR1.out | (with_reducible refine Kd.C_alloc ?_ _) | (with_reducible refine Kd.C_drewN ?_ _) | (with_reducible refine Kd.C_drew ?_))); (case side4 => exact HC1.out); rintro e w4 ⟨v196, rfl, ho0, hb⟩; refine ⟨_, rfl, ?_⟩; have n0_ := Aside0.mk (Kd.R_lower ho0 (below_size (by repeat (first | (with_reducible first | exact HB.out | apply below_alloc | apply pw_below_drewN | apply below_drew1) | exact HB.out)))); have n1_ := Aside0.mk (below_step (by repeat (first | (with_reducible first | exact HB.out | apply below_alloc | apply pw_below_drewN | apply below_drew1) | exact HB.out)) hb); clear HB; have HO197 := n0_; have HB := n1_; clear n0_ n1_; (try clear hb); (try clear hb2); (try clear hk); (try clear hi); (try clear ho0)))
  go_ret
  exact ⟨_, by first | rfl | (simp [errW_none, errW_some] <;> rfl) | (simp [*, errW_none, errW_some] <;> rfl), by (with_reducible repeat (first | apply Kd.R_alloc | apply Kd.R_drewN | apply Kd.R_drew)); exact HO197.out, by repeat (first | (with_reducible first | exact HB.out | apply below_alloc | apply pw_below_drewN | apply below_drew1) | exact HB.out)⟩

end Go.Proofs.YtjndccjpjknbkaaDoor.PEx

-- by hprint.py (wip/): the kit's print over contracts proved by hand; a text of this session
namespace Go.Proofs.YtjndccjpjknbkaaDoor.PEx
open Go.RowKit Go.Proofs.YtjndccjpjknbkaaDoorW.PrintWords Go.Proofs.YtjndccjpjknbkaaDoorW.PrintLast Go.Proofs.YtjndccjpjknbkaaDoorW.PrintMore
attribute [local go_sem] max2_int min2_int max_two min_two max_three min_three max_four min_four   -- for this text's walks alone
set_option linter.unusedVariables false
set_option linter.unusedSimpArgs false

/-! ### graftbedref12_Not: function 25 -/
def graftbedref12_Not.f (l0 : List (S61)) : Option ((List (S61))) := (some (([] : List (S61)) : List (S61))).bind fun y198 => (if y198.length + l0.length < 3518437208883 then ((some (y198 ++ l0 : List (S61))).bind fun y201 => (if y201.length < 3518437208883 then (some (y201 ++ [(⟨1, (⟨#[]⟩ : ByteArray), wrap64 ((l0.length : Int) - 1), 0⟩ : S61)])) else (none))) else (none))
set_option maxHeartbeats 8000000 in
set_option maxRecDepth 100000 in
theorem graftbedref12_Not.calls (A0 : Option Addr) (c0 : Nat) (l0 : List (S61)) (r : List (S61)) (w : World) (hr0 : Kd.C k61 w A0 l0.length l0) (hc0 : l0.length ≤ c0) (h : graftbedref12_Not.f l0 = some r) :
    Calls Tryd.prog 25 #[.slice A0 l0.length c0] w fun e w' => ∃ v0_ : Value, e = .returned (v0_) ∧ Kd.R k61 61 w' w.heap.size (fun _ => True) v0_ r ∧ Below w.heap.size w w' := by
  have hu61 := Tryd.underlying61
  have HR0 := Aside0.mk hr0
  have HC0 := Aside0.mk hc0
  clear hr0 hc0
  have HB := Aside0.mk (Below.refl w.heap.size w)
  have H : ((some (([] : List (S61)) : List (S61))).bind fun y198 => (if y198.length + l0.length < 3518437208883 then ((some (y198 ++ l0 : List (S61))).bind fun y201 => (if y201.length < 3518437208883 then (some (y201 ++ [(⟨1, (⟨#[]⟩ : ByteArray), wrap64 ((l0.length : Int) - 1), 0⟩ : S61)])) else (none))) else (none))) = some r := h
  clear h
  obtain ⟨y198, hy198⟩ : ∃ y_ : List (S61), y_ = (([] : List (S61))) := ⟨_, rfl⟩
  replace H : (if y198.length + l0.length < 3518437208883 then ((some (y198 ++ l0 : List (S61))).bind fun y201 => (if y201.length < 3518437208883 then (some (y201 ++ [(⟨1, (⟨#[]⟩ : ByteArray), wrap64 ((l0.length : Int) - 1), 0⟩ : S61)])) else (none))) else (none)) = some r := by first | (rw [hy198]; with_reducible exact H) | (have H2_ := (Option.bind_some _ _).symm.trans H; rw [hy198]; with_reducible exact H2_) | (have H2_ := (Option.bind_some _ _).symm.trans H; with_reducible exact H2_) | with_reducible exact H | (rw [hy198]; exact H) | exact H
  have Ny198 := Aside0.mk hy198
  clear hy198
  by_cases c2 : y198.length + l0.length < 3518437208883
  · rw [if_pos c2] at H
    have LMc2 := Aside0.mk c2
    clear c2
    obtain ⟨y201, hy201⟩ : ∃ y_ : List (S61), y_ = (y198 ++ l0) := ⟨_, rfl⟩
    replace H : (if y201.length < 3518437208883 then (some (y201 ++ [(⟨1, (⟨#[]⟩ : ByteArray), wrap64 ((l0.length : Int) - 1), 0⟩ : S61)])) else (none)) = some r := by first | (rw [hy201]; with_reducible exact H) | (have H2_ := (Option.bind_some _ _).symm.trans H; rw [hy201]; with_reducible exact H2_) | (have H2_ := (Option.bind_some _ _).symm.trans H; with_reducible exact H2_) | with_reducible exact H | (rw [hy201]; exact H) | exact H
    have Ny201 := Aside0.mk hy201
    clear hy201
    by_cases c3 : y201.length < 3518437208883
    · rw [if_pos c3] at H
      have LMc3 := Aside0.mk c3
      clear c3
      obtain ⟨y204, hy204⟩ : ∃ y_ : List (S61), y_ = (y201 ++ [(⟨1, (⟨#[]⟩ : ByteArray), wrap64 ((l0.length : Int) - 1), 0⟩ : S61)]) := ⟨_, rfl⟩
      replace H : (some y204) = some r := by first | (rw [hy204]; with_reducible exact H) | (have H2_ := (Option.bind_some _ _).symm.trans H; rw [hy204]; with_reducible exact H2_) | (have H2_ := (Option.bind_some _ _).symm.trans H; with_reducible exact H2_) | with_reducible exact H | (rw [hy204]; exact H) | exact H
      have Ny204 := Aside0.mk hy204
      clear hy204
      obtain rfl := Option.some.inj H
      go_enter Tryd.func25, Tryd.ntmps25
      go_wp2_with (first | ((with_reducible refine gate_dst (N := 4) rfl ?_); refine Kd.R_lit k61 _ 61 ?hg (N := 4) ?hd (xs := ([] : List (S61))) (inner := []) (ok := fun _ => True) (okp := fun _ => True) ?hr ?hp (fun _ hk => hk) trivial (Below.refl _ _) (Nat.le_refl _) (by simp) ?_; (case hd => rfl); (case hg => rfl); (case hr => first | (go_simp; done) | (go_simp; rfl)); (case hp => exact (Reps.none _ _)); intro v199 w4 ho5 hb hg_ hnew_; clear hg_ hnew_; (first | rw [← Ny198.out] at ho5 | (simp only [Int.reduceToNat] at ho5; rw [← Ny198.out] at ho5)); have n0_ := Aside0.mk (Kd.R_lower ho5 (below_size (by repeat (first | (with_reducible first | exact HB.out | apply below_alloc | apply pw_below_drewN | apply below_drew1) | exact HB.out)))); have n1_ := Aside0.mk (below_step (by repeat (first | (with_reducible first | exact HB.out | apply below_alloc | apply pw_below_drewN | apply below_drew1) | exact HB.out)) hb); clear HB; have HO200 := n0_; have HB := n1_; clear n0_ n1_; clear hb ho5) | ((with_reducible refine gate_builtin (b := .append) (xs := #[.tmp 5, .tmp 6]) rfl ?_); at_builtin; refine Kd.R_append_rows k61 (w0 := w) w.heap.size rfl (.tmp 5) (.tmp 6) 30 61 (.agg #[(.int .i64 0), (.string ⟨#[]⟩), (.int .i64 0), (.int .i64 0)]) 40 rfl Tryd.underlying30 info61 rfl (by decide) (by omega) v199 y198 l0 _ _ _ (fun _ => True) (fun _ => False) rfl rfl ?aO ?aR (fun _ _ h => h) (fun _ h => h.elim) ?aF ?aB ?aS ?aL ?_; (case aR => repeat (first | exact (Kd.C_below HR0.out HB.out) | (with_reducible refine Kd.C_alloc ?_ _) | (with_reducible refine Kd.C_drewN ?_ _) | (with_reducible refine Kd.C_drew ?_))); (case aB => exact (by repeat (first | (with_reducible first | exact HB.out | apply below_alloc | apply pw_below_drewN | apply below_drew1) | exact HB.out))); (case aF => exact (fun _ _ => trivial)); (case aO => exact (by (with_reducible repeat (first | apply Kd.R_alloc | apply Kd.R_drewN | apply Kd.R_drew)); exact HO200.out)); (case aS => exact (below_size (by repeat (first | (with_reducible first | exact HB.out | apply below_alloc | apply pw_below_drewN | apply below_drew1) | exact HB.out)))); (case aL => have := LMc2.out; omega); intro v202 w6 ho hb hg hat; rw [← Ny201.out] at ho; have n0_ := Aside0.mk (hb); have n1_ := Aside0.mk (ho); clear HB; clear HO200; have HB := n0_; have HO203 := n1_; clear n0_ n1_; clear ho hb hg hat) | ((with_reducible refine gate_builtin (b := .append) (xs := #[.tmp 8, .tmp 13]) rfl ?_); at_builtin; refine Kd.R_append k61 (w0 := w) w.heap.size rfl (.tmp 8) (.tmp 13) 30 61 (.agg #[(.int .i64 0), (.string ⟨#[]⟩), (.int .i64 0), (.int .i64 0)]) 40 rfl Tryd.underlying30 info61 rfl (by decide) (by omega) v202 y201 (⟨1, (⟨#[]⟩ : ByteArray), wrap64 ((l0.length : Int) - 1), 0⟩ : S61) [.int .i64 1, .string (⟨#[]⟩ : ByteArray), .int .i64 (wrap64 ((l0.length : Int) - 1)), .int .i64 0] (fun _ => True) (fun _ => False) rfl rfl ?aP (fun _ hk => hk.elim) ?aF ?aO ?aB ?aS ?aL ?_; (case aP => exact k61_mkM _ _ _ (⟨1, (⟨#[]⟩ : ByteArray), wrap64 ((l0.length : Int) - 1), 0⟩ : S61)); (case aB => exact (by repeat (first | (with_reducible first | exact HB.out | apply below_alloc | apply pw_below_drewN | apply below_drew1) | exact HB.out))); (case aF => exact (fun _ _ => trivial)); (case aO => exact (by (with_reducible repeat (first | apply Kd.R_alloc | apply Kd.R_drewN | apply Kd.R_drew)); exact HO203.out)); (case aS => exact (below_size (by repeat (first | (with_reducible first | exact HB.out | apply below_alloc | apply pw_below_drewN | apply below_drew1) | exact HB.out)))); (case aL => have := LMc3.out; omega); intro v205 w7 ho hb hg hat; rw [← Ny204.out] at ho; have n0_ := Aside0.mk (hb); have n1_ := Aside0.mk (ho); clear HB; clear HO203; have HB := n0_; have HO206 := n1_; clear n0_ n1_; clear ho hb hg hat))
      go_ret
      exact ⟨_, by first | rfl | (simp [errW_none, errW_some] <;> rfl) | (simp [*, errW_none, errW_some] <;> rfl), by (with_reducible repeat (first | apply Kd.R_alloc | apply Kd.R_drewN | apply Kd.R_drew)); exact HO206.out, by repeat (first | (with_reducible first | exact HB.out | apply below_alloc | apply pw_below_drewN | apply below_drew1) | exact HB.out)⟩
    · rw [if_neg c3] at H
      exact absurd H (by simp)
  · rw [if_neg c2] at H
    exact absurd H (by simp)

end Go.Proofs.YtjndccjpjknbkaaDoor.PEx
