/- Printed parts, put together. -/
import Derived.Test.YtjndccjpjknbkaaDoorMpa
-- by hprint.py (wip/): the kit's print over contracts proved by hand; a text of this session
namespace Go.Proofs.YtjndccjpjknbkaaDoor.PPl
open Go.RowKit Go.Proofs.YtjndccjpjknbkaaDoorW.PrintWords Go.Proofs.YtjndccjpjknbkaaDoorW.PrintLast Go.Proofs.YtjndccjpjknbkaaDoorW.PrintMore
attribute [local go_sem] max2_int min2_int max_two min_two max_three min_three max_four min_four   -- for this text's walks alone
set_option linter.unusedVariables false
set_option linter.unusedSimpArgs false

/-! ### plus_Line: function 29 -/
def plus_Line.enc (x : S52) : ExNode.Nd := ⟨x.f0, x.f1, x.f2, x.f3⟩
def plus_Line.dec (x : ExNode.Nd) : S52 := ⟨x.kind, x.tag, x.a, x.b⟩
def plus_Line.f (a0 : ByteArray) : Option (List (S52) × Int) := if a0.size ≤ 512 then some ((PlLine.lineF a0).1.map plus_Line.dec, (PlLine.lineF a0).2) else none
theorem plus_Line.calls (a0 : ByteArray) (r1 : List (S52)) (r2 : Int) (w : World) (h : plus_Line.f a0 = some (r1, r2)) :
    Calls Tryd.prog 29 #[.string a0] w fun e w' => ∃ v0_ : Value, e = .returned (.tuple #[v0_, .int .i64 r2]) ∧ Kd.R k52 52 w' w.heap.size (fun _ => True) v0_ r1 ∧ Below w.heap.size w w' := by
  unfold plus_Line.f at h
  by_cases h1 : a0.size ≤ 512
  · rw [if_pos h1] at h
    have e1 := Option.some.inj h
    injection e1 with e1 e2
    subst e1 e2
    refine (PlLine.Line_calls a0 h1 w).mono ?_
    rintro e w' ⟨v, rfl, ho, hb⟩
    refine ⟨v, rfl, RowsLib.R_of (f := fun x => ExNode.encN (plus_Line.enc x)) (n := 4) (fun _ => rfl) rfl (fun ok x => k52_mkM _ _ _ x) ?_ (Nat.le_refl _), hb⟩
    have e1 : RowsLib.cellsL (fun x => ExNode.encN (plus_Line.enc x)) ((PlLine.lineF a0).1.map plus_Line.dec) = ExNode.cellsN (PlLine.lineF a0).1 := by
      unfold ExNode.cellsN RowsLib.cellsL
      rw [List.flatMap_map]
      rfl
    rw [e1, List.length_map]
    exact ho.1
  · rw [if_neg h1] at h
    cases h

end Go.Proofs.YtjndccjpjknbkaaDoor.PPl

-- by hprint.py (wip/): the kit's print over contracts proved by hand; a text of this session
namespace Go.Proofs.YtjndccjpjknbkaaDoor.PPl
open Go.RowKit Go.Proofs.YtjndccjpjknbkaaDoorW.PrintWords Go.Proofs.YtjndccjpjknbkaaDoorW.PrintLast Go.Proofs.YtjndccjpjknbkaaDoorW.PrintMore
attribute [local go_sem] max2_int min2_int max_two min_two max_three min_three max_four min_four   -- for this text's walks alone
set_option linter.unusedVariables false
set_option linter.unusedSimpArgs false

/-! ### expr_Eval: function 17 -/
def expr_Eval.enc (x : S52) : ExNode.Nd := ⟨x.f0, x.f1, x.f2, x.f3⟩
def expr_Eval.tagsOk (l0 : List (S52)) : Bool := l0.all fun x => decide (x.f1.size ≤ 4611686018427387904)
def expr_Eval.f (l0 : List (S52)) (l1 : List ByteArray) : Option Bool := if expr_Eval.tagsOk l0 = true then some (ExSem.evalF (l0.map expr_Eval.enc) l1) else none
theorem expr_Eval.tags_of {l0 : List (S52)} (h : expr_Eval.tagsOk l0 = true) : ∀ x ∈ l0, (expr_Eval.enc x).tag.size ≤ 4611686018427387904 := fun x hx => of_decide_eq_true (List.all_eq_true.1 h x hx)
theorem expr_Eval.calls (A0 : Option Addr) (c0 : Nat) (l0 : List (S52)) (A1 : Option Addr) (c1 : Nat) (l1 : List ByteArray) (r : Bool) (w : World) (hr0 : Kd.C k52 w A0 l0.length l0) (hc0 : l0.length ≤ c0) (hr1 : Kd.C Kd.string w A1 l1.length l1) (hc1 : l1.length ≤ c1) (h : expr_Eval.f l0 l1 = some r) :
    Calls Tryd.prog 17 #[.slice A0 l0.length c0, .slice A1 l1.length c1] w fun e w' => e = .returned (.bool r) ∧ Below w.heap.size w w' := by
  unfold expr_Eval.f at h
  by_cases h1 : expr_Eval.tagsOk l0 = true
  · rw [if_pos h1] at h
    obtain rfl := Option.some.inj h
    exact ExRun.Eval_calls k52 rfl expr_Eval.enc (fun h => k52_open h) A0 A1 c0 c1 l0 l1 w hr0 hr1 (expr_Eval.tags_of h1)
  · rw [if_neg h1] at h
    cases h

end Go.Proofs.YtjndccjpjknbkaaDoor.PPl

-- by hprint.py (wip/): the kit's print over contracts proved by hand; a text of this session
namespace Go.Proofs.YtjndccjpjknbkaaDoor.PPl
open Go.RowKit Go.Proofs.YtjndccjpjknbkaaDoorW.PrintWords Go.Proofs.YtjndccjpjknbkaaDoorW.PrintLast Go.Proofs.YtjndccjpjknbkaaDoorW.PrintMore
attribute [local go_sem] max2_int min2_int max_two min_two max_three min_three max_four min_four   -- for this text's walks alone
set_option linter.unusedVariables false
set_option linter.unusedSimpArgs false

/-! ### graftbedlaw13_PlusMeans: function 8 -/
mutual
def graftbedlaw13_PlusMeans.j0 : Nat → List (List Int) → Int → Bool → Option (Bool)
  | 0, _, _, _ => none
  | k + 1, x0, x1, x31 => if x31 = true then ((plus_Line.f (⟨#[]⟩ : ByteArray)).bind fun bt234 => (some (bt234.2 == 120))) else (graftbedlaw13_PlusMeans.l0 k x0 x1 (([(⟨#[97]⟩ : ByteArray), (⟨#[98]⟩ : ByteArray), (⟨#[99]⟩ : ByteArray), (⟨#[100]⟩ : ByteArray)] : List ByteArray)) (([] : List ByteArray)) 0)
def graftbedlaw13_PlusMeans.l0 : Nat → List (List Int) → Int → List ByteArray → List ByteArray → Int → Option (Bool)
  | 0, _, _, _, _, _ => none
  | k + 1, x0, x1, x7, x8, x9 => if x9 < 4 then (if 0 ≤ (IntKind.u64.wrap (x9)) then (if (Int.tmod (shr .u8 x1 (IntKind.u64.wrap (x9))) 2) = 1 then (if 0 ≤ x9 then (if x9 < (x7.length : Int) then (if x8.length < 8796093022208 then (graftbedlaw13_PlusMeans.l0 k x0 x1 x7 (x8 ++ [rdOf ByteArray.empty x7 x9]) (wrap64 (x9 + 1))) else (none)) else (none)) else (none)) else (graftbedlaw13_PlusMeans.l0 k x0 x1 x7 x8 (wrap64 (x9 + 1)))) else (none)) else (graftbedlaw13_PlusMeans.l1 k x0 x1 x7 x8 (⟨#[]⟩ : ByteArray) false 0)
def graftbedlaw13_PlusMeans.l1 : Nat → List (List Int) → Int → List ByteArray → List ByteArray → ByteArray → Bool → Int → Option (Bool)
  | 0, _, _, _, _, _, _, _ => none
  | k + 1, x0, x1, x7, x8, x10, x11, x12 => if x12 < (x0.length : Int) then (if 0 ≤ x12 then (if ((rd_L9 x0 x12).length : Int) > 4 then (graftbedlaw13_PlusMeans.j3 k x0 x1 x7 x8 x10 x11 x12 (rd_L9 x0 x12) true) else (graftbedlaw13_PlusMeans.j3 k x0 x1 x7 x8 x10 x11 x12 (rd_L9 x0 x12) (((rd_L9 x0 x12).length : Int) == 0))) else (none)) else ((plus_Line.f x10).bind fun bt259 => (if bt259.2 = 0 then ((expr_Eval.f bt259.1 x8).bind fun t263 => (some (t263 == x11))) else ((graftbedref13_Line.f k x10).bind fun bt264 => (some (bt264.2 == bt259.2)))))
def graftbedlaw13_PlusMeans.j3 : Nat → List (List Int) → Int → List ByteArray → List ByteArray → ByteArray → Bool → Int → List Int → Bool → Option (Bool)
  | 0, _, _, _, _, _, _, _, _, _ => none
  | k + 1, x0, x1, x7, x8, x10, x11, x12, x13, x74 => if x74 = true then ((plus_Line.f (⟨#[]⟩ : ByteArray)).bind fun bt249 => (some (bt249.2 == 120))) else (if x12 > 0 then (if x10.size + 2 ≤ 9223372036854775807 then (graftbedlaw13_PlusMeans.j4 k x0 x1 x7 x8 (x10 ++ (⟨#[32, 32]⟩ : ByteArray)) x11 x12 x13 true) else (none)) else (graftbedlaw13_PlusMeans.j4 k x0 x1 x7 x8 x10 x11 x12 x13 true))
def graftbedlaw13_PlusMeans.j4 : Nat → List (List Int) → Int → List ByteArray → List ByteArray → ByteArray → Bool → Int → List Int → Bool → Option (Bool)
  | 0, _, _, _, _, _, _, _, _, _ => none
  | k + 1, x0, x1, x7, x8, x10, x11, x12, x13, x16 => graftbedlaw13_PlusMeans.l2 k x0 x1 x7 x8 x10 x11 x12 x13 x16 0
def graftbedlaw13_PlusMeans.l2 : Nat → List (List Int) → Int → List ByteArray → List ByteArray → ByteArray → Bool → Int → List Int → Bool → Int → Option (Bool)
  | 0, _, _, _, _, _, _, _, _, _, _ => none
  | k + 1, x0, x1, x7, x8, x10, x11, x12, x13, x16, x17 => if x17 < (x13.length : Int) then (if 0 ≤ x17 then (if x17 > 0 then (if x10.size + 1 ≤ 9223372036854775807 then (if (rd x13 x17) ≥ 128 then (if (x10 ++ (⟨#[44]⟩ : ByteArray)).size + 1 ≤ 9223372036854775807 then (if 0 ≤ (Int.tmod (wrap64 (rd x13 x17)) 4) then (if (Int.tmod (wrap64 (rd x13 x17)) 4) < (x7.length : Int) then (if ((x10 ++ (⟨#[44]⟩ : ByteArray)) ++ (⟨#[33]⟩ : ByteArray)).size + (rdOf ByteArray.empty x7 (Int.tmod (wrap64 (rd x13 x17)) 4)).size ≤ 9223372036854775807 then (if x16 = true then (if 0 ≤ (IntKind.u64.wrap (Int.tmod (wrap64 (rd x13 x17)) 4)) then (graftbedlaw13_PlusMeans.l2 k x0 x1 x7 x8 (((x10 ++ (⟨#[44]⟩ : ByteArray)) ++ (⟨#[33]⟩ : ByteArray)) ++ (rdOf ByteArray.empty x7 (Int.tmod (wrap64 (rd x13 x17)) 4))) x11 x12 x13 (((Int.tmod (shr .u8 x1 (IntKind.u64.wrap (Int.tmod (wrap64 (rd x13 x17)) 4))) 2) == 1) != (decide ((rd x13 x17) ≥ 128))) (wrap64 (x17 + 1))) else (none)) else (graftbedlaw13_PlusMeans.l2 k x0 x1 x7 x8 (((x10 ++ (⟨#[44]⟩ : ByteArray)) ++ (⟨#[33]⟩ : ByteArray)) ++ (rdOf ByteArray.empty x7 (Int.tmod (wrap64 (rd x13 x17)) 4))) x11 x12 x13 false (wrap64 (x17 + 1)))) else (none)) else (none)) else (none)) else (none)) else (if 0 ≤ (Int.tmod (wrap64 (rd x13 x17)) 4) then (if (Int.tmod (wrap64 (rd x13 x17)) 4) < (x7.length : Int) then (if (x10 ++ (⟨#[44]⟩ : ByteArray)).size + (rdOf ByteArray.empty x7 (Int.tmod (wrap64 (rd x13 x17)) 4)).size ≤ 9223372036854775807 then (if x16 = true then (if 0 ≤ (IntKind.u64.wrap (Int.tmod (wrap64 (rd x13 x17)) 4)) then (graftbedlaw13_PlusMeans.l2 k x0 x1 x7 x8 ((x10 ++ (⟨#[44]⟩ : ByteArray)) ++ (rdOf ByteArray.empty x7 (Int.tmod (wrap64 (rd x13 x17)) 4))) x11 x12 x13 (((Int.tmod (shr .u8 x1 (IntKind.u64.wrap (Int.tmod (wrap64 (rd x13 x17)) 4))) 2) == 1) != (decide ((rd x13 x17) ≥ 128))) (wrap64 (x17 + 1))) else (none)) else (graftbedlaw13_PlusMeans.l2 k x0 x1 x7 x8 ((x10 ++ (⟨#[44]⟩ : ByteArray)) ++ (rdOf ByteArray.empty x7 (Int.tmod (wrap64 (rd x13 x17)) 4))) x11 x12 x13 false (wrap64 (x17 + 1)))) else (none)) else (none)) else (none))) else (none)) else (if (rd x13 x17) ≥ 128 then (if x10.size + 1 ≤ 9223372036854775807 then (if 0 ≤ (Int.tmod (wrap64 (rd x13 x17)) 4) then (if (Int.tmod (wrap64 (rd x13 x17)) 4) < (x7.length : Int) then (if (x10 ++ (⟨#[33]⟩ : ByteArray)).size + (rdOf ByteArray.empty x7 (Int.tmod (wrap64 (rd x13 x17)) 4)).size ≤ 9223372036854775807 then (if x16 = true then (if 0 ≤ (IntKind.u64.wrap (Int.tmod (wrap64 (rd x13 x17)) 4)) then (graftbedlaw13_PlusMeans.l2 k x0 x1 x7 x8 ((x10 ++ (⟨#[33]⟩ : ByteArray)) ++ (rdOf ByteArray.empty x7 (Int.tmod (wrap64 (rd x13 x17)) 4))) x11 x12 x13 (((Int.tmod (shr .u8 x1 (IntKind.u64.wrap (Int.tmod (wrap64 (rd x13 x17)) 4))) 2) == 1) != (decide ((rd x13 x17) ≥ 128))) (wrap64 (x17 + 1))) else (none)) else (graftbedlaw13_PlusMeans.l2 k x0 x1 x7 x8 ((x10 ++ (⟨#[33]⟩ : ByteArray)) ++ (rdOf ByteArray.empty x7 (Int.tmod (wrap64 (rd x13 x17)) 4))) x11 x12 x13 false (wrap64 (x17 + 1)))) else (none)) else (none)) else (none)) else (none)) else (if 0 ≤ (Int.tmod (wrap64 (rd x13 x17)) 4) then (if (Int.tmod (wrap64 (rd x13 x17)) 4) < (x7.length : Int) then (if x10.size + (rdOf ByteArray.empty x7 (Int.tmod (wrap64 (rd x13 x17)) 4)).size ≤ 9223372036854775807 then (if x16 = true then (if 0 ≤ (IntKind.u64.wrap (Int.tmod (wrap64 (rd x13 x17)) 4)) then (graftbedlaw13_PlusMeans.l2 k x0 x1 x7 x8 (x10 ++ (rdOf ByteArray.empty x7 (Int.tmod (wrap64 (rd x13 x17)) 4))) x11 x12 x13 (((Int.tmod (shr .u8 x1 (IntKind.u64.wrap (Int.tmod (wrap64 (rd x13 x17)) 4))) 2) == 1) != (decide ((rd x13 x17) ≥ 128))) (wrap64 (x17 + 1))) else (none)) else (graftbedlaw13_PlusMeans.l2 k x0 x1 x7 x8 (x10 ++ (rdOf ByteArray.empty x7 (Int.tmod (wrap64 (rd x13 x17)) 4))) x11 x12 x13 false (wrap64 (x17 + 1)))) else (none)) else (none)) else (none)))) else (none)) else (if x11 = true then (graftbedlaw13_PlusMeans.l1 k x0 x1 x7 x8 x10 true (wrap64 (x12 + 1))) else (graftbedlaw13_PlusMeans.l1 k x0 x1 x7 x8 x10 x16 (wrap64 (x12 + 1))))
end
def graftbedlaw13_PlusMeans.f (k : Nat) (l0 : List (List Int)) (a1 : Int) : Option (Bool) := if (l0.length : Int) > 8 then (graftbedlaw13_PlusMeans.j0 k l0 a1 true) else (graftbedlaw13_PlusMeans.j0 k l0 a1 ((l0.length : Int) == 0))
theorem graftbedlaw13_PlusMeans.mono_l : ∀ k, (∀ y0 y1 y2, LeO (graftbedlaw13_PlusMeans.j0 k y0 y1 y2) (graftbedlaw13_PlusMeans.j0 (k + 1) y0 y1 y2)) ∧ (∀ y0 y1 y2 y3 y4, LeO (graftbedlaw13_PlusMeans.l0 k y0 y1 y2 y3 y4) (graftbedlaw13_PlusMeans.l0 (k + 1) y0 y1 y2 y3 y4)) ∧ (∀ y0 y1 y2 y3 y4 y5 y6, LeO (graftbedlaw13_PlusMeans.l1 k y0 y1 y2 y3 y4 y5 y6) (graftbedlaw13_PlusMeans.l1 (k + 1) y0 y1 y2 y3 y4 y5 y6)) ∧ (∀ y0 y1 y2 y3 y4 y5 y6 y7 y8, LeO (graftbedlaw13_PlusMeans.j3 k y0 y1 y2 y3 y4 y5 y6 y7 y8) (graftbedlaw13_PlusMeans.j3 (k + 1) y0 y1 y2 y3 y4 y5 y6 y7 y8)) ∧ (∀ y0 y1 y2 y3 y4 y5 y6 y7 y8, LeO (graftbedlaw13_PlusMeans.j4 k y0 y1 y2 y3 y4 y5 y6 y7 y8) (graftbedlaw13_PlusMeans.j4 (k + 1) y0 y1 y2 y3 y4 y5 y6 y7 y8)) ∧ (∀ y0 y1 y2 y3 y4 y5 y6 y7 y8 y9, LeO (graftbedlaw13_PlusMeans.l2 k y0 y1 y2 y3 y4 y5 y6 y7 y8 y9) (graftbedlaw13_PlusMeans.l2 (k + 1) y0 y1 y2 y3 y4 y5 y6 y7 y8 y9))
  | 0 => ⟨fun _ _ _ r h => by simp [graftbedlaw13_PlusMeans.j0] at h, fun _ _ _ _ _ r h => by simp [graftbedlaw13_PlusMeans.l0] at h, fun _ _ _ _ _ _ _ r h => by simp [graftbedlaw13_PlusMeans.l1] at h, fun _ _ _ _ _ _ _ _ _ r h => by simp [graftbedlaw13_PlusMeans.j3] at h, fun _ _ _ _ _ _ _ _ _ r h => by simp [graftbedlaw13_PlusMeans.j4] at h, fun _ _ _ _ _ _ _ _ _ _ r h => by simp [graftbedlaw13_PlusMeans.l2] at h⟩
  | k + 1 => by
    obtain ⟨ih0, ih1, ih2, ih3, ih4, ih5⟩ := graftbedlaw13_PlusMeans.mono_l k
    refine ⟨?_, ?_, ?_, ?_, ?_, ?_⟩
    · intro y0 y1 y2
      unfold graftbedlaw13_PlusMeans.j0
      repeat' first
      | (with_reducible exact ih0 _ _ _)
      | (with_reducible exact ih1 _ _ _ _ _)
      | (with_reducible exact ih2 _ _ _ _ _ _ _)
      | (with_reducible exact ih3 _ _ _ _ _ _ _ _ _)
      | (with_reducible exact ih4 _ _ _ _ _ _ _ _ _)
      | (with_reducible exact ih5 _ _ _ _ _ _ _ _ _ _)
      | (with_reducible exact graftbedref13_Line.mono _ _)
      | (with_reducible exact LeO.refl _)
      | (with_reducible exact LeO.none _)
      | (with_reducible refine LeO.ite ?_ ?_)
      | (with_reducible refine LeO.bind ?_ (fun _ => ?_))
      | exact ih0 _ _ _
      | exact ih1 _ _ _ _ _
      | exact ih2 _ _ _ _ _ _ _
      | exact ih3 _ _ _ _ _ _ _ _ _
      | exact ih4 _ _ _ _ _ _ _ _ _
      | exact ih5 _ _ _ _ _ _ _ _ _ _
      | exact graftbedref13_Line.mono _ _
      | exact LeO.none _
      | refine LeO.ite ?_ ?_
      | refine LeO.bind ?_ (fun _ => ?_)
    · intro y0 y1 y2 y3 y4
      unfold graftbedlaw13_PlusMeans.l0
      repeat' first
      | (with_reducible exact ih0 _ _ _)
      | (with_reducible exact ih1 _ _ _ _ _)
      | (with_reducible exact ih2 _ _ _ _ _ _ _)
      | (with_reducible exact ih3 _ _ _ _ _ _ _ _ _)
      | (with_reducible exact ih4 _ _ _ _ _ _ _ _ _)
      | (with_reducible exact ih5 _ _ _ _ _ _ _ _ _ _)
      | (with_reducible exact graftbedref13_Line.mono _ _)
      | (with_reducible exact LeO.refl _)
      | (with_reducible exact LeO.none _)
      | (with_reducible refine LeO.ite ?_ ?_)
      | (with_reducible refine LeO.bind ?_ (fun _ => ?_))
      | exact ih0 _ _ _
      | exact ih1 _ _ _ _ _
      | exact ih2 _ _ _ _ _ _ _
      | exact ih3 _ _ _ _ _ _ _ _ _
      | exact ih4 _ _ _ _ _ _ _ _ _
      | exact ih5 _ _ _ _ _ _ _ _ _ _
      | exact graftbedref13_Line.mono _ _
      | exact LeO.none _
      | refine LeO.ite ?_ ?_
      | refine LeO.bind ?_ (fun _ => ?_)
    · intro y0 y1 y2 y3 y4 y5 y6
      unfold graftbedlaw13_PlusMeans.l1
      repeat' first
      | (with_reducible exact ih0 _ _ _)
      | (with_reducible exact ih1 _ _ _ _ _)
      | (with_reducible exact ih2 _ _ _ _ _ _ _)
      | (with_reducible exact ih3 _ _ _ _ _ _ _ _ _)
      | (with_reducible exact ih4 _ _ _ _ _ _ _ _ _)
      | (with_reducible exact ih5 _ _ _ _ _ _ _ _ _ _)
      | (with_reducible exact graftbedref13_Line.mono _ _)
      | (with_reducible exact LeO.refl _)
      | (with_reducible exact LeO.none _)
      | (with_reducible refine LeO.ite ?_ ?_)
      | (with_reducible refine LeO.bind ?_ (fun _ => ?_))
      | exact ih0 _ _ _
      | exact ih1 _ _ _ _ _
      | exact ih2 _ _ _ _ _ _ _
      | exact ih3 _ _ _ _ _ _ _ _ _
      | exact ih4 _ _ _ _ _ _ _ _ _
      | exact ih5 _ _ _ _ _ _ _ _ _ _
      | exact graftbedref13_Line.mono _ _
      | exact LeO.none _
      | refine LeO.ite ?_ ?_
      | refine LeO.bind ?_ (fun _ => ?_)
    · intro y0 y1 y2 y3 y4 y5 y6 y7 y8
      unfold graftbedlaw13_PlusMeans.j3
      repeat' first
      | (with_reducible exact ih0 _ _ _)
      | (with_reducible exact ih1 _ _ _ _ _)
      | (with_reducible exact ih2 _ _ _ _ _ _ _)
      | (with_reducible exact ih3 _ _ _ _ _ _ _ _ _)
      | (with_reducible exact ih4 _ _ _ _ _ _ _ _ _)
      | (with_reducible exact ih5 _ _ _ _ _ _ _ _ _ _)
      | (with_reducible exact graftbedref13_Line.mono _ _)
      | (with_reducible exact LeO.refl _)
      | (with_reducible exact LeO.none _)
      | (with_reducible refine LeO.ite ?_ ?_)
      | (with_reducible refine LeO.bind ?_ (fun _ => ?_))
      | exact ih0 _ _ _
      | exact ih1 _ _ _ _ _
      | exact ih2 _ _ _ _ _ _ _
      | exact ih3 _ _ _ _ _ _ _ _ _
      | exact ih4 _ _ _ _ _ _ _ _ _
      | exact ih5 _ _ _ _ _ _ _ _ _ _
      | exact graftbedref13_Line.mono _ _
      | exact LeO.none _
      | refine LeO.ite ?_ ?_
      | refine LeO.bind ?_ (fun _ => ?_)
    · intro y0 y1 y2 y3 y4 y5 y6 y7 y8
      unfold graftbedlaw13_PlusMeans.j4
      repeat' first
      | (with_reducible exact ih0 _ _ _)
      | (with_reducible exact ih1 _ _ _ _ _)
      | (with_reducible exact ih2 _ _ _ _ _ _ _)
      | (with_reducible exact ih3 _ _ _ _ _ _ _ _ _)
      | (with_reducible exact ih4 _ _ _ _ _ _ _ _ _)
      | (with_reducible exact ih5 _ _ _ _ _ _ _ _ _ _)
      | (with_reducible exact graftbedref13_Line.mono _ _)
      | (with_reducible exact LeO.refl _)
      | (with_reducible exact LeO.none _)
      | (with_reducible refine LeO.ite ?_ ?_)
      | (with_reducible refine LeO.bind ?_ (fun _ => ?_))
      | exact ih0 _ _ _
      | exact ih1 _ _ _ _ _
      | exact ih2 _ _ _ _ _ _ _
      | exact ih3 _ _ _ _ _ _ _ _ _
      | exact ih4 _ _ _ _ _ _ _ _ _
      | exact ih5 _ _ _ _ _ _ _ _ _ _
      | exact graftbedref13_Line.mono _ _
      | exact LeO.none _
      | refine LeO.ite ?_ ?_
      | refine LeO.bind ?_ (fun _ => ?_)
    · intro y0 y1 y2 y3 y4 y5 y6 y7 y8 y9
      unfold graftbedlaw13_PlusMeans.l2
      repeat' first
      | (with_reducible exact ih0 _ _ _)
      | (with_reducible exact ih1 _ _ _ _ _)
      | (with_reducible exact ih2 _ _ _ _ _ _ _)
      | (with_reducible exact ih3 _ _ _ _ _ _ _ _ _)
      | (with_reducible exact ih4 _ _ _ _ _ _ _ _ _)
      | (with_reducible exact ih5 _ _ _ _ _ _ _ _ _ _)
      | (with_reducible exact graftbedref13_Line.mono _ _)
      | (with_reducible exact LeO.refl _)
      | (with_reducible exact LeO.none _)
      | (with_reducible refine LeO.ite ?_ ?_)
      | (with_reducible refine LeO.bind ?_ (fun _ => ?_))
      | exact ih0 _ _ _
      | exact ih1 _ _ _ _ _
      | exact ih2 _ _ _ _ _ _ _
      | exact ih3 _ _ _ _ _ _ _ _ _
      | exact ih4 _ _ _ _ _ _ _ _ _
      | exact ih5 _ _ _ _ _ _ _ _ _ _
      | exact graftbedref13_Line.mono _ _
      | exact LeO.none _
      | refine LeO.ite ?_ ?_
      | refine LeO.bind ?_ (fun _ => ?_)
theorem graftbedlaw13_PlusMeans.mono : ∀ a0 a1 k, LeO (graftbedlaw13_PlusMeans.f k a0 a1) (graftbedlaw13_PlusMeans.f (k + 1) a0 a1) := by
  intro a0 a1 k
  obtain ⟨ih0, ih1, ih2, ih3, ih4, ih5⟩ := graftbedlaw13_PlusMeans.mono_l k
  unfold graftbedlaw13_PlusMeans.f
  repeat' first
      | (with_reducible exact ih0 _ _ _)
      | (with_reducible exact ih1 _ _ _ _ _)
      | (with_reducible exact ih2 _ _ _ _ _ _ _)
      | (with_reducible exact ih3 _ _ _ _ _ _ _ _ _)
      | (with_reducible exact ih4 _ _ _ _ _ _ _ _ _)
      | (with_reducible exact ih5 _ _ _ _ _ _ _ _ _ _)
      | (with_reducible exact graftbedref13_Line.mono _ _)
      | (with_reducible exact LeO.refl _)
      | (with_reducible exact LeO.none _)
      | (with_reducible refine LeO.ite ?_ ?_)
      | (with_reducible refine LeO.bind ?_ (fun _ => ?_))
      | exact ih0 _ _ _
      | exact ih1 _ _ _ _ _
      | exact ih2 _ _ _ _ _ _ _
      | exact ih3 _ _ _ _ _ _ _ _ _
      | exact ih4 _ _ _ _ _ _ _ _ _
      | exact ih5 _ _ _ _ _ _ _ _ _ _
      | exact graftbedref13_Line.mono _ _
      | exact LeO.none _
      | refine LeO.ite ?_ ?_
      | refine LeO.bind ?_ (fun _ => ?_)
set_option maxHeartbeats 8000000 in
set_option maxRecDepth 100000 in
theorem graftbedlaw13_PlusMeans.calls (k : Nat) (A0 : Option Addr) (c0 : Nat) (l0 : List (List Int)) (a1 : Int) (r : Bool) (hr_ : Aside0 (r = true)) (w : World) (hr0 : Kd.C (Kd.slice 5 (Kd.int .u8)) w A0 l0.length l0) (hc0 : l0.length ≤ c0) (h : graftbedlaw13_PlusMeans.f k l0 a1 = some r) :
    Calls Tryd.prog 8 #[.slice A0 l0.length c0, .int .u8 a1] w fun e w' => e = .returned (.bool r) ∧ Below w.heap.size w w' := by
  have HR0 := Aside0.mk hr0
  have HC0 := Aside0.mk hc0
  clear hr0 hc0
  have HB := Aside0.mk (Below.refl w.heap.size w)
  have H : (if (l0.length : Int) > 8 then (graftbedlaw13_PlusMeans.j0 k l0 a1 true) else (graftbedlaw13_PlusMeans.j0 k l0 a1 ((l0.length : Int) == 0))) = some r := h
  clear h
  have HC3 := Aside0.mk H
  clear H
  go_enter Tryd.func8, Tryd.ntmps8
  go_upto_region 1 with (fail)
  go_cut [31] (fun v31 wc => ∃ (kq : Nat) (x31_2 : Bool), v31 = .bool x31_2 ∧ Aside0 (graftbedlaw13_PlusMeans.j0 kq l0 a1 x31_2 = some r) ∧ Aside0 (kq ≤ k) ∧ Aside0 (Below w.heap.size w wc))
  case first =>
    have H := HC3.out
    clear HC3
    by_cases c4 : (l0.length : Int) > 8
    · rw [if_pos c4] at H
      have c4b0 : decide (8 < (l0.length : Int)) = true := decide_eq_true c4
      have c4b1 : decide (8 < l0.length) = true := decide_eq_true (by omega)
      clear c4
      (first | rw [c4b0] | (simp only [i64_w, i32_w]; rw [c4b0]) | skip)
      have H' := Aside0.mk H
      clear H
      go_wp2
      go_meet
      case rel => exact ⟨_, (true), (by first | rfl | (simp; done) | (simp [*]; done)), H', ⟨by first | omega | exact Nat.le_refl _⟩, ⟨by repeat (first | (with_reducible first | exact HB.out | apply below_alloc | apply pw_below_drewN | apply below_drew1) | exact HB.out)⟩⟩
    · rw [if_neg c4] at H
      have c4b0 : decide (8 < (l0.length : Int)) = false := decide_eq_false c4
      have c4b1 : decide (8 < l0.length) = false := decide_eq_false (by omega)
      clear c4
      (first | rw [c4b0] | (simp only [i64_w, i32_w]; rw [c4b0]) | skip)
      have H' := Aside0.mk H
      clear H
      go_wp2
      go_meet
      case rel => exact ⟨_, (((l0.length : Int) == 0)), (by first | rfl | (simp; done) | (simp [*]; done)), H', ⟨by first | omega | exact Nat.le_refl _⟩, ⟨by repeat (first | (with_reducible first | exact HB.out | apply below_alloc | apply pw_below_drewN | apply below_drew1) | exact HB.out)⟩⟩
  case rest =>
    clear HC3
    try clear p2
    try clear c4
    try clear c4b0
    try clear c4b1
    obtain ⟨kq, x31_2, rfl, HA, HJ2, HB⟩ := hcut
    cases kq with
    | zero => exact absurd HA.out (by simp [graftbedlaw13_PlusMeans.j0])
    | succ kj2 =>
      have H := HA.out
      clear HA
      simp only [graftbedlaw13_PlusMeans.j0] at H
      by_cases c5 : x31_2 = true
      · subst c5
        have H1 : ((plus_Line.f (⟨#[]⟩ : ByteArray)).bind fun bt234 => (some (bt234.2 == 120))) = some r := by rw [if_pos rfl] at H; exact H
        clear H
        have H := H1
        clear H1
        replace H := Option.bind_eq_some_iff.mp H
        obtain ⟨⟨t234, t235⟩, A60, H⟩ := H
        replace H : (some (t235 == 120)) = some r := H
        have A6 := Aside0.mk A60
        clear A60
        obtain rfl := Option.some.inj H
        go_wp2_with (first | ((with_reducible refine gate_callee (f := 29) rfl ?_); refine goesL_ (some 33) rfl rfl Tryd.func29 (by kernel_rfl) rfl #[.string (⟨#[]⟩ : ByteArray)] rfl (by (try simp only [List.map_toArray, List.map_cons, List.map_nil]); first | done | rfl | (simp only [List.length_drop, List.length_take]; rfl) | (simp only [ByteArray.size_extract, Nat.min_self]; done) | (simp only [ByteArray.size_append, StrMore.size_lit, List.length_cons, List.length_nil, Nat.zero_add, Nat.reduceAdd] <;> rfl)) ?_; (with_reducible refine (plus_Line.calls (⟨#[]⟩ : ByteArray) t234 t235 _ A6.out).mono ?_); rintro e w7 ⟨v236, rfl, ho0, hb⟩; refine ⟨_, rfl, ?_⟩; have n0_ := Aside0.mk (Kd.R_lower ho0 (below_size (by repeat (first | (with_reducible first | exact HB.out | apply below_alloc | apply pw_below_drewN | apply below_drew1) | exact HB.out)))); have n1_ := Aside0.mk (below_step (by repeat (first | (with_reducible first | exact HB.out | apply below_alloc | apply pw_below_drewN | apply below_drew1) | exact HB.out)) hb); clear HB; have HO237 := n0_; have HB := n1_; clear n0_ n1_; (try clear hb); (try clear hb2); (try clear hk); (try clear hi); (try clear ho0)))
        go_ret
        exact ⟨by first | rfl | (simp [errW_none, errW_some] <;> rfl) | (simp [*, errW_none, errW_some] <;> rfl) | (exfalso; simp only [decide_eq_true_eq, decide_eq_false_iff_not, beq_iff_eq, beq_eq_false_iff_ne] at *; first | contradiction | omega), by repeat (first | (with_reducible first | exact HB.out | apply below_alloc | apply pw_below_drewN | apply below_drew1) | exact HB.out)⟩
      · replace c5 := Bool.eq_false_iff.mpr c5
        subst c5
        have H1 : (graftbedlaw13_PlusMeans.l0 kj2 l0 a1 (([(⟨#[97]⟩ : ByteArray), (⟨#[98]⟩ : ByteArray), (⟨#[99]⟩ : ByteArray), (⟨#[100]⟩ : ByteArray)] : List ByteArray)) (([] : List ByteArray)) 0) = some r := by rw [if_neg (show ¬ (false = true) by decide)] at H; exact H
        clear H
        have H := H1
        clear H1
        obtain ⟨y238, hy238⟩ : ∃ y_ : List ByteArray, y_ = (([(⟨#[97]⟩ : ByteArray), (⟨#[98]⟩ : ByteArray), (⟨#[99]⟩ : ByteArray), (⟨#[100]⟩ : ByteArray)] : List ByteArray)) := ⟨_, rfl⟩
        replace H : (graftbedlaw13_PlusMeans.l0 kj2 l0 a1 y238 (([] : List ByteArray)) 0) = some r := by first | (rw [hy238]; with_reducible exact H) | (have H2_ := (Option.bind_some _ _).symm.trans H; rw [hy238]; with_reducible exact H2_) | (have H2_ := (Option.bind_some _ _).symm.trans H; with_reducible exact H2_) | with_reducible exact H | (rw [hy238]; exact H) | exact H
        have Ny238 := Aside0.mk hy238
        clear hy238
        obtain ⟨y241, hy241⟩ : ∃ y_ : List ByteArray, y_ = (([] : List ByteArray)) := ⟨_, rfl⟩
        replace H : (graftbedlaw13_PlusMeans.l0 kj2 l0 a1 y238 y241 0) = some r := by first | (rw [hy241]; with_reducible exact H) | (have H2_ := (Option.bind_some _ _).symm.trans H; rw [hy241]; with_reducible exact H2_) | (have H2_ := (Option.bind_some _ _).symm.trans H; with_reducible exact H2_) | with_reducible exact H | (rw [hy241]; exact H) | exact H
        have Ny241 := Aside0.mk hy241
        clear hy241
        have H' := Aside0.mk H
        clear H
        go_wp2_with (first | ((with_reducible refine gate_dst (N := 38) rfl ?_); (try (refine gate_guard (by rfl) ?_; dsimp only)); refine Kd.R_lit Kd.string _ 9 ?hg (N := 38) ?hd (xs := ([(⟨#[97]⟩ : ByteArray), (⟨#[98]⟩ : ByteArray), (⟨#[99]⟩ : ByteArray), (⟨#[100]⟩ : ByteArray)] : List ByteArray)) (inner := [.string (⟨#[97]⟩ : ByteArray), .string (⟨#[98]⟩ : ByteArray), .string (⟨#[99]⟩ : ByteArray), .string (⟨#[100]⟩ : ByteArray)]) (ok := fun _ => True) (okp := fun _ => True) ?hr ?hp (fun _ hk => hk) trivial (Below.refl _ _) (Nat.le_refl _) (by simp) ?_; (case hd => rfl); (case hg => rfl); (case hr => first | (go_simp; done) | (go_simp; rfl)); (case hp => exact (Reps.one (show Kd.M Kd.string _ _ _ (⟨#[97]⟩ : ByteArray) [.string (⟨#[97]⟩ : ByteArray)] from rfl) (Reps.one (show Kd.M Kd.string _ _ _ (⟨#[98]⟩ : ByteArray) [.string (⟨#[98]⟩ : ByteArray)] from rfl) (Reps.one (show Kd.M Kd.string _ _ _ (⟨#[99]⟩ : ByteArray) [.string (⟨#[99]⟩ : ByteArray)] from rfl) (Reps.one (show Kd.M Kd.string _ _ _ (⟨#[100]⟩ : ByteArray) [.string (⟨#[100]⟩ : ByteArray)] from rfl) (Reps.none _ _)))))); intro v239 w8 ho9 hb hg_ hnew_; clear hg_ hnew_; (first | rw [← Ny238.out] at ho9 | (simp only [Int.reduceToNat] at ho9; rw [← Ny238.out] at ho9)); have n0_ := Aside0.mk (Kd.R_lower ho9 (below_size (by repeat (first | (with_reducible first | exact HB.out | apply below_alloc | apply pw_below_drewN | apply below_drew1) | exact HB.out)))); have n1_ := Aside0.mk (below_step (by repeat (first | (with_reducible first | exact HB.out | apply below_alloc | apply pw_below_drewN | apply below_drew1) | exact HB.out)) hb); clear HB; have HO240 := n0_; have HB := n1_; clear n0_ n1_; clear hb ho9) | ((with_reducible refine gate_dst (N := 39) rfl ?_); (try (refine gate_guard (by rfl) ?_; dsimp only)); refine Kd.R_lit Kd.string _ 9 ?hg (N := 39) ?hd (xs := ([] : List ByteArray)) (inner := []) (ok := fun _ => True) (okp := fun _ => True) ?hr ?hp (fun _ hk => hk) trivial (Below.refl _ _) (Nat.le_refl _) (by simp) ?_; (case hd => rfl); (case hg => rfl); (case hr => first | (go_simp; done) | (go_simp; rfl)); (case hp => exact (Reps.none _ _)); intro v242 w10 ho11 hb hg_ hnew_; clear hg_ hnew_; (first | rw [← Ny241.out] at ho11 | (simp only [Int.reduceToNat] at ho11; rw [← Ny241.out] at ho11)); have n0_ := Aside0.mk (Kd.R_elder' (by (with_reducible repeat (first | apply Kd.R_alloc | apply Kd.R_drewN | apply Kd.R_drew)); exact HO240.out) (Kd.R_base ho11) hb); have n1_ := Aside0.mk (Kd.R_lower (Kd.R_new' ho11 (Kd.R_lt (by (with_reducible repeat (first | apply Kd.R_alloc | apply Kd.R_drewN | apply Kd.R_drew)); exact HO240.out))) (below_size (by repeat (first | (with_reducible first | exact HB.out | apply below_alloc | apply pw_below_drewN | apply below_drew1) | exact HB.out)))); have n2_ := Aside0.mk (below_step (by repeat (first | (with_reducible first | exact HB.out | apply below_alloc | apply pw_below_drewN | apply below_drew1) | exact HB.out)) hb); clear HO240; clear HB; have HO240 := n0_; have HO243 := n1_; have HB := n2_; clear n0_ n1_ n2_; clear hb ho11))
        go_loopg [8, 9] kj2 (fun kq v8 v9 w' => ∃ (x8_2 : List ByteArray) (x9_2 : Int), v9 = .int .i64 x9_2 ∧ Aside0 (graftbedlaw13_PlusMeans.l0 kq l0 a1 y238 x8_2 x9_2 = some r) ∧ Aside0 (kq ≤ kj2) ∧ Aside0 (Kd.R Kd.string 9 w' w.heap.size (fun k_ => some k_ ≠ (v8 : Value).ownBlock) v239 y238) ∧ Aside0 (Kd.R Kd.string 9 w' w.heap.size (fun k_ => some k_ ≠ (v239 : Value).ownBlock) v8 x8_2) ∧ Aside0 (Below w.heap.size w w'))
        case atStart => exact ⟨(y241), (0), (by first | rfl | (simp; done) | (simp [*]; done)), H', ⟨Nat.le_refl _⟩, ⟨by (with_reducible repeat (first | apply Kd.R_alloc | apply Kd.R_drewN | apply Kd.R_drew)); exact Kd.R_mono HO240.out (fun _ hk => hk.2)⟩, ⟨by (with_reducible repeat (first | apply Kd.R_alloc | apply Kd.R_drewN | apply Kd.R_drew)); exact Kd.R_mono HO243.out (fun _ hk => hk.2)⟩, ⟨by repeat (first | (with_reducible first | exact HB.out | apply below_alloc | apply pw_below_drewN | apply below_drew1) | exact HB.out)⟩⟩
        case round =>
          clear H'
          try clear c2
          try clear p2
          try clear c4
          try clear c4b0
          try clear c4b1
          try clear c5
          try clear c8
          try clear p2
          obtain ⟨x8_2, x9_2, rfl, HA, HK2, HO_7, HO_8, HB⟩ := hrel
          cases gk with
          | zero => exact absurd HA.out (by simp [graftbedlaw13_PlusMeans.l0])
          | succ k2 =>
            have H := HA.out
            clear HA
            simp only [graftbedlaw13_PlusMeans.l0] at H
            by_cases c12 : x9_2 < 4
            · rw [if_pos c12] at H
              have c12b0 : decide (x9_2 < 4) = true := decide_eq_true c12
              clear c12
              obtain ⟨ji13, hji13⟩ : ∃ j_ : Int, (IntKind.u64.wrap (x9_2)) = j_ := ⟨_, rfl⟩
              replace H : (if 0 ≤ (ji13) then (if (Int.tmod (shr .u8 a1 (ji13)) 2) = 1 then (if 0 ≤ x9_2 then (if x9_2 < (y238.length : Int) then (if x8_2.length < 8796093022208 then (graftbedlaw13_PlusMeans.l0 k2 l0 a1 y238 (x8_2 ++ [rdOf ByteArray.empty y238 x9_2]) (wrap64 (x9_2 + 1))) else (none)) else (none)) else (none)) else (graftbedlaw13_PlusMeans.l0 k2 l0 a1 y238 x8_2 (wrap64 (x9_2 + 1)))) else (none)) = some r := by first | (rw [hji13] at H; exact H) | (simp only [hji13] at H ⊢; exact H)
              by_cases c14 : 0 ≤ (ji13)
              · rw [if_pos c14] at H
                have c14b0 := eq_true c14
                have c14b1 : decide (0 ≤ (ji13)) = true := decide_eq_true c14
                clear c14
                obtain ⟨ji15, hji15⟩ : ∃ j_ : Int, (shr .u8 a1 (ji13)) = j_ := ⟨_, rfl⟩
                replace H : (if (Int.tmod (ji15) 2) = 1 then (if 0 ≤ x9_2 then (if x9_2 < (y238.length : Int) then (if x8_2.length < 8796093022208 then (graftbedlaw13_PlusMeans.l0 k2 l0 a1 y238 (x8_2 ++ [rdOf ByteArray.empty y238 x9_2]) (wrap64 (x9_2 + 1))) else (none)) else (none)) else (none)) else (graftbedlaw13_PlusMeans.l0 k2 l0 a1 y238 x8_2 (wrap64 (x9_2 + 1)))) = some r := by first | (rw [hji15] at H; exact H) | (simp only [hji15] at H ⊢; exact H)
                have hji15_ : (a1 / 2 ^ min (ji13).toNat 8) = ji15 := hji15
                have hji15z : (ji13) ≤ 8 → (a1 / 2 ^ (ji13).toNat) = ji15 := shr_small hji15
                by_cases c16 : (Int.tmod (ji15) 2) = 1
                · rw [if_pos c16] at H
                  have c16b0 : ((Int.tmod (ji15) 2) == 1) = true := beq_iff_eq.mpr c16
                  have c16b1 : ((Int.tmod (ji15) 2) != 1) = false := bne_eq_false_iff_eq.mpr c16
                  clear c16
                  by_cases c17 : 0 ≤ x9_2
                  · rw [if_pos c17] at H
                    have c17b0 : decide (0 ≤ x9_2) = true := decide_eq_true c17
                    clear c17
                    by_cases c18 : x9_2 < (y238.length : Int)
                    · rw [if_pos c18] at H
                      have c18b0 : decide (x9_2 < (y238.length : Int)) = true := decide_eq_true c18
                      clear c18
                      by_cases c19 : x8_2.length < 8796093022208
                      · rw [if_pos c19] at H
                        have LMc19 := Aside0.mk c19
                        clear c19
                        obtain ⟨y245, hy245⟩ : ∃ y_ : List ByteArray, y_ = (x8_2 ++ [rdOf ByteArray.empty y238 x9_2]) := ⟨_, rfl⟩
                        replace H : (graftbedlaw13_PlusMeans.l0 k2 l0 a1 y238 y245 (wrap64 (x9_2 + 1))) = some r := by first | (rw [hy245]; with_reducible exact H) | (have H2_ := (Option.bind_some _ _).symm.trans H; rw [hy245]; with_reducible exact H2_) | (have H2_ := (Option.bind_some _ _).symm.trans H; with_reducible exact H2_) | with_reducible exact H | (rw [hy245]; exact H) | exact H
                        have Ny245 := Aside0.mk hy245
                        clear hy245
                        have H' := Aside0.mk H
                        clear H
                        obtain ⟨Ao20, co20, eo20⟩ := Kd.R_slice HO_7.out
                        subst eo20
                        have p244 : 0 ≤ (x9_2 : Int) := of_decide_eq_true (by first | (with_reducible assumption) | assumption)
                        have q244 : x9_2 < (y238.length : Int) := of_decide_eq_true (by first | (with_reducible assumption) | assumption)
                        obtain ⟨ad244, e244, hx244_0⟩ := Kd.at_string (Kd.R_reads' HO_7.out).2.2 x9_2 p244 q244
                        cases e244
                        replace p244 := eq_true p244
                        replace q244 := eq_true q244
                        go_wp2_with (first | ((with_reducible refine gate_builtin (b := .append) (xs := #[.tmp 50, .tmp 55]) rfl ?_); (try (refine gate_guard (by rfl) ?_; dsimp only)); at_builtin; refine Kd.R_append Kd.string (w0 := w) w.heap.size rfl (.tmp 50) (.tmp 55) 23 9 (.string ⟨#[]⟩) 16 rfl Tryd.underlying23 info9 rfl (by decide) (by omega) u8 x8_2 (rdOf ByteArray.empty y238 x9_2) [.string (rdOf ByteArray.empty y238 x9_2)] (fun k_ => some k_ ≠ (.slice (some ad244) y238.length co20 : Value).ownBlock) (fun _ => False) rfl rfl ?aP (fun _ hk => hk.elim) ?aF ?aO ?aB ?aS ?aL ?_; (case aP => exact rfl); (case aB => exact (by repeat (first | (with_reducible first | exact HB.out | apply below_alloc | apply pw_below_drewN | apply below_drew1) | exact HB.out))); (case aF => exact (fun k_ hk => Kd.fresh' (Kd.R_lt (by (with_reducible repeat (first | apply Kd.R_alloc | apply Kd.R_drewN | apply Kd.R_drew)); exact HO_7.out)) k_ hk)); (case aO => exact (by (with_reducible repeat (first | apply Kd.R_alloc | apply Kd.R_drewN | apply Kd.R_drew)); exact HO_8.out)); (case aS => exact (below_size (by repeat (first | (with_reducible first | exact HB.out | apply below_alloc | apply pw_below_drewN | apply below_drew1) | exact HB.out)))); (case aL => have := LMc19.out; omega); intro v246 w21 ho hb hg hat; rw [← Ny245.out] at ho; have n0_ := Aside0.mk (Kd.R_after (ok := (fun _ => True)) (by (with_reducible repeat (first | apply Kd.R_alloc | apply Kd.R_drewN | apply Kd.R_drew)); exact Kd.R_mono HO_7.out (fun _ hk => ⟨trivial, hk⟩)) hg hat); have n1_ := Aside0.mk (hb); have n2_ := Aside0.mk (ho); clear HO_7; clear HB; clear HO_8; have HO_7 := n0_; have HB := n1_; have HO247 := n2_; clear n0_ n1_ n2_; clear ho hb hg hat))
                        go_roundg k2
                        case measure => have := HJ2.out; have := HK2.out; omega
                        case rel => exact ⟨(y245), (wrap64 (x9_2 + 1)), (by first | rfl | (simp; done) | (simp [*]; done)), H', ⟨by have := HJ2.out; have := HK2.out; omega⟩, ⟨by (with_reducible repeat (first | apply Kd.R_alloc | apply Kd.R_drewN | apply Kd.R_drew)); exact Kd.R_mono HO_7.out (fun _ hk => hk.2)⟩, ⟨by (with_reducible repeat (first | apply Kd.R_alloc | apply Kd.R_drewN | apply Kd.R_drew)); first | exact HO247.out | (have e_ := HO247.out; simp only [StrOrd.own_any] at e_ ⊢; exact e_)⟩, ⟨by repeat (first | (with_reducible first | exact HB.out | apply below_alloc | apply pw_below_drewN | apply below_drew1) | exact HB.out)⟩⟩
                      · rw [if_neg c19] at H
                        exact absurd H (by simp)
                    · rw [if_neg c18] at H
                      exact absurd H (by simp)
                  · rw [if_neg c17] at H
                    exact absurd H (by simp)
                · rw [if_neg c16] at H
                  have c16b0 : ((Int.tmod (ji15) 2) == 1) = false := beq_eq_false_iff_ne.mpr c16
                  have c16b1 : ((Int.tmod (ji15) 2) != 1) = true := bne_iff_ne.mpr c16
                  have H' := Aside0.mk H
                  clear H
                  go_wp2
                  go_roundg k2
                  case measure => have := HJ2.out; have := HK2.out; omega
                  case rel => exact ⟨(x8_2), (wrap64 (x9_2 + 1)), (by first | rfl | (simp; done) | (simp [*]; done)), H', ⟨by have := HJ2.out; have := HK2.out; omega⟩, ⟨by (with_reducible repeat (first | apply Kd.R_alloc | apply Kd.R_drewN | apply Kd.R_drew)); first | exact HO_7.out | (have e_ := HO_7.out; simp only [StrOrd.own_any] at e_ ⊢; exact e_)⟩, ⟨by (with_reducible repeat (first | apply Kd.R_alloc | apply Kd.R_drewN | apply Kd.R_drew)); first | exact HO_8.out | (have e_ := HO_8.out; simp only [StrOrd.own_any] at e_ ⊢; exact e_)⟩, ⟨by repeat (first | (with_reducible first | exact HB.out | apply below_alloc | apply pw_below_drewN | apply below_drew1) | exact HB.out)⟩⟩
              · rw [if_neg c14] at H
                exact absurd H (by simp)
            · rw [if_neg c12] at H
              have c12b0 : decide (x9_2 < 4) = false := decide_eq_false c12
              clear c12
              have H' := Aside0.mk H
              clear H
              go_wp2
              go_loopg [10, 11, 12] k2 (fun kq v10 v11 v12 w' => ∃ (x10_3 : ByteArray) (x11_3 : Bool) (x12_3 : Int), v10 = .string x10_3 ∧ v11 = .bool x11_3 ∧ v12 = .int .i64 x12_3 ∧ Aside0 (graftbedlaw13_PlusMeans.l1 kq l0 a1 y238 x8_2 x10_3 x11_3 x12_3 = some r) ∧ Aside0 (kq ≤ k2) ∧ Aside0 (Kd.R Kd.string 9 w' w.heap.size (fun k_ => some k_ ≠ (u8 : Value).ownBlock) v239 y238) ∧ Aside0 (Kd.R Kd.string 9 w' w.heap.size (fun k_ => some k_ ≠ (v239 : Value).ownBlock) u8 x8_2) ∧ Aside0 (Below w.heap.size w w'))
              case atStart => exact ⟨((⟨#[]⟩ : ByteArray)), (false), (0), (by first | rfl | (simp; done) | (simp [*]; done)), (by first | rfl | (simp; done) | (simp [*]; done)), (by first | rfl | (simp; done) | (simp [*]; done)), H', ⟨Nat.le_refl _⟩, ⟨by (with_reducible repeat (first | apply Kd.R_alloc | apply Kd.R_drewN | apply Kd.R_drew)); first | exact HO_7.out | (have e_ := HO_7.out; simp only [StrOrd.own_any] at e_ ⊢; exact e_)⟩, ⟨by (with_reducible repeat (first | apply Kd.R_alloc | apply Kd.R_drewN | apply Kd.R_drew)); first | exact HO_8.out | (have e_ := HO_8.out; simp only [StrOrd.own_any] at e_ ⊢; exact e_)⟩, ⟨by repeat (first | (with_reducible first | exact HB.out | apply below_alloc | apply pw_below_drewN | apply below_drew1) | exact HB.out)⟩⟩
              case round =>
                clear H'
                try clear c1
                try clear c2
                try clear p2
                try clear q2
                try clear hx2
                try clear c4
                try clear c4b0
                try clear c4b1
                try clear c5
                try clear p6
                try clear c8
                try clear c12
                try clear c12b0
                try clear c14
                try clear c14b0
                try clear c14b1
                try clear c16
                try clear c16b0
                try clear c16b1
                try clear c17
                try clear c17b0
                try clear c18
                try clear c18b0
                try clear c19
                try clear hx244_0
                try clear p2
                try clear p244
                try clear q244
                obtain ⟨x10_3, x11_3, x12_3, rfl, rfl, rfl, HA, HK3, HO_7, HO_8, HB⟩ := hrel
                cases gk with
                | zero => exact absurd HA.out (by simp [graftbedlaw13_PlusMeans.l1])
                | succ k3 =>
                  have H := HA.out
                  clear HA
                  simp only [graftbedlaw13_PlusMeans.l1] at H
                  by_cases c22 : x12_3 < (l0.length : Int)
                  · rw [if_pos c22] at H
                    have c22b0 : decide (x12_3 < (l0.length : Int)) = true := decide_eq_true c22
                    clear c22
                    by_cases c23 : 0 ≤ x12_3
                    · rw [if_pos c23] at H
                      have c23b0 : decide (0 ≤ x12_3) = true := decide_eq_true c23
                      clear c23
                      have HC24 := Aside0.mk H
                      clear H
                      have p248 : 0 ≤ (x12_3 : Int) := of_decide_eq_true (by first | (with_reducible assumption) | assumption)
                      have q248 : x12_3 < (l0.length : Int) := of_decide_eq_true (by first | (with_reducible assumption) | assumption)
                      obtain ⟨ad248, A248_0, c248_0, e248, hx248_0, hl248_0, hi248_0⟩ := at_L9 HR0.out x12_3 p248 q248
                      cases e248
                      replace hx248_0 := (HB.out.cell (World.block_lt_of_cell? w _ hx248_0)).trans hx248_0
                      have HR248_0 := Aside0.mk hi248_0
                      have HC248_0 := Aside0.mk hl248_0
                      clear hi248_0 hl248_0
                      replace p248 := eq_true p248
                      replace q248 := eq_true q248
                      go_upto_region 17 with (fail)
                      go_cut [74] (fun v74 wc => ∃ (kq : Nat) (x74_23 : Bool), v74 = .bool x74_23 ∧ Aside0 (graftbedlaw13_PlusMeans.j3 kq l0 a1 y238 x8_2 x10_3 x11_3 x12_3 (rd_L9 l0 x12_3) x74_23 = some r) ∧ Aside0 (kq ≤ k3) ∧ Aside0 (Kd.R Kd.string 9 wc w.heap.size (fun k_ => some k_ ≠ (u8 : Value).ownBlock) v239 y238) ∧ Aside0 (Kd.R Kd.string 9 wc w.heap.size (fun k_ => some k_ ≠ (v239 : Value).ownBlock) u8 x8_2) ∧ Aside0 (Below w.heap.size w wc))
                      case first =>
                        have H := HC24.out
                        clear HC24
                        by_cases c25 : ((rd_L9 l0 x12_3).length : Int) > 4
                        · rw [if_pos c25] at H
                          have c25b0 : decide (4 < ((rd_L9 l0 x12_3).length : Int)) = true := decide_eq_true c25
                          have c25b1 : decide (4 < (rd_L9 l0 x12_3).length) = true := decide_eq_true (by omega)
                          clear c25
                          (first | rw [c25b0] | (simp only [i64_w, i32_w]; rw [c25b0]) | skip)
                          have H' := Aside0.mk H
                          clear H
                          go_wp2
                          go_meet
                          case rel => exact ⟨_, (true), (by first | rfl | (simp; done) | (simp [*]; done)), H', ⟨by have := HJ2.out; have := HK2.out; have := HK3.out; first | omega | exact Nat.le_refl _⟩, ⟨by (with_reducible repeat (first | apply Kd.R_alloc | apply Kd.R_drewN | apply Kd.R_drew)); first | exact HO_7.out | (have e_ := HO_7.out; simp only [StrOrd.own_any] at e_ ⊢; exact e_)⟩, ⟨by (with_reducible repeat (first | apply Kd.R_alloc | apply Kd.R_drewN | apply Kd.R_drew)); first | exact HO_8.out | (have e_ := HO_8.out; simp only [StrOrd.own_any] at e_ ⊢; exact e_)⟩, ⟨by repeat (first | (with_reducible first | exact HB.out | apply below_alloc | apply pw_below_drewN | apply below_drew1) | exact HB.out)⟩⟩
                        · rw [if_neg c25] at H
                          have c25b0 : decide (4 < ((rd_L9 l0 x12_3).length : Int)) = false := decide_eq_false c25
                          have c25b1 : decide (4 < (rd_L9 l0 x12_3).length) = false := decide_eq_false (by omega)
                          clear c25
                          (first | rw [c25b0] | (simp only [i64_w, i32_w]; rw [c25b0]) | skip)
                          have H' := Aside0.mk H
                          clear H
                          go_wp2
                          go_meet
                          case rel => exact ⟨_, ((((rd_L9 l0 x12_3).length : Int) == 0)), (by first | rfl | (simp; done) | (simp [*]; done)), H', ⟨by have := HJ2.out; have := HK2.out; have := HK3.out; first | omega | exact Nat.le_refl _⟩, ⟨by (with_reducible repeat (first | apply Kd.R_alloc | apply Kd.R_drewN | apply Kd.R_drew)); first | exact HO_7.out | (have e_ := HO_7.out; simp only [StrOrd.own_any] at e_ ⊢; exact e_)⟩, ⟨by (with_reducible repeat (first | apply Kd.R_alloc | apply Kd.R_drewN | apply Kd.R_drew)); first | exact HO_8.out | (have e_ := HO_8.out; simp only [StrOrd.own_any] at e_ ⊢; exact e_)⟩, ⟨by repeat (first | (with_reducible first | exact HB.out | apply below_alloc | apply pw_below_drewN | apply below_drew1) | exact HB.out)⟩⟩
                      case rest =>
                        clear HC24
                        try clear c1
                        try clear c2
                        try clear p2
                        try clear q2
                        try clear hx2
                        try clear c4
                        try clear c4b0
                        try clear c4b1
                        try clear c5
                        try clear p6
                        try clear c8
                        try clear c12
                        try clear c12b0
                        try clear c14
                        try clear c14b0
                        try clear c14b1
                        try clear c16
                        try clear c16b0
                        try clear c16b1
                        try clear c17
                        try clear c17b0
                        try clear c18
                        try clear c18b0
                        try clear c19
                        try clear c22
                        try clear c22b0
                        try clear c23
                        try clear c23b0
                        try clear c24
                        try clear p24
                        try clear q24
                        try clear hx24
                        try clear c25
                        try clear c25b0
                        try clear c25b1
                        try clear hx244_0
                        try clear hx248_0
                        try clear p2
                        try clear p244
                        try clear p248
                        try clear p6
                        try clear q2
                        try clear q244
                        try clear q248
                        obtain ⟨kq, x74_23, rfl, HA, HJ23, HO_7, HO_8, HB⟩ := hcut
                        cases kq with
                        | zero => exact absurd HA.out (by simp [graftbedlaw13_PlusMeans.j3])
                        | succ kj23 =>
                          have H := HA.out
                          clear HA
                          simp only [graftbedlaw13_PlusMeans.j3] at H
                          by_cases c26 : x74_23 = true
                          · subst c26
                            have H1 : ((plus_Line.f (⟨#[]⟩ : ByteArray)).bind fun bt249 => (some (bt249.2 == 120))) = some r := by rw [if_pos rfl] at H; exact H
                            clear H
                            have H := H1
                            clear H1
                            replace H := Option.bind_eq_some_iff.mp H
                            obtain ⟨⟨t249, t250⟩, A270, H⟩ := H
                            replace H : (some (t250 == 120)) = some r := H
                            have A27 := Aside0.mk A270
                            clear A270
                            obtain rfl := Option.some.inj H
                            go_wp2_with (first | ((with_reducible refine gate_callee (f := 29) rfl ?_); refine goesL_ (some 76) rfl rfl Tryd.func29 (by kernel_rfl) rfl #[.string (⟨#[]⟩ : ByteArray)] rfl (by (try simp only [List.map_toArray, List.map_cons, List.map_nil]); first | done | rfl | (simp only [List.length_drop, List.length_take]; rfl) | (simp only [ByteArray.size_extract, Nat.min_self]; done) | (simp only [ByteArray.size_append, StrMore.size_lit, List.length_cons, List.length_nil, Nat.zero_add, Nat.reduceAdd] <;> rfl)) ?_; (with_reducible refine (plus_Line.calls (⟨#[]⟩ : ByteArray) t249 t250 _ A27.out).mono ?_); rintro e w28 ⟨v251, rfl, ho0, hb⟩; refine ⟨_, rfl, ?_⟩; have n0_ := Aside0.mk (Kd.R_below (by (with_reducible repeat (first | apply Kd.R_alloc | apply Kd.R_drewN | apply Kd.R_drew)); exact HO_7.out) hb); have n1_ := Aside0.mk (Kd.R_below (by (with_reducible repeat (first | apply Kd.R_alloc | apply Kd.R_drewN | apply Kd.R_drew)); exact HO_8.out) hb); have n2_ := Aside0.mk (Kd.R_lower ho0 (below_size (by repeat (first | (with_reducible first | exact HB.out | apply below_alloc | apply pw_below_drewN | apply below_drew1) | exact HB.out)))); have n3_ := Aside0.mk (below_step (by repeat (first | (with_reducible first | exact HB.out | apply below_alloc | apply pw_below_drewN | apply below_drew1) | exact HB.out)) hb); clear HO_7; clear HO_8; clear HB; have HO_7 := n0_; have HO_8 := n1_; have HO252 := n2_; have HB := n3_; clear n0_ n1_ n2_ n3_; (try clear hb); (try clear hb2); (try clear hk); (try clear hi); (try clear ho0)))
                            go_ret
                            exact ⟨by first | rfl | (simp [errW_none, errW_some] <;> rfl) | (simp [*, errW_none, errW_some] <;> rfl) | (exfalso; simp only [decide_eq_true_eq, decide_eq_false_iff_not, beq_iff_eq, beq_eq_false_iff_ne] at *; first | contradiction | omega), by repeat (first | (with_reducible first | exact HB.out | apply below_alloc | apply pw_below_drewN | apply below_drew1) | exact HB.out)⟩
                          · replace c26 := Bool.eq_false_iff.mpr c26
                            subst c26
                            have H1 : (if x12_3 > 0 then (if x10_3.size + 2 ≤ 9223372036854775807 then (graftbedlaw13_PlusMeans.j4 kj23 l0 a1 y238 x8_2 (x10_3 ++ (⟨#[32, 32]⟩ : ByteArray)) x11_3 x12_3 (rd_L9 l0 x12_3) true) else (none)) else (graftbedlaw13_PlusMeans.j4 kj23 l0 a1 y238 x8_2 x10_3 x11_3 x12_3 (rd_L9 l0 x12_3) true)) = some r := by rw [if_neg (show ¬ (false = true) by decide)] at H; exact H
                            clear H
                            have H := H1
                            clear H1
                            have HC29 := Aside0.mk H
                            clear H
                            go_upto_if 82 with (fail)
                            go_cut [10] (fun v10 wc => ∃ (kq : Nat) (x10_28 : ByteArray), v10 = .string x10_28 ∧ Aside0 (graftbedlaw13_PlusMeans.j4 kq l0 a1 y238 x8_2 x10_28 x11_3 x12_3 (rd_L9 l0 x12_3) true = some r) ∧ Aside0 (kq ≤ kj23) ∧ Aside0 (Kd.R Kd.string 9 wc w.heap.size (fun k_ => some k_ ≠ (u8 : Value).ownBlock) v239 y238) ∧ Aside0 (Kd.R Kd.string 9 wc w.heap.size (fun k_ => some k_ ≠ (v239 : Value).ownBlock) u8 x8_2) ∧ Aside0 (Below w.heap.size w wc))
                            case first =>
                              have H := HC29.out
                              clear HC29
                              by_cases c30 : x12_3 > 0
                              · rw [if_pos c30] at H
                                have c30b0 : decide (0 < x12_3) = true := decide_eq_true c30
                                clear c30
                                (first | rw [c30b0] | (simp only [i64_w, i32_w]; rw [c30b0]) | skip)
                                by_cases c31 : x10_3.size + 2 ≤ 9223372036854775807
                                · rw [if_pos c31] at H
                                  have c31b0 := eq_true c31
                                  have c31b1 : decide (x10_3.size + 2 ≤ 9223372036854775807) = true := decide_eq_true c31
                                  try have c31b2 : (9223372036854775807 < x10_3.size + 2) = False := eq_false (Nat.not_lt.2 c31)
                                  have c31b7 := c31
                                  try simp only [ByteArray.size_append, StrMore.size_lit, List.length_cons, List.length_nil, Nat.zero_add, Nat.reduceAdd] at c31b7
                                  have c31b8 := eq_false (Nat.not_lt.2 c31b7)
                                  have H' := Aside0.mk H
                                  clear H
                                  go_wp2
                                  go_meet
                                  case rel => exact ⟨_, (x10_3 ++ (⟨#[32, 32]⟩ : ByteArray)), (by first | rfl | (simp; done) | (simp [*]; done)), H', ⟨by have := HJ2.out; have := HK2.out; have := HK3.out; have := HJ23.out; first | omega | exact Nat.le_refl _⟩, ⟨by (with_reducible repeat (first | apply Kd.R_alloc | apply Kd.R_drewN | apply Kd.R_drew)); first | exact HO_7.out | (have e_ := HO_7.out; simp only [StrOrd.own_any] at e_ ⊢; exact e_)⟩, ⟨by (with_reducible repeat (first | apply Kd.R_alloc | apply Kd.R_drewN | apply Kd.R_drew)); first | exact HO_8.out | (have e_ := HO_8.out; simp only [StrOrd.own_any] at e_ ⊢; exact e_)⟩, ⟨by repeat (first | (with_reducible first | exact HB.out | apply below_alloc | apply pw_below_drewN | apply below_drew1) | exact HB.out)⟩⟩
                                · rw [if_neg c31] at H
                                  exact absurd H (by simp)
                              · rw [if_neg c30] at H
                                have c30b0 : decide (0 < x12_3) = false := decide_eq_false c30
                                clear c30
                                (first | rw [c30b0] | (simp only [i64_w, i32_w]; rw [c30b0]) | skip)
                                have H' := Aside0.mk H
                                clear H
                                go_wp2
                                go_meet
                                case rel => exact ⟨_, (x10_3), (by first | rfl | (simp; done) | (simp [*]; done)), H', ⟨by have := HJ2.out; have := HK2.out; have := HK3.out; have := HJ23.out; first | omega | exact Nat.le_refl _⟩, ⟨by (with_reducible repeat (first | apply Kd.R_alloc | apply Kd.R_drewN | apply Kd.R_drew)); first | exact HO_7.out | (have e_ := HO_7.out; simp only [StrOrd.own_any] at e_ ⊢; exact e_)⟩, ⟨by (with_reducible repeat (first | apply Kd.R_alloc | apply Kd.R_drewN | apply Kd.R_drew)); first | exact HO_8.out | (have e_ := HO_8.out; simp only [StrOrd.own_any] at e_ ⊢; exact e_)⟩, ⟨by repeat (first | (with_reducible first | exact HB.out | apply below_alloc | apply pw_below_drewN | apply below_drew1) | exact HB.out)⟩⟩
                            case rest =>
                              clear HC29
                              try clear c1
                              try clear c2
                              try clear p2
                              try clear q2
                              try clear hx2
                              try clear c3
                              try clear c4
                              try clear c4b0
                              try clear c4b1
                              try clear c5
                              try clear p6
                              try clear c8
                              try clear c12
                              try clear c12b0
                              try clear c14
                              try clear c14b0
                              try clear c14b1
                              try clear c16
                              try clear c16b0
                              try clear c16b1
                              try clear c17
                              try clear c17b0
                              try clear c18
                              try clear c18b0
                              try clear c19
                              try clear c22
                              try clear c22b0
                              try clear c23
                              try clear c23b0
                              try clear c24
                              try clear p24
                              try clear q24
                              try clear hx24
                              try clear c25
                              try clear c25b0
                              try clear c25b1
                              try clear c26
                              try clear c29
                              try clear c30
                              try clear c30b0
                              try clear c31
                              try clear c31b0
                              try clear c31b1
                              try clear c31b2
                              try clear hx244_0
                              try clear hx248_0
                              try clear p2
                              try clear p24
                              try clear p244
                              try clear p248
                              try clear p6
                              try clear q2
                              try clear q24
                              try clear q244
                              try clear q248
                              obtain ⟨kq, x10_28, rfl, HA, HJ28, HO_7, HO_8, HB⟩ := hcut
                              cases kq with
                              | zero => exact absurd HA.out (by simp [graftbedlaw13_PlusMeans.j4])
                              | succ kj28 =>
                                have H := HA.out
                                clear HA
                                simp only [graftbedlaw13_PlusMeans.j4] at H
                                have H' := Aside0.mk H
                                clear H
                                go_wp2
                                go_loopg [10, 16, 17] kj28 (fun kq v10 v16 v17 w' => ∃ (x10_6 : ByteArray) (x16_6 : Bool) (x17_6 : Int), v10 = .string x10_6 ∧ v16 = .bool x16_6 ∧ v17 = .int .i64 x17_6 ∧ Aside0 (graftbedlaw13_PlusMeans.l2 kq l0 a1 y238 x8_2 x10_6 x11_3 x12_3 (rd_L9 l0 x12_3) x16_6 x17_6 = some r) ∧ Aside0 (kq ≤ kj28) ∧ Aside0 (Kd.R Kd.string 9 w' w.heap.size (fun k_ => some k_ ≠ (u8 : Value).ownBlock) v239 y238) ∧ Aside0 (Kd.R Kd.string 9 w' w.heap.size (fun k_ => some k_ ≠ (v239 : Value).ownBlock) u8 x8_2) ∧ Aside0 (Below w.heap.size w w'))
                                case atStart => exact ⟨(x10_28), (true), (0), (by first | rfl | (simp; done) | (simp [*]; done)), (by first | rfl | (simp; done) | (simp [*]; done)), (by first | rfl | (simp; done) | (simp [*]; done)), H', ⟨Nat.le_refl _⟩, ⟨by (with_reducible repeat (first | apply Kd.R_alloc | apply Kd.R_drewN | apply Kd.R_drew)); first | exact HO_7.out | (have e_ := HO_7.out; simp only [StrOrd.own_any] at e_ ⊢; exact e_)⟩, ⟨by (with_reducible repeat (first | apply Kd.R_alloc | apply Kd.R_drewN | apply Kd.R_drew)); first | exact HO_8.out | (have e_ := HO_8.out; simp only [StrOrd.own_any] at e_ ⊢; exact e_)⟩, ⟨by repeat (first | (with_reducible first | exact HB.out | apply below_alloc | apply pw_below_drewN | apply below_drew1) | exact HB.out)⟩⟩
                                case round =>
                                  clear H'
                                  try clear c1
                                  try clear c2
                                  try clear p2
                                  try clear q2
                                  try clear hx2
                                  try clear c3
                                  try clear c4
                                  try clear c4b0
                                  try clear c4b1
                                  try clear c5
                                  try clear p6
                                  try clear c8
                                  try clear c12
                                  try clear c12b0
                                  try clear c14
                                  try clear c14b0
                                  try clear c14b1
                                  try clear c16
                                  try clear c16b0
                                  try clear c16b1
                                  try clear c17
                                  try clear c17b0
                                  try clear c18
                                  try clear c18b0
                                  try clear c19
                                  try clear c22
                                  try clear c22b0
                                  try clear c23
                                  try clear c23b0
                                  try clear c24
                                  try clear p24
                                  try clear q24
                                  try clear hx24
                                  try clear c25
                                  try clear c25b0
                                  try clear c25b1
                                  try clear c26
                                  try clear c29
                                  try clear c30
                                  try clear c30b0
                                  try clear c31
                                  try clear c31b0
                                  try clear c31b1
                                  try clear c31b2
                                  try clear hx244_0
                                  try clear hx248_0
                                  try clear p2
                                  try clear p24
                                  try clear p244
                                  try clear p248
                                  try clear p6
                                  try clear q2
                                  try clear q24
                                  try clear q244
                                  try clear q248
                                  obtain ⟨x10_6, x16_6, x17_6, rfl, rfl, rfl, HA, HK6, HO_7, HO_8, HB⟩ := hrel
                                  cases gk with
                                  | zero => exact absurd HA.out (by simp [graftbedlaw13_PlusMeans.l2])
                                  | succ k6 =>
                                    have H := HA.out
                                    clear HA
                                    simp only [graftbedlaw13_PlusMeans.l2] at H
                                    by_cases c32 : x17_6 < ((rd_L9 l0 x12_3).length : Int)
                                    · rw [if_pos c32] at H
                                      have c32b0 : decide (x17_6 < ((rd_L9 l0 x12_3).length : Int)) = true := decide_eq_true c32
                                      clear c32
                                      by_cases c33 : 0 ≤ x17_6
                                      · rw [if_pos c33] at H
                                        have c33b0 : decide (0 ≤ x17_6) = true := decide_eq_true c33
                                        clear c33
                                        by_cases c34 : x17_6 > 0
                                        · rw [if_pos c34] at H
                                          have c34b0 : decide (0 < x17_6) = true := decide_eq_true c34
                                          clear c34
                                          by_cases c35 : x10_6.size + 1 ≤ 9223372036854775807
                                          · rw [if_pos c35] at H
                                            have c35b0 := eq_true c35
                                            have c35b1 : decide (x10_6.size + 1 ≤ 9223372036854775807) = true := decide_eq_true c35
                                            try have c35b2 : (9223372036854775807 < x10_6.size + 1) = False := eq_false (Nat.not_lt.2 c35)
                                            have c35b7 := c35
                                            try simp only [ByteArray.size_append, StrMore.size_lit, List.length_cons, List.length_nil, Nat.zero_add, Nat.reduceAdd] at c35b7
                                            have c35b8 := eq_false (Nat.not_lt.2 c35b7)
                                            by_cases c36 : (rd (rd_L9 l0 x12_3) x17_6) ≥ 128
                                            · rw [if_pos c36] at H
                                              have c36b0 : decide (128 ≤ (rd (rd_L9 l0 x12_3) x17_6)) = true := decide_eq_true c36
                                              clear c36
                                              by_cases c37 : (x10_6 ++ (⟨#[44]⟩ : ByteArray)).size + 1 ≤ 9223372036854775807
                                              · rw [if_pos c37] at H
                                                have c37b0 := eq_true c37
                                                have c37b1 : decide ((x10_6 ++ (⟨#[44]⟩ : ByteArray)).size + 1 ≤ 9223372036854775807) = true := decide_eq_true c37
                                                try have c37b2 : (9223372036854775807 < (x10_6 ++ (⟨#[44]⟩ : ByteArray)).size + 1) = False := eq_false (Nat.not_lt.2 c37)
                                                have c37b7 := c37
                                                try simp only [ByteArray.size_append, StrMore.size_lit, List.length_cons, List.length_nil, Nat.zero_add, Nat.reduceAdd] at c37b7
                                                have c37b8 := eq_false (Nat.not_lt.2 c37b7)
                                                obtain ⟨ji38, hji38⟩ : ∃ j_ : Int, (Int.tmod (wrap64 (rd (rd_L9 l0 x12_3) x17_6)) 4) = j_ := ⟨_, rfl⟩
                                                replace H : (if 0 ≤ (ji38) then (if (ji38) < (y238.length : Int) then (if ((x10_6 ++ (⟨#[44]⟩ : ByteArray)) ++ (⟨#[33]⟩ : ByteArray)).size + (rdOf ByteArray.empty y238 (ji38)).size ≤ 9223372036854775807 then (if x16_6 = true then (if 0 ≤ (IntKind.u64.wrap (ji38)) then (graftbedlaw13_PlusMeans.l2 k6 l0 a1 y238 x8_2 (((x10_6 ++ (⟨#[44]⟩ : ByteArray)) ++ (⟨#[33]⟩ : ByteArray)) ++ (rdOf ByteArray.empty y238 (ji38))) x11_3 x12_3 (rd_L9 l0 x12_3) (((Int.tmod (shr .u8 a1 (IntKind.u64.wrap (ji38))) 2) == 1) != (decide ((rd (rd_L9 l0 x12_3) x17_6) ≥ 128))) (wrap64 (x17_6 + 1))) else (none)) else (graftbedlaw13_PlusMeans.l2 k6 l0 a1 y238 x8_2 (((x10_6 ++ (⟨#[44]⟩ : ByteArray)) ++ (⟨#[33]⟩ : ByteArray)) ++ (rdOf ByteArray.empty y238 (ji38))) x11_3 x12_3 (rd_L9 l0 x12_3) false (wrap64 (x17_6 + 1)))) else (none)) else (none)) else (none)) = some r := by first | (rw [hji38] at H; exact H) | (simp only [hji38] at H ⊢; exact H)
                                                by_cases c39 : 0 ≤ (ji38)
                                                · rw [if_pos c39] at H
                                                  have c39b0 : decide (0 ≤ (ji38)) = true := decide_eq_true c39
                                                  clear c39
                                                  by_cases c40 : (ji38) < (y238.length : Int)
                                                  · rw [if_pos c40] at H
                                                    have c40b0 : decide ((ji38) < (y238.length : Int)) = true := decide_eq_true c40
                                                    clear c40
                                                    by_cases c41 : ((x10_6 ++ (⟨#[44]⟩ : ByteArray)) ++ (⟨#[33]⟩ : ByteArray)).size + (rdOf ByteArray.empty y238 (ji38)).size ≤ 9223372036854775807
                                                    · rw [if_pos c41] at H
                                                      have c41b0 := eq_true c41
                                                      have c41b1 : decide (((x10_6 ++ (⟨#[44]⟩ : ByteArray)) ++ (⟨#[33]⟩ : ByteArray)).size + (rdOf ByteArray.empty y238 (ji38)).size ≤ 9223372036854775807) = true := decide_eq_true c41
                                                      try have c41b2 : (9223372036854775807 < ((x10_6 ++ (⟨#[44]⟩ : ByteArray)) ++ (⟨#[33]⟩ : ByteArray)).size + (rdOf ByteArray.empty y238 (ji38)).size) = False := eq_false (Nat.not_lt.2 c41)
                                                      have c41b7 := c41
                                                      try simp only [ByteArray.size_append, StrMore.size_lit, List.length_cons, List.length_nil, Nat.zero_add, Nat.reduceAdd] at c41b7
                                                      have c41b8 := eq_false (Nat.not_lt.2 c41b7)
                                                      by_cases c42 : x16_6 = true
                                                      · subst c42
                                                        have H1 : (if 0 ≤ (IntKind.u64.wrap (ji38)) then (graftbedlaw13_PlusMeans.l2 k6 l0 a1 y238 x8_2 (((x10_6 ++ (⟨#[44]⟩ : ByteArray)) ++ (⟨#[33]⟩ : ByteArray)) ++ (rdOf ByteArray.empty y238 (ji38))) x11_3 x12_3 (rd_L9 l0 x12_3) (((Int.tmod (shr .u8 a1 (IntKind.u64.wrap (ji38))) 2) == 1) != (decide ((rd (rd_L9 l0 x12_3) x17_6) ≥ 128))) (wrap64 (x17_6 + 1))) else (none)) = some r := by rw [if_pos rfl] at H; exact H
                                                        clear H
                                                        have H := H1
                                                        clear H1
                                                        obtain ⟨ji43, hji43⟩ : ∃ j_ : Int, (IntKind.u64.wrap (ji38)) = j_ := ⟨_, rfl⟩
                                                        replace H : (if 0 ≤ (ji43) then (graftbedlaw13_PlusMeans.l2 k6 l0 a1 y238 x8_2 (((x10_6 ++ (⟨#[44]⟩ : ByteArray)) ++ (⟨#[33]⟩ : ByteArray)) ++ (rdOf ByteArray.empty y238 (ji38))) x11_3 x12_3 (rd_L9 l0 x12_3) (((Int.tmod (shr .u8 a1 (ji43)) 2) == 1) != (decide ((rd (rd_L9 l0 x12_3) x17_6) ≥ 128))) (wrap64 (x17_6 + 1))) else (none)) = some r := by first | (rw [hji43] at H; exact H) | (simp only [hji43] at H ⊢; exact H)
                                                        by_cases c44 : 0 ≤ (ji43)
                                                        · rw [if_pos c44] at H
                                                          have c44b0 := eq_true c44
                                                          have c44b1 : decide (0 ≤ (ji43)) = true := decide_eq_true c44
                                                          clear c44
                                                          obtain ⟨ji45, hji45⟩ : ∃ j_ : Int, (shr .u8 a1 (ji43)) = j_ := ⟨_, rfl⟩
                                                          replace H : (graftbedlaw13_PlusMeans.l2 k6 l0 a1 y238 x8_2 (((x10_6 ++ (⟨#[44]⟩ : ByteArray)) ++ (⟨#[33]⟩ : ByteArray)) ++ (rdOf ByteArray.empty y238 (ji38))) x11_3 x12_3 (rd_L9 l0 x12_3) (((Int.tmod (ji45) 2) == 1) != (decide ((rd (rd_L9 l0 x12_3) x17_6) ≥ 128))) (wrap64 (x17_6 + 1))) = some r := by first | (rw [hji45] at H; exact H) | (simp only [hji45] at H ⊢; exact H)
                                                          have hji45_ : (a1 / 2 ^ min (ji43).toNat 8) = ji45 := hji45
                                                          have hji45z : (ji43) ≤ 8 → (a1 / 2 ^ (ji43).toNat) = ji45 := shr_small hji45
                                                          have H' := Aside0.mk H
                                                          clear H
                                                          have p253 : 0 ≤ (x17_6 : Int) := of_decide_eq_true (by first | (with_reducible assumption) | assumption)
                                                          have q253 : x17_6 < ((rd_L9 l0 x12_3).length : Int) := of_decide_eq_true (by first | (with_reducible assumption) | assumption)
                                                          obtain ⟨ad253, e253, hx253_0⟩ := Kd.at_int HR248_0.out x17_6 p253 q253
                                                          cases e253
                                                          replace hx253_0 := (HB.out.cell (World.block_lt_of_cell? w _ hx253_0)).trans hx253_0
                                                          replace p253 := eq_true p253
                                                          replace q253 := eq_true q253
                                                          have p254 : 0 ≤ (x17_6 : Int) := of_decide_eq_true (by first | (with_reducible assumption) | assumption)
                                                          have q254 : x17_6 < ((rd_L9 l0 x12_3).length : Int) := of_decide_eq_true (by first | (with_reducible assumption) | assumption)
                                                          obtain ⟨ad254, e254, hx254_0⟩ := Kd.at_int HR248_0.out x17_6 p254 q254
                                                          obtain rfl : ad253 = ad254 := (by injection e254)
                                                          replace hx254_0 := (HB.out.cell (World.block_lt_of_cell? w _ hx254_0)).trans hx254_0
                                                          replace p254 := eq_true p254
                                                          replace q254 := eq_true q254
                                                          obtain ⟨Ao46, co46, eo46⟩ := Kd.R_slice HO_7.out
                                                          subst eo46
                                                          have p255 : 0 ≤ ((ji38) : Int) := of_decide_eq_true (by first | (with_reducible assumption) | assumption)
                                                          have q255 : (ji38) < (y238.length : Int) := of_decide_eq_true (by first | (with_reducible assumption) | assumption)
                                                          obtain ⟨ad255, e255, hx255_0⟩ := Kd.at_string (Kd.R_reads' HO_7.out).2.2 (ji38) p255 q255
                                                          cases e255
                                                          replace p255 := eq_true p255
                                                          replace q255 := eq_true q255
                                                          go_wp2
                                                          go_roundg k6
                                                          case measure => have := HJ2.out; have := HK2.out; have := HK3.out; have := HJ23.out; have := HJ28.out; have := HK6.out; omega
                                                          case rel => exact ⟨(((x10_6 ++ (⟨#[44]⟩ : ByteArray)) ++ (⟨#[33]⟩ : ByteArray)) ++ (rdOf ByteArray.empty y238 (ji38))), ((((Int.tmod (ji45) 2) == 1) != (decide ((rd (rd_L9 l0 x12_3) x17_6) ≥ 128)))), (wrap64 (x17_6 + 1)), (by first | rfl | (simp; done) | (simp only [← hji38] <;> (first | rfl | (simp; done) | (simp [*]; done))) | (simp [*]; done)), (by first | rfl | (simp; done) | (simp only [← hji45] <;> (first | rfl | (simp; done) | (simp [*]; done))) | (simp [*]; done)), (by first | rfl | (simp; done) | (simp [*]; done)), (by first | exact H' | (rw [hji38]; exact H')), ⟨by have := HJ2.out; have := HK2.out; have := HK3.out; have := HJ23.out; have := HJ28.out; have := HK6.out; omega⟩, ⟨by (with_reducible repeat (first | apply Kd.R_alloc | apply Kd.R_drewN | apply Kd.R_drew)); first | exact HO_7.out | (have e_ := HO_7.out; simp only [StrOrd.own_any] at e_ ⊢; exact e_)⟩, ⟨by (with_reducible repeat (first | apply Kd.R_alloc | apply Kd.R_drewN | apply Kd.R_drew)); first | exact HO_8.out | (have e_ := HO_8.out; simp only [StrOrd.own_any] at e_ ⊢; exact e_)⟩, ⟨by repeat (first | (with_reducible first | exact HB.out | apply below_alloc | apply pw_below_drewN | apply below_drew1) | exact HB.out)⟩⟩
                                                        · rw [if_neg c44] at H
                                                          exact absurd H (by simp)
                                                      · replace c42 := Bool.eq_false_iff.mpr c42
                                                        subst c42
                                                        have H1 : (graftbedlaw13_PlusMeans.l2 k6 l0 a1 y238 x8_2 (((x10_6 ++ (⟨#[44]⟩ : ByteArray)) ++ (⟨#[33]⟩ : ByteArray)) ++ (rdOf ByteArray.empty y238 (ji38))) x11_3 x12_3 (rd_L9 l0 x12_3) false (wrap64 (x17_6 + 1))) = some r := by rw [if_neg (show ¬ (false = true) by decide)] at H; exact H
                                                        clear H
                                                        have H := H1
                                                        clear H1
                                                        have H' := Aside0.mk H
                                                        clear H
                                                        have p253 : 0 ≤ (x17_6 : Int) := of_decide_eq_true (by first | (with_reducible assumption) | assumption)
                                                        have q253 : x17_6 < ((rd_L9 l0 x12_3).length : Int) := of_decide_eq_true (by first | (with_reducible assumption) | assumption)
                                                        obtain ⟨ad253, e253, hx253_0⟩ := Kd.at_int HR248_0.out x17_6 p253 q253
                                                        cases e253
                                                        replace hx253_0 := (HB.out.cell (World.block_lt_of_cell? w _ hx253_0)).trans hx253_0
                                                        replace p253 := eq_true p253
                                                        replace q253 := eq_true q253
                                                        have p254 : 0 ≤ (x17_6 : Int) := of_decide_eq_true (by first | (with_reducible assumption) | assumption)
                                                        have q254 : x17_6 < ((rd_L9 l0 x12_3).length : Int) := of_decide_eq_true (by first | (with_reducible assumption) | assumption)
                                                        obtain ⟨ad254, e254, hx254_0⟩ := Kd.at_int HR248_0.out x17_6 p254 q254
                                                        obtain rfl : ad253 = ad254 := (by injection e254)
                                                        replace hx254_0 := (HB.out.cell (World.block_lt_of_cell? w _ hx254_0)).trans hx254_0
                                                        replace p254 := eq_true p254
                                                        replace q254 := eq_true q254
                                                        obtain ⟨Ao47, co47, eo47⟩ := Kd.R_slice HO_7.out
                                                        subst eo47
                                                        have p255 : 0 ≤ ((ji38) : Int) := of_decide_eq_true (by first | (with_reducible assumption) | assumption)
                                                        have q255 : (ji38) < (y238.length : Int) := of_decide_eq_true (by first | (with_reducible assumption) | assumption)
                                                        obtain ⟨ad255, e255, hx255_0⟩ := Kd.at_string (Kd.R_reads' HO_7.out).2.2 (ji38) p255 q255
                                                        cases e255
                                                        replace p255 := eq_true p255
                                                        replace q255 := eq_true q255
                                                        go_wp2
                                                        go_roundg k6
                                                        case measure => have := HJ2.out; have := HK2.out; have := HK3.out; have := HJ23.out; have := HJ28.out; have := HK6.out; omega
                                                        case rel => exact ⟨(((x10_6 ++ (⟨#[44]⟩ : ByteArray)) ++ (⟨#[33]⟩ : ByteArray)) ++ (rdOf ByteArray.empty y238 (ji38))), (false), (wrap64 (x17_6 + 1)), (by first | rfl | (simp; done) | (simp only [← hji38] <;> (first | rfl | (simp; done) | (simp [*]; done))) | (simp [*]; done)), (by first | rfl | (simp; done) | (simp [*]; done)), (by first | rfl | (simp; done) | (simp [*]; done)), (by first | exact H' | (rw [hji38]; exact H')), ⟨by have := HJ2.out; have := HK2.out; have := HK3.out; have := HJ23.out; have := HJ28.out; have := HK6.out; omega⟩, ⟨by (with_reducible repeat (first | apply Kd.R_alloc | apply Kd.R_drewN | apply Kd.R_drew)); first | exact HO_7.out | (have e_ := HO_7.out; simp only [StrOrd.own_any] at e_ ⊢; exact e_)⟩, ⟨by (with_reducible repeat (first | apply Kd.R_alloc | apply Kd.R_drewN | apply Kd.R_drew)); first | exact HO_8.out | (have e_ := HO_8.out; simp only [StrOrd.own_any] at e_ ⊢; exact e_)⟩, ⟨by repeat (first | (with_reducible first | exact HB.out | apply below_alloc | apply pw_below_drewN | apply below_drew1) | exact HB.out)⟩⟩
                                                    · rw [if_neg c41] at H
                                                      exact absurd H (by simp)
                                                  · rw [if_neg c40] at H
                                                    exact absurd H (by simp)
                                                · rw [if_neg c39] at H
                                                  exact absurd H (by simp)
                                              · rw [if_neg c37] at H
                                                exact absurd H (by simp)
                                            · rw [if_neg c36] at H
                                              have c36b0 : decide (128 ≤ (rd (rd_L9 l0 x12_3) x17_6)) = false := decide_eq_false c36
                                              clear c36
                                              obtain ⟨ji48, hji48⟩ : ∃ j_ : Int, (Int.tmod (wrap64 (rd (rd_L9 l0 x12_3) x17_6)) 4) = j_ := ⟨_, rfl⟩
                                              replace H : (if 0 ≤ (ji48) then (if (ji48) < (y238.length : Int) then (if (x10_6 ++ (⟨#[44]⟩ : ByteArray)).size + (rdOf ByteArray.empty y238 (ji48)).size ≤ 9223372036854775807 then (if x16_6 = true then (if 0 ≤ (IntKind.u64.wrap (ji48)) then (graftbedlaw13_PlusMeans.l2 k6 l0 a1 y238 x8_2 ((x10_6 ++ (⟨#[44]⟩ : ByteArray)) ++ (rdOf ByteArray.empty y238 (ji48))) x11_3 x12_3 (rd_L9 l0 x12_3) (((Int.tmod (shr .u8 a1 (IntKind.u64.wrap (ji48))) 2) == 1) != (decide ((rd (rd_L9 l0 x12_3) x17_6) ≥ 128))) (wrap64 (x17_6 + 1))) else (none)) else (graftbedlaw13_PlusMeans.l2 k6 l0 a1 y238 x8_2 ((x10_6 ++ (⟨#[44]⟩ : ByteArray)) ++ (rdOf ByteArray.empty y238 (ji48))) x11_3 x12_3 (rd_L9 l0 x12_3) false (wrap64 (x17_6 + 1)))) else (none)) else (none)) else (none)) = some r := by first | (rw [hji48] at H; exact H) | (simp only [hji48] at H ⊢; exact H)
                                              by_cases c49 : 0 ≤ (ji48)
                                              · rw [if_pos c49] at H
                                                have c49b0 : decide (0 ≤ (ji48)) = true := decide_eq_true c49
                                                clear c49
                                                by_cases c50 : (ji48) < (y238.length : Int)
                                                · rw [if_pos c50] at H
                                                  have c50b0 : decide ((ji48) < (y238.length : Int)) = true := decide_eq_true c50
                                                  clear c50
                                                  by_cases c51 : (x10_6 ++ (⟨#[44]⟩ : ByteArray)).size + (rdOf ByteArray.empty y238 (ji48)).size ≤ 9223372036854775807
                                                  · rw [if_pos c51] at H
                                                    have c51b0 := eq_true c51
                                                    have c51b1 : decide ((x10_6 ++ (⟨#[44]⟩ : ByteArray)).size + (rdOf ByteArray.empty y238 (ji48)).size ≤ 9223372036854775807) = true := decide_eq_true c51
                                                    try have c51b2 : (9223372036854775807 < (x10_6 ++ (⟨#[44]⟩ : ByteArray)).size + (rdOf ByteArray.empty y238 (ji48)).size) = False := eq_false (Nat.not_lt.2 c51)
                                                    have c51b7 := c51
                                                    try simp only [ByteArray.size_append, StrMore.size_lit, List.length_cons, List.length_nil, Nat.zero_add, Nat.reduceAdd] at c51b7
                                                    have c51b8 := eq_false (Nat.not_lt.2 c51b7)
                                                    by_cases c52 : x16_6 = true
                                                    · subst c52
                                                      have H1 : (if 0 ≤ (IntKind.u64.wrap (ji48)) then (graftbedlaw13_PlusMeans.l2 k6 l0 a1 y238 x8_2 ((x10_6 ++ (⟨#[44]⟩ : ByteArray)) ++ (rdOf ByteArray.empty y238 (ji48))) x11_3 x12_3 (rd_L9 l0 x12_3) (((Int.tmod (shr .u8 a1 (IntKind.u64.wrap (ji48))) 2) == 1) != (decide ((rd (rd_L9 l0 x12_3) x17_6) ≥ 128))) (wrap64 (x17_6 + 1))) else (none)) = some r := by rw [if_pos rfl] at H; exact H
                                                      clear H
                                                      have H := H1
                                                      clear H1
                                                      obtain ⟨ji53, hji53⟩ : ∃ j_ : Int, (IntKind.u64.wrap (ji48)) = j_ := ⟨_, rfl⟩
                                                      replace H : (if 0 ≤ (ji53) then (graftbedlaw13_PlusMeans.l2 k6 l0 a1 y238 x8_2 ((x10_6 ++ (⟨#[44]⟩ : ByteArray)) ++ (rdOf ByteArray.empty y238 (ji48))) x11_3 x12_3 (rd_L9 l0 x12_3) (((Int.tmod (shr .u8 a1 (ji53)) 2) == 1) != (decide ((rd (rd_L9 l0 x12_3) x17_6) ≥ 128))) (wrap64 (x17_6 + 1))) else (none)) = some r := by first | (rw [hji53] at H; exact H) | (simp only [hji53] at H ⊢; exact H)
                                                      by_cases c54 : 0 ≤ (ji53)
                                                      · rw [if_pos c54] at H
                                                        have c54b0 := eq_true c54
                                                        have c54b1 : decide (0 ≤ (ji53)) = true := decide_eq_true c54
                                                        clear c54
                                                        obtain ⟨ji55, hji55⟩ : ∃ j_ : Int, (shr .u8 a1 (ji53)) = j_ := ⟨_, rfl⟩
                                                        replace H : (graftbedlaw13_PlusMeans.l2 k6 l0 a1 y238 x8_2 ((x10_6 ++ (⟨#[44]⟩ : ByteArray)) ++ (rdOf ByteArray.empty y238 (ji48))) x11_3 x12_3 (rd_L9 l0 x12_3) (((Int.tmod (ji55) 2) == 1) != (decide ((rd (rd_L9 l0 x12_3) x17_6) ≥ 128))) (wrap64 (x17_6 + 1))) = some r := by first | (rw [hji55] at H; exact H) | (simp only [hji55] at H ⊢; exact H)
                                                        have hji55_ : (a1 / 2 ^ min (ji53).toNat 8) = ji55 := hji55
                                                        have hji55z : (ji53) ≤ 8 → (a1 / 2 ^ (ji53).toNat) = ji55 := shr_small hji55
                                                        have H' := Aside0.mk H
                                                        clear H
                                                        have p253 : 0 ≤ (x17_6 : Int) := of_decide_eq_true (by first | (with_reducible assumption) | assumption)
                                                        have q253 : x17_6 < ((rd_L9 l0 x12_3).length : Int) := of_decide_eq_true (by first | (with_reducible assumption) | assumption)
                                                        obtain ⟨ad253, e253, hx253_0⟩ := Kd.at_int HR248_0.out x17_6 p253 q253
                                                        cases e253
                                                        replace hx253_0 := (HB.out.cell (World.block_lt_of_cell? w _ hx253_0)).trans hx253_0
                                                        replace p253 := eq_true p253
                                                        replace q253 := eq_true q253
                                                        have p254 : 0 ≤ (x17_6 : Int) := of_decide_eq_true (by first | (with_reducible assumption) | assumption)
                                                        have q254 : x17_6 < ((rd_L9 l0 x12_3).length : Int) := of_decide_eq_true (by first | (with_reducible assumption) | assumption)
                                                        obtain ⟨ad254, e254, hx254_0⟩ := Kd.at_int HR248_0.out x17_6 p254 q254
                                                        obtain rfl : ad253 = ad254 := (by injection e254)
                                                        replace hx254_0 := (HB.out.cell (World.block_lt_of_cell? w _ hx254_0)).trans hx254_0
                                                        replace p254 := eq_true p254
                                                        replace q254 := eq_true q254
                                                        obtain ⟨Ao56, co56, eo56⟩ := Kd.R_slice HO_7.out
                                                        subst eo56
                                                        have p256 : 0 ≤ ((ji48) : Int) := of_decide_eq_true (by first | (with_reducible assumption) | assumption)
                                                        have q256 : (ji48) < (y238.length : Int) := of_decide_eq_true (by first | (with_reducible assumption) | assumption)
                                                        obtain ⟨ad256, e256, hx256_0⟩ := Kd.at_string (Kd.R_reads' HO_7.out).2.2 (ji48) p256 q256
                                                        cases e256
                                                        replace p256 := eq_true p256
                                                        replace q256 := eq_true q256
                                                        go_wp2
                                                        go_roundg k6
                                                        case measure => have := HJ2.out; have := HK2.out; have := HK3.out; have := HJ23.out; have := HJ28.out; have := HK6.out; omega
                                                        case rel => exact ⟨((x10_6 ++ (⟨#[44]⟩ : ByteArray)) ++ (rdOf ByteArray.empty y238 (ji48))), ((((Int.tmod (ji55) 2) == 1) != (decide ((rd (rd_L9 l0 x12_3) x17_6) ≥ 128)))), (wrap64 (x17_6 + 1)), (by first | rfl | (simp; done) | (simp only [← hji48] <;> (first | rfl | (simp; done) | (simp [*]; done))) | (simp [*]; done)), (by first | rfl | (simp; done) | (simp only [← hji55] <;> (first | rfl | (simp; done) | (simp [*]; done))) | (simp [*]; done)), (by first | rfl | (simp; done) | (simp [*]; done)), (by first | exact H' | (rw [hji48]; exact H')), ⟨by have := HJ2.out; have := HK2.out; have := HK3.out; have := HJ23.out; have := HJ28.out; have := HK6.out; omega⟩, ⟨by (with_reducible repeat (first | apply Kd.R_alloc | apply Kd.R_drewN | apply Kd.R_drew)); first | exact HO_7.out | (have e_ := HO_7.out; simp only [StrOrd.own_any] at e_ ⊢; exact e_)⟩, ⟨by (with_reducible repeat (first | apply Kd.R_alloc | apply Kd.R_drewN | apply Kd.R_drew)); first | exact HO_8.out | (have e_ := HO_8.out; simp only [StrOrd.own_any] at e_ ⊢; exact e_)⟩, ⟨by repeat (first | (with_reducible first | exact HB.out | apply below_alloc | apply pw_below_drewN | apply below_drew1) | exact HB.out)⟩⟩
                                                      · rw [if_neg c54] at H
                                                        exact absurd H (by simp)
                                                    · replace c52 := Bool.eq_false_iff.mpr c52
                                                      subst c52
                                                      have H1 : (graftbedlaw13_PlusMeans.l2 k6 l0 a1 y238 x8_2 ((x10_6 ++ (⟨#[44]⟩ : ByteArray)) ++ (rdOf ByteArray.empty y238 (ji48))) x11_3 x12_3 (rd_L9 l0 x12_3) false (wrap64 (x17_6 + 1))) = some r := by rw [if_neg (show ¬ (false = true) by decide)] at H; exact H
                                                      clear H
                                                      have H := H1
                                                      clear H1
                                                      have H' := Aside0.mk H
                                                      clear H
                                                      have p253 : 0 ≤ (x17_6 : Int) := of_decide_eq_true (by first | (with_reducible assumption) | assumption)
                                                      have q253 : x17_6 < ((rd_L9 l0 x12_3).length : Int) := of_decide_eq_true (by first | (with_reducible assumption) | assumption)
                                                      obtain ⟨ad253, e253, hx253_0⟩ := Kd.at_int HR248_0.out x17_6 p253 q253
                                                      cases e253
                                                      replace hx253_0 := (HB.out.cell (World.block_lt_of_cell? w _ hx253_0)).trans hx253_0
                                                      replace p253 := eq_true p253
                                                      replace q253 := eq_true q253
                                                      have p254 : 0 ≤ (x17_6 : Int) := of_decide_eq_true (by first | (with_reducible assumption) | assumption)
                                                      have q254 : x17_6 < ((rd_L9 l0 x12_3).length : Int) := of_decide_eq_true (by first | (with_reducible assumption) | assumption)
                                                      obtain ⟨ad254, e254, hx254_0⟩ := Kd.at_int HR248_0.out x17_6 p254 q254
                                                      obtain rfl : ad253 = ad254 := (by injection e254)
                                                      replace hx254_0 := (HB.out.cell (World.block_lt_of_cell? w _ hx254_0)).trans hx254_0
                                                      replace p254 := eq_true p254
                                                      replace q254 := eq_true q254
                                                      obtain ⟨Ao57, co57, eo57⟩ := Kd.R_slice HO_7.out
                                                      subst eo57
                                                      have p256 : 0 ≤ ((ji48) : Int) := of_decide_eq_true (by first | (with_reducible assumption) | assumption)
                                                      have q256 : (ji48) < (y238.length : Int) := of_decide_eq_true (by first | (with_reducible assumption) | assumption)
                                                      obtain ⟨ad256, e256, hx256_0⟩ := Kd.at_string (Kd.R_reads' HO_7.out).2.2 (ji48) p256 q256
                                                      cases e256
                                                      replace p256 := eq_true p256
                                                      replace q256 := eq_true q256
                                                      go_wp2
                                                      go_roundg k6
                                                      case measure => have := HJ2.out; have := HK2.out; have := HK3.out; have := HJ23.out; have := HJ28.out; have := HK6.out; omega
                                                      case rel => exact ⟨((x10_6 ++ (⟨#[44]⟩ : ByteArray)) ++ (rdOf ByteArray.empty y238 (ji48))), (false), (wrap64 (x17_6 + 1)), (by first | rfl | (simp; done) | (simp only [← hji48] <;> (first | rfl | (simp; done) | (simp [*]; done))) | (simp [*]; done)), (by first | rfl | (simp; done) | (simp [*]; done)), (by first | rfl | (simp; done) | (simp [*]; done)), (by first | exact H' | (rw [hji48]; exact H')), ⟨by have := HJ2.out; have := HK2.out; have := HK3.out; have := HJ23.out; have := HJ28.out; have := HK6.out; omega⟩, ⟨by (with_reducible repeat (first | apply Kd.R_alloc | apply Kd.R_drewN | apply Kd.R_drew)); first | exact HO_7.out | (have e_ := HO_7.out; simp only [StrOrd.own_any] at e_ ⊢; exact e_)⟩, ⟨by (with_reducible repeat (first | apply Kd.R_alloc | apply Kd.R_drewN | apply Kd.R_drew)); first | exact HO_8.out | (have e_ := HO_8.out; simp only [StrOrd.own_any] at e_ ⊢; exact e_)⟩, ⟨by repeat (first | (with_reducible first | exact HB.out | apply below_alloc | apply pw_below_drewN | apply below_drew1) | exact HB.out)⟩⟩
                                                  · rw [if_neg c51] at H
                                                    exact absurd H (by simp)
                                                · rw [if_neg c50] at H
                                                  exact absurd H (by simp)
                                              · rw [if_neg c49] at H
                                                exact absurd H (by simp)
                                          · rw [if_neg c35] at H
                                            exact absurd H (by simp)
                                        · rw [if_neg c34] at H
                                          have c34b0 : decide (0 < x17_6) = false := decide_eq_false c34
                                          clear c34
                                          by_cases c58 : (rd (rd_L9 l0 x12_3) x17_6) ≥ 128
                                          · rw [if_pos c58] at H
                                            have c58b0 : decide (128 ≤ (rd (rd_L9 l0 x12_3) x17_6)) = true := decide_eq_true c58
                                            clear c58
                                            by_cases c59 : x10_6.size + 1 ≤ 9223372036854775807
                                            · rw [if_pos c59] at H
                                              have c59b0 := eq_true c59
                                              have c59b1 : decide (x10_6.size + 1 ≤ 9223372036854775807) = true := decide_eq_true c59
                                              try have c59b2 : (9223372036854775807 < x10_6.size + 1) = False := eq_false (Nat.not_lt.2 c59)
                                              have c59b7 := c59
                                              try simp only [ByteArray.size_append, StrMore.size_lit, List.length_cons, List.length_nil, Nat.zero_add, Nat.reduceAdd] at c59b7
                                              have c59b8 := eq_false (Nat.not_lt.2 c59b7)
                                              obtain ⟨ji60, hji60⟩ : ∃ j_ : Int, (Int.tmod (wrap64 (rd (rd_L9 l0 x12_3) x17_6)) 4) = j_ := ⟨_, rfl⟩
                                              replace H : (if 0 ≤ (ji60) then (if (ji60) < (y238.length : Int) then (if (x10_6 ++ (⟨#[33]⟩ : ByteArray)).size + (rdOf ByteArray.empty y238 (ji60)).size ≤ 9223372036854775807 then (if x16_6 = true then (if 0 ≤ (IntKind.u64.wrap (ji60)) then (graftbedlaw13_PlusMeans.l2 k6 l0 a1 y238 x8_2 ((x10_6 ++ (⟨#[33]⟩ : ByteArray)) ++ (rdOf ByteArray.empty y238 (ji60))) x11_3 x12_3 (rd_L9 l0 x12_3) (((Int.tmod (shr .u8 a1 (IntKind.u64.wrap (ji60))) 2) == 1) != (decide ((rd (rd_L9 l0 x12_3) x17_6) ≥ 128))) (wrap64 (x17_6 + 1))) else (none)) else (graftbedlaw13_PlusMeans.l2 k6 l0 a1 y238 x8_2 ((x10_6 ++ (⟨#[33]⟩ : ByteArray)) ++ (rdOf ByteArray.empty y238 (ji60))) x11_3 x12_3 (rd_L9 l0 x12_3) false (wrap64 (x17_6 + 1)))) else (none)) else (none)) else (none)) = some r := by first | (rw [hji60] at H; exact H) | (simp only [hji60] at H ⊢; exact H)
                                              by_cases c61 : 0 ≤ (ji60)
                                              · rw [if_pos c61] at H
                                                have c61b0 : decide (0 ≤ (ji60)) = true := decide_eq_true c61
                                                clear c61
                                                by_cases c62 : (ji60) < (y238.length : Int)
                                                · rw [if_pos c62] at H
                                                  have c62b0 : decide ((ji60) < (y238.length : Int)) = true := decide_eq_true c62
                                                  clear c62
                                                  by_cases c63 : (x10_6 ++ (⟨#[33]⟩ : ByteArray)).size + (rdOf ByteArray.empty y238 (ji60)).size ≤ 9223372036854775807
                                                  · rw [if_pos c63] at H
                                                    have c63b0 := eq_true c63
                                                    have c63b1 : decide ((x10_6 ++ (⟨#[33]⟩ : ByteArray)).size + (rdOf ByteArray.empty y238 (ji60)).size ≤ 9223372036854775807) = true := decide_eq_true c63
                                                    try have c63b2 : (9223372036854775807 < (x10_6 ++ (⟨#[33]⟩ : ByteArray)).size + (rdOf ByteArray.empty y238 (ji60)).size) = False := eq_false (Nat.not_lt.2 c63)
                                                    have c63b7 := c63
                                                    try simp only [ByteArray.size_append, StrMore.size_lit, List.length_cons, List.length_nil, Nat.zero_add, Nat.reduceAdd] at c63b7
                                                    have c63b8 := eq_false (Nat.not_lt.2 c63b7)
                                                    by_cases c64 : x16_6 = true
                                                    · subst c64
                                                      have H1 : (if 0 ≤ (IntKind.u64.wrap (ji60)) then (graftbedlaw13_PlusMeans.l2 k6 l0 a1 y238 x8_2 ((x10_6 ++ (⟨#[33]⟩ : ByteArray)) ++ (rdOf ByteArray.empty y238 (ji60))) x11_3 x12_3 (rd_L9 l0 x12_3) (((Int.tmod (shr .u8 a1 (IntKind.u64.wrap (ji60))) 2) == 1) != (decide ((rd (rd_L9 l0 x12_3) x17_6) ≥ 128))) (wrap64 (x17_6 + 1))) else (none)) = some r := by rw [if_pos rfl] at H; exact H
                                                      clear H
                                                      have H := H1
                                                      clear H1
                                                      obtain ⟨ji65, hji65⟩ : ∃ j_ : Int, (IntKind.u64.wrap (ji60)) = j_ := ⟨_, rfl⟩
                                                      replace H : (if 0 ≤ (ji65) then (graftbedlaw13_PlusMeans.l2 k6 l0 a1 y238 x8_2 ((x10_6 ++ (⟨#[33]⟩ : ByteArray)) ++ (rdOf ByteArray.empty y238 (ji60))) x11_3 x12_3 (rd_L9 l0 x12_3) (((Int.tmod (shr .u8 a1 (ji65)) 2) == 1) != (decide ((rd (rd_L9 l0 x12_3) x17_6) ≥ 128))) (wrap64 (x17_6 + 1))) else (none)) = some r := by first | (rw [hji65] at H; exact H) | (simp only [hji65] at H ⊢; exact H)
                                                      by_cases c66 : 0 ≤ (ji65)
                                                      · rw [if_pos c66] at H
                                                        have c66b0 := eq_true c66
                                                        have c66b1 : decide (0 ≤ (ji65)) = true := decide_eq_true c66
                                                        clear c66
                                                        obtain ⟨ji67, hji67⟩ : ∃ j_ : Int, (shr .u8 a1 (ji65)) = j_ := ⟨_, rfl⟩
                                                        replace H : (graftbedlaw13_PlusMeans.l2 k6 l0 a1 y238 x8_2 ((x10_6 ++ (⟨#[33]⟩ : ByteArray)) ++ (rdOf ByteArray.empty y238 (ji60))) x11_3 x12_3 (rd_L9 l0 x12_3) (((Int.tmod (ji67) 2) == 1) != (decide ((rd (rd_L9 l0 x12_3) x17_6) ≥ 128))) (wrap64 (x17_6 + 1))) = some r := by first | (rw [hji67] at H; exact H) | (simp only [hji67] at H ⊢; exact H)
                                                        have hji67_ : (a1 / 2 ^ min (ji65).toNat 8) = ji67 := hji67
                                                        have hji67z : (ji65) ≤ 8 → (a1 / 2 ^ (ji65).toNat) = ji67 := shr_small hji67
                                                        have H' := Aside0.mk H
                                                        clear H
                                                        have p253 : 0 ≤ (x17_6 : Int) := of_decide_eq_true (by first | (with_reducible assumption) | assumption)
                                                        have q253 : x17_6 < ((rd_L9 l0 x12_3).length : Int) := of_decide_eq_true (by first | (with_reducible assumption) | assumption)
                                                        obtain ⟨ad253, e253, hx253_0⟩ := Kd.at_int HR248_0.out x17_6 p253 q253
                                                        cases e253
                                                        replace hx253_0 := (HB.out.cell (World.block_lt_of_cell? w _ hx253_0)).trans hx253_0
                                                        replace p253 := eq_true p253
                                                        replace q253 := eq_true q253
                                                        have p254 : 0 ≤ (x17_6 : Int) := of_decide_eq_true (by first | (with_reducible assumption) | assumption)
                                                        have q254 : x17_6 < ((rd_L9 l0 x12_3).length : Int) := of_decide_eq_true (by first | (with_reducible assumption) | assumption)
                                                        obtain ⟨ad254, e254, hx254_0⟩ := Kd.at_int HR248_0.out x17_6 p254 q254
                                                        obtain rfl : ad253 = ad254 := (by injection e254)
                                                        replace hx254_0 := (HB.out.cell (World.block_lt_of_cell? w _ hx254_0)).trans hx254_0
                                                        replace p254 := eq_true p254
                                                        replace q254 := eq_true q254
                                                        obtain ⟨Ao68, co68, eo68⟩ := Kd.R_slice HO_7.out
                                                        subst eo68
                                                        have p257 : 0 ≤ ((ji60) : Int) := of_decide_eq_true (by first | (with_reducible assumption) | assumption)
                                                        have q257 : (ji60) < (y238.length : Int) := of_decide_eq_true (by first | (with_reducible assumption) | assumption)
                                                        obtain ⟨ad257, e257, hx257_0⟩ := Kd.at_string (Kd.R_reads' HO_7.out).2.2 (ji60) p257 q257
                                                        cases e257
                                                        replace p257 := eq_true p257
                                                        replace q257 := eq_true q257
                                                        go_wp2
                                                        go_roundg k6
                                                        case measure => have := HJ2.out; have := HK2.out; have := HK3.out; have := HJ23.out; have := HJ28.out; have := HK6.out; omega
                                                        case rel => exact ⟨((x10_6 ++ (⟨#[33]⟩ : ByteArray)) ++ (rdOf ByteArray.empty y238 (ji60))), ((((Int.tmod (ji67) 2) == 1) != (decide ((rd (rd_L9 l0 x12_3) x17_6) ≥ 128)))), (wrap64 (x17_6 + 1)), (by first | rfl | (simp; done) | (simp only [← hji60] <;> (first | rfl | (simp; done) | (simp [*]; done))) | (simp [*]; done)), (by first | rfl | (simp; done) | (simp only [← hji67] <;> (first | rfl | (simp; done) | (simp [*]; done))) | (simp [*]; done)), (by first | rfl | (simp; done) | (simp [*]; done)), (by first | exact H' | (rw [hji60]; exact H')), ⟨by have := HJ2.out; have := HK2.out; have := HK3.out; have := HJ23.out; have := HJ28.out; have := HK6.out; omega⟩, ⟨by (with_reducible repeat (first | apply Kd.R_alloc | apply Kd.R_drewN | apply Kd.R_drew)); first | exact HO_7.out | (have e_ := HO_7.out; simp only [StrOrd.own_any] at e_ ⊢; exact e_)⟩, ⟨by (with_reducible repeat (first | apply Kd.R_alloc | apply Kd.R_drewN | apply Kd.R_drew)); first | exact HO_8.out | (have e_ := HO_8.out; simp only [StrOrd.own_any] at e_ ⊢; exact e_)⟩, ⟨by repeat (first | (with_reducible first | exact HB.out | apply below_alloc | apply pw_below_drewN | apply below_drew1) | exact HB.out)⟩⟩
                                                      · rw [if_neg c66] at H
                                                        exact absurd H (by simp)
                                                    · replace c64 := Bool.eq_false_iff.mpr c64
                                                      subst c64
                                                      have H1 : (graftbedlaw13_PlusMeans.l2 k6 l0 a1 y238 x8_2 ((x10_6 ++ (⟨#[33]⟩ : ByteArray)) ++ (rdOf ByteArray.empty y238 (ji60))) x11_3 x12_3 (rd_L9 l0 x12_3) false (wrap64 (x17_6 + 1))) = some r := by rw [if_neg (show ¬ (false = true) by decide)] at H; exact H
                                                      clear H
                                                      have H := H1
                                                      clear H1
                                                      have H' := Aside0.mk H
                                                      clear H
                                                      have p253 : 0 ≤ (x17_6 : Int) := of_decide_eq_true (by first | (with_reducible assumption) | assumption)
                                                      have q253 : x17_6 < ((rd_L9 l0 x12_3).length : Int) := of_decide_eq_true (by first | (with_reducible assumption) | assumption)
                                                      obtain ⟨ad253, e253, hx253_0⟩ := Kd.at_int HR248_0.out x17_6 p253 q253
                                                      cases e253
                                                      replace hx253_0 := (HB.out.cell (World.block_lt_of_cell? w _ hx253_0)).trans hx253_0
                                                      replace p253 := eq_true p253
                                                      replace q253 := eq_true q253
                                                      have p254 : 0 ≤ (x17_6 : Int) := of_decide_eq_true (by first | (with_reducible assumption) | assumption)
                                                      have q254 : x17_6 < ((rd_L9 l0 x12_3).length : Int) := of_decide_eq_true (by first | (with_reducible assumption) | assumption)
                                                      obtain ⟨ad254, e254, hx254_0⟩ := Kd.at_int HR248_0.out x17_6 p254 q254
                                                      obtain rfl : ad253 = ad254 := (by injection e254)
                                                      replace hx254_0 := (HB.out.cell (World.block_lt_of_cell? w _ hx254_0)).trans hx254_0
                                                      replace p254 := eq_true p254
                                                      replace q254 := eq_true q254
                                                      obtain ⟨Ao69, co69, eo69⟩ := Kd.R_slice HO_7.out
                                                      subst eo69
                                                      have p257 : 0 ≤ ((ji60) : Int) := of_decide_eq_true (by first | (with_reducible assumption) | assumption)
                                                      have q257 : (ji60) < (y238.length : Int) := of_decide_eq_true (by first | (with_reducible assumption) | assumption)
                                                      obtain ⟨ad257, e257, hx257_0⟩ := Kd.at_string (Kd.R_reads' HO_7.out).2.2 (ji60) p257 q257
                                                      cases e257
                                                      replace p257 := eq_true p257
                                                      replace q257 := eq_true q257
                                                      go_wp2
                                                      go_roundg k6
                                                      case measure => have := HJ2.out; have := HK2.out; have := HK3.out; have := HJ23.out; have := HJ28.out; have := HK6.out; omega
                                                      case rel => exact ⟨((x10_6 ++ (⟨#[33]⟩ : ByteArray)) ++ (rdOf ByteArray.empty y238 (ji60))), (false), (wrap64 (x17_6 + 1)), (by first | rfl | (simp; done) | (simp only [← hji60] <;> (first | rfl | (simp; done) | (simp [*]; done))) | (simp [*]; done)), (by first | rfl | (simp; done) | (simp [*]; done)), (by first | rfl | (simp; done) | (simp [*]; done)), (by first | exact H' | (rw [hji60]; exact H')), ⟨by have := HJ2.out; have := HK2.out; have := HK3.out; have := HJ23.out; have := HJ28.out; have := HK6.out; omega⟩, ⟨by (with_reducible repeat (first | apply Kd.R_alloc | apply Kd.R_drewN | apply Kd.R_drew)); first | exact HO_7.out | (have e_ := HO_7.out; simp only [StrOrd.own_any] at e_ ⊢; exact e_)⟩, ⟨by (with_reducible repeat (first | apply Kd.R_alloc | apply Kd.R_drewN | apply Kd.R_drew)); first | exact HO_8.out | (have e_ := HO_8.out; simp only [StrOrd.own_any] at e_ ⊢; exact e_)⟩, ⟨by repeat (first | (with_reducible first | exact HB.out | apply below_alloc | apply pw_below_drewN | apply below_drew1) | exact HB.out)⟩⟩
                                                  · rw [if_neg c63] at H
                                                    exact absurd H (by simp)
                                                · rw [if_neg c62] at H
                                                  exact absurd H (by simp)
                                              · rw [if_neg c61] at H
                                                exact absurd H (by simp)
                                            · rw [if_neg c59] at H
                                              exact absurd H (by simp)
                                          · rw [if_neg c58] at H
                                            have c58b0 : decide (128 ≤ (rd (rd_L9 l0 x12_3) x17_6)) = false := decide_eq_false c58
                                            clear c58
                                            obtain ⟨ji70, hji70⟩ : ∃ j_ : Int, (Int.tmod (wrap64 (rd (rd_L9 l0 x12_3) x17_6)) 4) = j_ := ⟨_, rfl⟩
                                            replace H : (if 0 ≤ (ji70) then (if (ji70) < (y238.length : Int) then (if x10_6.size + (rdOf ByteArray.empty y238 (ji70)).size ≤ 9223372036854775807 then (if x16_6 = true then (if 0 ≤ (IntKind.u64.wrap (ji70)) then (graftbedlaw13_PlusMeans.l2 k6 l0 a1 y238 x8_2 (x10_6 ++ (rdOf ByteArray.empty y238 (ji70))) x11_3 x12_3 (rd_L9 l0 x12_3) (((Int.tmod (shr .u8 a1 (IntKind.u64.wrap (ji70))) 2) == 1) != (decide ((rd (rd_L9 l0 x12_3) x17_6) ≥ 128))) (wrap64 (x17_6 + 1))) else (none)) else (graftbedlaw13_PlusMeans.l2 k6 l0 a1 y238 x8_2 (x10_6 ++ (rdOf ByteArray.empty y238 (ji70))) x11_3 x12_3 (rd_L9 l0 x12_3) false (wrap64 (x17_6 + 1)))) else (none)) else (none)) else (none)) = some r := by first | (rw [hji70] at H; exact H) | (simp only [hji70] at H ⊢; exact H)
                                            by_cases c71 : 0 ≤ (ji70)
                                            · rw [if_pos c71] at H
                                              have c71b0 : decide (0 ≤ (ji70)) = true := decide_eq_true c71
                                              clear c71
                                              by_cases c72 : (ji70) < (y238.length : Int)
                                              · rw [if_pos c72] at H
                                                have c72b0 : decide ((ji70) < (y238.length : Int)) = true := decide_eq_true c72
                                                clear c72
                                                by_cases c73 : x10_6.size + (rdOf ByteArray.empty y238 (ji70)).size ≤ 9223372036854775807
                                                · rw [if_pos c73] at H
                                                  have c73b0 := eq_true c73
                                                  have c73b1 : decide (x10_6.size + (rdOf ByteArray.empty y238 (ji70)).size ≤ 9223372036854775807) = true := decide_eq_true c73
                                                  try have c73b2 : (9223372036854775807 < x10_6.size + (rdOf ByteArray.empty y238 (ji70)).size) = False := eq_false (Nat.not_lt.2 c73)
                                                  have c73b7 := c73
                                                  try simp only [ByteArray.size_append, StrMore.size_lit, List.length_cons, List.length_nil, Nat.zero_add, Nat.reduceAdd] at c73b7
                                                  have c73b8 := eq_false (Nat.not_lt.2 c73b7)
                                                  by_cases c74 : x16_6 = true
                                                  · subst c74
                                                    have H1 : (if 0 ≤ (IntKind.u64.wrap (ji70)) then (graftbedlaw13_PlusMeans.l2 k6 l0 a1 y238 x8_2 (x10_6 ++ (rdOf ByteArray.empty y238 (ji70))) x11_3 x12_3 (rd_L9 l0 x12_3) (((Int.tmod (shr .u8 a1 (IntKind.u64.wrap (ji70))) 2) == 1) != (decide ((rd (rd_L9 l0 x12_3) x17_6) ≥ 128))) (wrap64 (x17_6 + 1))) else (none)) = some r := by rw [if_pos rfl] at H; exact H
                                                    clear H
                                                    have H := H1
                                                    clear H1
                                                    obtain ⟨ji75, hji75⟩ : ∃ j_ : Int, (IntKind.u64.wrap (ji70)) = j_ := ⟨_, rfl⟩
                                                    replace H : (if 0 ≤ (ji75) then (graftbedlaw13_PlusMeans.l2 k6 l0 a1 y238 x8_2 (x10_6 ++ (rdOf ByteArray.empty y238 (ji70))) x11_3 x12_3 (rd_L9 l0 x12_3) (((Int.tmod (shr .u8 a1 (ji75)) 2) == 1) != (decide ((rd (rd_L9 l0 x12_3) x17_6) ≥ 128))) (wrap64 (x17_6 + 1))) else (none)) = some r := by first | (rw [hji75] at H; exact H) | (simp only [hji75] at H ⊢; exact H)
                                                    by_cases c76 : 0 ≤ (ji75)
                                                    · rw [if_pos c76] at H
                                                      have c76b0 := eq_true c76
                                                      have c76b1 : decide (0 ≤ (ji75)) = true := decide_eq_true c76
                                                      clear c76
                                                      obtain ⟨ji77, hji77⟩ : ∃ j_ : Int, (shr .u8 a1 (ji75)) = j_ := ⟨_, rfl⟩
                                                      replace H : (graftbedlaw13_PlusMeans.l2 k6 l0 a1 y238 x8_2 (x10_6 ++ (rdOf ByteArray.empty y238 (ji70))) x11_3 x12_3 (rd_L9 l0 x12_3) (((Int.tmod (ji77) 2) == 1) != (decide ((rd (rd_L9 l0 x12_3) x17_6) ≥ 128))) (wrap64 (x17_6 + 1))) = some r := by first | (rw [hji77] at H; exact H) | (simp only [hji77] at H ⊢; exact H)
                                                      have hji77_ : (a1 / 2 ^ min (ji75).toNat 8) = ji77 := hji77
                                                      have hji77z : (ji75) ≤ 8 → (a1 / 2 ^ (ji75).toNat) = ji77 := shr_small hji77
                                                      have H' := Aside0.mk H
                                                      clear H
                                                      have p253 : 0 ≤ (x17_6 : Int) := of_decide_eq_true (by first | (with_reducible assumption) | assumption)
                                                      have q253 : x17_6 < ((rd_L9 l0 x12_3).length : Int) := of_decide_eq_true (by first | (with_reducible assumption) | assumption)
                                                      obtain ⟨ad253, e253, hx253_0⟩ := Kd.at_int HR248_0.out x17_6 p253 q253
                                                      cases e253
                                                      replace hx253_0 := (HB.out.cell (World.block_lt_of_cell? w _ hx253_0)).trans hx253_0
                                                      replace p253 := eq_true p253
                                                      replace q253 := eq_true q253
                                                      have p254 : 0 ≤ (x17_6 : Int) := of_decide_eq_true (by first | (with_reducible assumption) | assumption)
                                                      have q254 : x17_6 < ((rd_L9 l0 x12_3).length : Int) := of_decide_eq_true (by first | (with_reducible assumption) | assumption)
                                                      obtain ⟨ad254, e254, hx254_0⟩ := Kd.at_int HR248_0.out x17_6 p254 q254
                                                      obtain rfl : ad253 = ad254 := (by injection e254)
                                                      replace hx254_0 := (HB.out.cell (World.block_lt_of_cell? w _ hx254_0)).trans hx254_0
                                                      replace p254 := eq_true p254
                                                      replace q254 := eq_true q254
                                                      obtain ⟨Ao78, co78, eo78⟩ := Kd.R_slice HO_7.out
                                                      subst eo78
                                                      have p258 : 0 ≤ ((ji70) : Int) := of_decide_eq_true (by first | (with_reducible assumption) | assumption)
                                                      have q258 : (ji70) < (y238.length : Int) := of_decide_eq_true (by first | (with_reducible assumption) | assumption)
                                                      obtain ⟨ad258, e258, hx258_0⟩ := Kd.at_string (Kd.R_reads' HO_7.out).2.2 (ji70) p258 q258
                                                      cases e258
                                                      replace p258 := eq_true p258
                                                      replace q258 := eq_true q258
                                                      go_wp2
                                                      go_roundg k6
                                                      case measure => have := HJ2.out; have := HK2.out; have := HK3.out; have := HJ23.out; have := HJ28.out; have := HK6.out; omega
                                                      case rel => exact ⟨(x10_6 ++ (rdOf ByteArray.empty y238 (ji70))), ((((Int.tmod (ji77) 2) == 1) != (decide ((rd (rd_L9 l0 x12_3) x17_6) ≥ 128)))), (wrap64 (x17_6 + 1)), (by first | rfl | (simp; done) | (simp only [← hji70] <;> (first | rfl | (simp; done) | (simp [*]; done))) | (simp [*]; done)), (by first | rfl | (simp; done) | (simp only [← hji77] <;> (first | rfl | (simp; done) | (simp [*]; done))) | (simp [*]; done)), (by first | rfl | (simp; done) | (simp [*]; done)), (by first | exact H' | (rw [hji70]; exact H')), ⟨by have := HJ2.out; have := HK2.out; have := HK3.out; have := HJ23.out; have := HJ28.out; have := HK6.out; omega⟩, ⟨by (with_reducible repeat (first | apply Kd.R_alloc | apply Kd.R_drewN | apply Kd.R_drew)); first | exact HO_7.out | (have e_ := HO_7.out; simp only [StrOrd.own_any] at e_ ⊢; exact e_)⟩, ⟨by (with_reducible repeat (first | apply Kd.R_alloc | apply Kd.R_drewN | apply Kd.R_drew)); first | exact HO_8.out | (have e_ := HO_8.out; simp only [StrOrd.own_any] at e_ ⊢; exact e_)⟩, ⟨by repeat (first | (with_reducible first | exact HB.out | apply below_alloc | apply pw_below_drewN | apply below_drew1) | exact HB.out)⟩⟩
                                                    · rw [if_neg c76] at H
                                                      exact absurd H (by simp)
                                                  · replace c74 := Bool.eq_false_iff.mpr c74
                                                    subst c74
                                                    have H1 : (graftbedlaw13_PlusMeans.l2 k6 l0 a1 y238 x8_2 (x10_6 ++ (rdOf ByteArray.empty y238 (ji70))) x11_3 x12_3 (rd_L9 l0 x12_3) false (wrap64 (x17_6 + 1))) = some r := by rw [if_neg (show ¬ (false = true) by decide)] at H; exact H
                                                    clear H
                                                    have H := H1
                                                    clear H1
                                                    have H' := Aside0.mk H
                                                    clear H
                                                    have p253 : 0 ≤ (x17_6 : Int) := of_decide_eq_true (by first | (with_reducible assumption) | assumption)
                                                    have q253 : x17_6 < ((rd_L9 l0 x12_3).length : Int) := of_decide_eq_true (by first | (with_reducible assumption) | assumption)
                                                    obtain ⟨ad253, e253, hx253_0⟩ := Kd.at_int HR248_0.out x17_6 p253 q253
                                                    cases e253
                                                    replace hx253_0 := (HB.out.cell (World.block_lt_of_cell? w _ hx253_0)).trans hx253_0
                                                    replace p253 := eq_true p253
                                                    replace q253 := eq_true q253
                                                    have p254 : 0 ≤ (x17_6 : Int) := of_decide_eq_true (by first | (with_reducible assumption) | assumption)
                                                    have q254 : x17_6 < ((rd_L9 l0 x12_3).length : Int) := of_decide_eq_true (by first | (with_reducible assumption) | assumption)
                                                    obtain ⟨ad254, e254, hx254_0⟩ := Kd.at_int HR248_0.out x17_6 p254 q254
                                                    obtain rfl : ad253 = ad254 := (by injection e254)
                                                    replace hx254_0 := (HB.out.cell (World.block_lt_of_cell? w _ hx254_0)).trans hx254_0
                                                    replace p254 := eq_true p254
                                                    replace q254 := eq_true q254
                                                    obtain ⟨Ao79, co79, eo79⟩ := Kd.R_slice HO_7.out
                                                    subst eo79
                                                    have p258 : 0 ≤ ((ji70) : Int) := of_decide_eq_true (by first | (with_reducible assumption) | assumption)
                                                    have q258 : (ji70) < (y238.length : Int) := of_decide_eq_true (by first | (with_reducible assumption) | assumption)
                                                    obtain ⟨ad258, e258, hx258_0⟩ := Kd.at_string (Kd.R_reads' HO_7.out).2.2 (ji70) p258 q258
                                                    cases e258
                                                    replace p258 := eq_true p258
                                                    replace q258 := eq_true q258
                                                    go_wp2
                                                    go_roundg k6
                                                    case measure => have := HJ2.out; have := HK2.out; have := HK3.out; have := HJ23.out; have := HJ28.out; have := HK6.out; omega
                                                    case rel => exact ⟨(x10_6 ++ (rdOf ByteArray.empty y238 (ji70))), (false), (wrap64 (x17_6 + 1)), (by first | rfl | (simp; done) | (simp only [← hji70] <;> (first | rfl | (simp; done) | (simp [*]; done))) | (simp [*]; done)), (by first | rfl | (simp; done) | (simp [*]; done)), (by first | rfl | (simp; done) | (simp [*]; done)), (by first | exact H' | (rw [hji70]; exact H')), ⟨by have := HJ2.out; have := HK2.out; have := HK3.out; have := HJ23.out; have := HJ28.out; have := HK6.out; omega⟩, ⟨by (with_reducible repeat (first | apply Kd.R_alloc | apply Kd.R_drewN | apply Kd.R_drew)); first | exact HO_7.out | (have e_ := HO_7.out; simp only [StrOrd.own_any] at e_ ⊢; exact e_)⟩, ⟨by (with_reducible repeat (first | apply Kd.R_alloc | apply Kd.R_drewN | apply Kd.R_drew)); first | exact HO_8.out | (have e_ := HO_8.out; simp only [StrOrd.own_any] at e_ ⊢; exact e_)⟩, ⟨by repeat (first | (with_reducible first | exact HB.out | apply below_alloc | apply pw_below_drewN | apply below_drew1) | exact HB.out)⟩⟩
                                                · rw [if_neg c73] at H
                                                  exact absurd H (by simp)
                                              · rw [if_neg c72] at H
                                                exact absurd H (by simp)
                                            · rw [if_neg c71] at H
                                              exact absurd H (by simp)
                                      · rw [if_neg c33] at H
                                        exact absurd H (by simp)
                                    · rw [if_neg c32] at H
                                      have c32b0 : decide (x17_6 < ((rd_L9 l0 x12_3).length : Int)) = false := decide_eq_false c32
                                      clear c32
                                      by_cases c80 : x11_3 = true
                                      · subst c80
                                        have H1 : (graftbedlaw13_PlusMeans.l1 k6 l0 a1 y238 x8_2 x10_6 true (wrap64 (x12_3 + 1))) = some r := by rw [if_pos rfl] at H; exact H
                                        clear H
                                        have H := H1
                                        clear H1
                                        have H' := Aside0.mk H
                                        clear H
                                        go_wp2
                                        go_roundg k6
                                        case measure => have := HJ2.out; have := HK2.out; have := HK3.out; have := HJ23.out; have := HJ28.out; have := HK6.out; omega
                                        case rel => exact ⟨(x10_6), (true), (wrap64 (x12_3 + 1)), (by first | rfl | (simp; done) | (simp [*]; done)), (by first | rfl | (simp; done) | (simp [*]; done)), (by first | rfl | (simp; done) | (simp [*]; done)), H', ⟨by have := HJ2.out; have := HK2.out; have := HK3.out; have := HJ23.out; have := HJ28.out; have := HK6.out; omega⟩, ⟨by (with_reducible repeat (first | apply Kd.R_alloc | apply Kd.R_drewN | apply Kd.R_drew)); first | exact HO_7.out | (have e_ := HO_7.out; simp only [StrOrd.own_any] at e_ ⊢; exact e_)⟩, ⟨by (with_reducible repeat (first | apply Kd.R_alloc | apply Kd.R_drewN | apply Kd.R_drew)); first | exact HO_8.out | (have e_ := HO_8.out; simp only [StrOrd.own_any] at e_ ⊢; exact e_)⟩, ⟨by repeat (first | (with_reducible first | exact HB.out | apply below_alloc | apply pw_below_drewN | apply below_drew1) | exact HB.out)⟩⟩
                                      · replace c80 := Bool.eq_false_iff.mpr c80
                                        subst c80
                                        have H1 : (graftbedlaw13_PlusMeans.l1 k6 l0 a1 y238 x8_2 x10_6 x16_6 (wrap64 (x12_3 + 1))) = some r := by rw [if_neg (show ¬ (false = true) by decide)] at H; exact H
                                        clear H
                                        have H := H1
                                        clear H1
                                        have H' := Aside0.mk H
                                        clear H
                                        go_wp2
                                        go_roundg k6
                                        case measure => have := HJ2.out; have := HK2.out; have := HK3.out; have := HJ23.out; have := HJ28.out; have := HK6.out; omega
                                        case rel => exact ⟨(x10_6), (x16_6), (wrap64 (x12_3 + 1)), (by first | rfl | (simp; done) | (simp [*]; done)), (by first | rfl | (simp; done) | (simp [*]; done)), (by first | rfl | (simp; done) | (simp [*]; done)), H', ⟨by have := HJ2.out; have := HK2.out; have := HK3.out; have := HJ23.out; have := HJ28.out; have := HK6.out; omega⟩, ⟨by (with_reducible repeat (first | apply Kd.R_alloc | apply Kd.R_drewN | apply Kd.R_drew)); first | exact HO_7.out | (have e_ := HO_7.out; simp only [StrOrd.own_any] at e_ ⊢; exact e_)⟩, ⟨by (with_reducible repeat (first | apply Kd.R_alloc | apply Kd.R_drewN | apply Kd.R_drew)); first | exact HO_8.out | (have e_ := HO_8.out; simp only [StrOrd.own_any] at e_ ⊢; exact e_)⟩, ⟨by repeat (first | (with_reducible first | exact HB.out | apply below_alloc | apply pw_below_drewN | apply below_drew1) | exact HB.out)⟩⟩
                    · rw [if_neg c23] at H
                      exact absurd H (by simp)
                  · rw [if_neg c22] at H
                    have c22b0 : decide (x12_3 < (l0.length : Int)) = false := decide_eq_false c22
                    clear c22
                    replace H := Option.bind_eq_some_iff.mp H
                    obtain ⟨⟨t259, t260⟩, A810, H⟩ := H
                    replace H : (if t260 = 0 then ((expr_Eval.f t259 x8_2).bind fun t263 => (some (t263 == x11_3))) else ((graftbedref13_Line.f k3 x10_3).bind fun bt264 => (some (bt264.2 == t260)))) = some r := H
                    have A81 := Aside0.mk A810
                    clear A810
                    by_cases c82 : t260 = 0
                    · rw [if_pos c82] at H
                      have c82b0 : (t260 == 0) = true := beq_iff_eq.mpr c82
                      have c82b1 : (t260 != 0) = false := bne_eq_false_iff_eq.mpr c82
                      clear c82
                      replace H := Option.bind_eq_some_iff.mp H
                      obtain ⟨t263, A830, H⟩ := H
                      replace H : (some (t263 == x11_3)) = some r := H
                      have A83 := Aside0.mk A830
                      clear A830
                      obtain rfl := Option.some.inj H
                      go_wp2_with (first | ((with_reducible refine gate_callee (f := 29) rfl ?_); refine goesL_ (some 132) rfl rfl Tryd.func29 (by kernel_rfl) rfl #[.string x10_3] rfl (by (try simp only [List.map_toArray, List.map_cons, List.map_nil]); first | done | rfl | (simp only [List.length_drop, List.length_take]; rfl) | (simp only [ByteArray.size_extract, Nat.min_self]; done) | (simp only [ByteArray.size_append, StrMore.size_lit, List.length_cons, List.length_nil, Nat.zero_add, Nat.reduceAdd] <;> rfl)) ?_; (with_reducible refine (plus_Line.calls x10_3 t259 t260 _ A81.out).mono ?_); rintro e w84 ⟨v261, rfl, ho0, hb⟩; refine ⟨_, rfl, ?_⟩; have n0_ := Aside0.mk (Kd.R_below (by (with_reducible repeat (first | apply Kd.R_alloc | apply Kd.R_drewN | apply Kd.R_drew)); exact HO_7.out) hb); have n1_ := Aside0.mk (Kd.R_below (by (with_reducible repeat (first | apply Kd.R_alloc | apply Kd.R_drewN | apply Kd.R_drew)); exact HO_8.out) hb); have n2_ := Aside0.mk (Kd.R_lower ho0 (below_size (by repeat (first | (with_reducible first | exact HB.out | apply below_alloc | apply pw_below_drewN | apply below_drew1) | exact HB.out)))); have n3_ := Aside0.mk (below_step (by repeat (first | (with_reducible first | exact HB.out | apply below_alloc | apply pw_below_drewN | apply below_drew1) | exact HB.out)) hb); clear HO_7; clear HO_8; clear HB; have HO_7 := n0_; have HO_8 := n1_; have HO262 := n2_; have HB := n3_; clear n0_ n1_ n2_ n3_; (try clear hb); (try clear hb2); (try clear hk); (try clear hi); (try clear ho0); obtain ⟨Ao85, co85, eo85⟩ := Kd.R_slice HO262.out; subst eo85; obtain ⟨Ao86, co86, eo86⟩ := Kd.R_slice HO_8.out; subst eo86) | ((with_reducible refine gate_callee (f := 17) rfl ?_); refine goesL_ (some 147) rfl rfl Tryd.func17 (by kernel_rfl) rfl #[.slice Ao85 t259.length co85, .slice Ao86 x8_2.length co86] rfl (by (try simp only [List.map_toArray, List.map_cons, List.map_nil]); first | done | rfl | (simp only [List.length_drop, List.length_take]; rfl) | (simp only [ByteArray.size_extract, Nat.min_self]; done) | (simp only [ByteArray.size_append, StrMore.size_lit, List.length_cons, List.length_nil, Nat.zero_add, Nat.reduceAdd] <;> rfl)) ?_; (with_reducible refine (expr_Eval.calls _ _ t259 _ _ x8_2 t263 _ ?side1 ?side2 ?side3 ?side4 A83.out).mono ?_); (case side1 => repeat (first | exact (Kd.R_reads' HO262.out).2.2 | (with_reducible refine Kd.C_alloc ?_ _) | (with_reducible refine Kd.C_drewN ?_ _) | (with_reducible refine Kd.C_drew ?_))); (case side2 => exact (Kd.R_reads' HO262.out).2.1); (case side3 => repeat (first | exact (Kd.R_reads' HO_8.out).2.2 | (with_reducible refine Kd.C_alloc ?_ _) | (with_reducible refine Kd.C_drewN ?_ _) | (with_reducible refine Kd.C_drew ?_))); (case side4 => exact (Kd.R_reads' HO_8.out).2.1); rintro e w87 ⟨rfl, hb⟩; refine ⟨_, rfl, ?_⟩; have n0_ := Aside0.mk (Kd.R_below (by (with_reducible repeat (first | apply Kd.R_alloc | apply Kd.R_drewN | apply Kd.R_drew)); exact HO_7.out) hb); have n1_ := Aside0.mk (Kd.R_below (by (with_reducible repeat (first | apply Kd.R_alloc | apply Kd.R_drewN | apply Kd.R_drew)); exact HO_8.out) hb); have n2_ := Aside0.mk (Kd.R_below (by (with_reducible repeat (first | apply Kd.R_alloc | apply Kd.R_drewN | apply Kd.R_drew)); exact HO262.out) hb); have n3_ := Aside0.mk (below_step (by repeat (first | (with_reducible first | exact HB.out | apply below_alloc | apply pw_below_drewN | apply below_drew1) | exact HB.out)) hb); clear HO_7; clear HO_8; clear HO262; clear HB; have HO_7 := n0_; have HO_8 := n1_; have HO262 := n2_; have HB := n3_; clear n0_ n1_ n2_ n3_; (try clear hb); (try clear hb2); (try clear hk); (try clear hi)))
                      go_ret
                      exact ⟨by first | rfl | (simp [errW_none, errW_some] <;> rfl) | (simp [*, errW_none, errW_some] <;> rfl) | (exfalso; simp only [decide_eq_true_eq, decide_eq_false_iff_not, beq_iff_eq, beq_eq_false_iff_ne] at *; first | contradiction | omega), by repeat (first | (with_reducible first | exact HB.out | apply below_alloc | apply pw_below_drewN | apply below_drew1) | exact HB.out)⟩
                    · rw [if_neg c82] at H
                      have c82b0 : (t260 == 0) = false := beq_eq_false_iff_ne.mpr c82
                      have c82b1 : (t260 != 0) = true := bne_iff_ne.mpr c82
                      replace H := Option.bind_eq_some_iff.mp H
                      obtain ⟨⟨t264, t265⟩, A880, H⟩ := H
                      replace H : (some (t265 == t260)) = some r := H
                      have A88 := Aside0.mk A880
                      clear A880
                      obtain rfl := Option.some.inj H
                      go_wp2_with (first | ((with_reducible refine gate_callee (f := 29) rfl ?_); refine goesL_ (some 132) rfl rfl Tryd.func29 (by kernel_rfl) rfl #[.string x10_3] rfl (by (try simp only [List.map_toArray, List.map_cons, List.map_nil]); first | done | rfl | (simp only [List.length_drop, List.length_take]; rfl) | (simp only [ByteArray.size_extract, Nat.min_self]; done) | (simp only [ByteArray.size_append, StrMore.size_lit, List.length_cons, List.length_nil, Nat.zero_add, Nat.reduceAdd] <;> rfl)) ?_; (with_reducible refine (plus_Line.calls x10_3 t259 t260 _ A81.out).mono ?_); rintro e w89 ⟨v261, rfl, ho0, hb⟩; refine ⟨_, rfl, ?_⟩; have n0_ := Aside0.mk (Kd.R_below (by (with_reducible repeat (first | apply Kd.R_alloc | apply Kd.R_drewN | apply Kd.R_drew)); exact HO_7.out) hb); have n1_ := Aside0.mk (Kd.R_below (by (with_reducible repeat (first | apply Kd.R_alloc | apply Kd.R_drewN | apply Kd.R_drew)); exact HO_8.out) hb); have n2_ := Aside0.mk (Kd.R_lower ho0 (below_size (by repeat (first | (with_reducible first | exact HB.out | apply below_alloc | apply pw_below_drewN | apply below_drew1) | exact HB.out)))); have n3_ := Aside0.mk (below_step (by repeat (first | (with_reducible first | exact HB.out | apply below_alloc | apply pw_below_drewN | apply below_drew1) | exact HB.out)) hb); clear HO_7; clear HO_8; clear HB; have HO_7 := n0_; have HO_8 := n1_; have HO262 := n2_; have HB := n3_; clear n0_ n1_ n2_ n3_; (try clear hb); (try clear hb2); (try clear hk); (try clear hi); (try clear ho0)) | ((with_reducible refine gate_callee (f := 30) rfl ?_); refine goesL_ (some 139) rfl rfl Tryd.func30 (by kernel_rfl) rfl #[.string x10_3] rfl (by (try simp only [List.map_toArray, List.map_cons, List.map_nil]); first | done | rfl | (simp only [List.length_drop, List.length_take]; rfl) | (simp only [ByteArray.size_extract, Nat.min_self]; done) | (simp only [ByteArray.size_append, StrMore.size_lit, List.length_cons, List.length_nil, Nat.zero_add, Nat.reduceAdd] <;> rfl)) ?_; (with_reducible refine (graftbedref13_Line.calls k3 x10_3 t264 t265 _ A88.out).mono ?_); rintro e w90 ⟨v266, rfl, ho0, hb⟩; refine ⟨_, rfl, ?_⟩; have n0_ := Aside0.mk (Kd.R_below (by (with_reducible repeat (first | apply Kd.R_alloc | apply Kd.R_drewN | apply Kd.R_drew)); exact HO_7.out) hb); have n1_ := Aside0.mk (Kd.R_below (by (with_reducible repeat (first | apply Kd.R_alloc | apply Kd.R_drewN | apply Kd.R_drew)); exact HO_8.out) hb); have n2_ := Aside0.mk (Kd.R_below (by (with_reducible repeat (first | apply Kd.R_alloc | apply Kd.R_drewN | apply Kd.R_drew)); exact HO262.out) hb); have n3_ := Aside0.mk (Kd.R_lower ho0 (below_size (by repeat (first | (with_reducible first | exact HB.out | apply below_alloc | apply pw_below_drewN | apply below_drew1) | exact HB.out)))); have n4_ := Aside0.mk (below_step (by repeat (first | (with_reducible first | exact HB.out | apply below_alloc | apply pw_below_drewN | apply below_drew1) | exact HB.out)) hb); clear HO_7; clear HO_8; clear HO262; clear HB; have HO_7 := n0_; have HO_8 := n1_; have HO262 := n2_; have HO267 := n3_; have HB := n4_; clear n0_ n1_ n2_ n3_ n4_; (try clear hb); (try clear hb2); (try clear hk); (try clear hi); (try clear ho0)))
                      go_ret
                      exact ⟨by first | rfl | (simp [errW_none, errW_some] <;> rfl) | (simp [*, errW_none, errW_some] <;> rfl) | (exfalso; simp only [decide_eq_true_eq, decide_eq_false_iff_not, beq_iff_eq, beq_eq_false_iff_ne] at *; first | contradiction | omega), by repeat (first | (with_reducible first | exact HB.out | apply below_alloc | apply pw_below_drewN | apply below_drew1) | exact HB.out)⟩

end Go.Proofs.YtjndccjpjknbkaaDoor.PPl

-- by hprint.py (wip/): the kit's print over contracts proved by hand; a text of this session
namespace Go.Proofs.YtjndccjpjknbkaaDoor.PPl
open Go.RowKit Go.Proofs.YtjndccjpjknbkaaDoorW.PrintWords Go.Proofs.YtjndccjpjknbkaaDoorW.PrintLast Go.Proofs.YtjndccjpjknbkaaDoorW.PrintMore
attribute [local go_sem] max2_int min2_int max_two min_two max_three min_three max_four min_four   -- for this text's walks alone
set_option linter.unusedVariables false
set_option linter.unusedSimpArgs false

/-! ### graftbedref13_Lines: function 28 -/
def graftbedref13_Lines.l0 : Nat → List ByteArray → List (S61) → Int → Option ((List (S61)) × Int)
  | 0, _, _, _ => none
  | k + 1, x0, x4, x5 => if x5 < (x0.length : Int) then (if 0 ≤ x5 then ((graftbedref13_Line.f k (rdOf ByteArray.empty x0 x5)).bind fun bt191 => (if bt191.2 = 0 then (if x5 = 0 then (graftbedref13_Lines.l0 k x0 bt191.1 (wrap64 (x5 + 1))) else ((graftbedref12_And.f x4 bt191.1).bind fun t195 => (graftbedref13_Lines.l0 k x0 t195 (wrap64 (x5 + 1))))) else (some (([] : List (S61)), bt191.2)))) else (none)) else ((graftbedref12_Check.f k x4).bind fun t189 => (if t189 = 0 then (some (x4, 0)) else (some (([] : List (S61)), 120))))
def graftbedref13_Lines.f (k : Nat) (l0 : List ByteArray) : Option ((List (S61)) × Int) := graftbedref13_Lines.l0 k l0 (([] : List (S61))) 0
theorem graftbedref13_Lines.mono_l : ∀ k, (∀ y0 y1 y2, LeO (graftbedref13_Lines.l0 k y0 y1 y2) (graftbedref13_Lines.l0 (k + 1) y0 y1 y2))
  | 0 => fun _ _ _ r h => by simp [graftbedref13_Lines.l0] at h
  | k + 1 => by
    have ih0 := graftbedref13_Lines.mono_l k
    · intro y0 y1 y2
      unfold graftbedref13_Lines.l0
      repeat' first
      | (with_reducible exact ih0 _ _ _)
      | (with_reducible exact graftbedref12_Check.mono _ _)
      | (with_reducible exact graftbedref13_Line.mono _ _)
      | (with_reducible exact LeO.refl _)
      | (with_reducible exact LeO.none _)
      | (with_reducible refine LeO.ite ?_ ?_)
      | (with_reducible refine LeO.bind ?_ (fun _ => ?_))
      | exact ih0 _ _ _
      | exact graftbedref12_Check.mono _ _
      | exact graftbedref13_Line.mono _ _
      | exact LeO.none _
      | refine LeO.ite ?_ ?_
      | refine LeO.bind ?_ (fun _ => ?_)
theorem graftbedref13_Lines.mono : ∀ a0 k, LeO (graftbedref13_Lines.f k a0) (graftbedref13_Lines.f (k + 1) a0) := by
  intro a0 k
  have ih0 := graftbedref13_Lines.mono_l k
  unfold graftbedref13_Lines.f
  repeat' first
      | (with_reducible exact ih0 _ _ _)
      | (with_reducible exact graftbedref12_Check.mono _ _)
      | (with_reducible exact graftbedref13_Line.mono _ _)
      | (with_reducible exact LeO.refl _)
      | (with_reducible exact LeO.none _)
      | (with_reducible refine LeO.ite ?_ ?_)
      | (with_reducible refine LeO.bind ?_ (fun _ => ?_))
      | exact ih0 _ _ _
      | exact graftbedref12_Check.mono _ _
      | exact graftbedref13_Line.mono _ _
      | exact LeO.none _
      | refine LeO.ite ?_ ?_
      | refine LeO.bind ?_ (fun _ => ?_)
set_option maxHeartbeats 8000000 in
set_option maxRecDepth 100000 in
theorem graftbedref13_Lines.calls (k : Nat) (A0 : Option Addr) (c0 : Nat) (l0 : List ByteArray) (r1 : List (S61)) (r2 : Int) (w : World) (hr0 : Kd.C Kd.string w A0 l0.length l0) (hc0 : l0.length ≤ c0) (h : graftbedref13_Lines.f k l0 = some (r1, r2)) :
    Calls Tryd.prog 28 #[.slice A0 l0.length c0] w fun e w' => ∃ v0_ : Value, e = .returned (.tuple #[v0_, .int .i64 r2]) ∧ Kd.R k61 61 w' w.heap.size (fun _ => True) v0_ r1 ∧ Below w.heap.size w w' := by
  have HR0 := Aside0.mk hr0
  have HC0 := Aside0.mk hc0
  clear hr0 hc0
  have HB := Aside0.mk (Below.refl w.heap.size w)
  have H : (graftbedref13_Lines.l0 k l0 (([] : List (S61))) 0) = some (r1, r2) := h
  clear h
  obtain ⟨y186, hy186⟩ : ∃ y_ : List (S61), y_ = (([] : List (S61))) := ⟨_, rfl⟩
  replace H : (graftbedref13_Lines.l0 k l0 y186 0) = some (r1, r2) := by first | (rw [hy186]; with_reducible exact H) | (have H2_ := (Option.bind_some _ _).symm.trans H; rw [hy186]; with_reducible exact H2_) | (have H2_ := (Option.bind_some _ _).symm.trans H; with_reducible exact H2_) | with_reducible exact H | (rw [hy186]; exact H) | exact H
  have Ny186 := Aside0.mk hy186
  clear hy186
  have H' := Aside0.mk H
  clear H
  go_enter Tryd.func28, Tryd.ntmps28
  go_wp2_with (first | ((with_reducible refine gate_dst (N := 8) rfl ?_); refine Kd.R_lit k61 _ 61 ?hg (N := 8) ?hd (xs := ([] : List (S61))) (inner := []) (ok := fun _ => True) (okp := fun _ => True) ?hr ?hp (fun _ hk => hk) trivial (Below.refl _ _) (Nat.le_refl _) (by simp) ?_; (case hd => rfl); (case hg => rfl); (case hr => first | (go_simp; done) | (go_simp; rfl)); (case hp => exact (Reps.none _ _)); intro v187 w2 ho3 hb hg_ hnew_; clear hg_ hnew_; (first | rw [← Ny186.out] at ho3 | (simp only [Int.reduceToNat] at ho3; rw [← Ny186.out] at ho3)); have n0_ := Aside0.mk (Kd.R_lower ho3 (below_size (by repeat (first | (with_reducible first | exact HB.out | apply below_alloc | apply pw_below_drewN | apply below_drew1) | exact HB.out)))); have n1_ := Aside0.mk (below_step (by repeat (first | (with_reducible first | exact HB.out | apply below_alloc | apply pw_below_drewN | apply below_drew1) | exact HB.out)) hb); clear HB; have HO188 := n0_; have HB := n1_; clear n0_ n1_; clear hb ho3))
  go_loopg [4, 5] k (fun kq v4 v5 w' => ∃ (x4_1 : List (S61)) (x5_1 : Int), v5 = .int .i64 x5_1 ∧ Aside0 (graftbedref13_Lines.l0 kq l0 x4_1 x5_1 = some (r1, r2)) ∧ Aside0 (kq ≤ k) ∧ Aside0 (Kd.R k61 61 w' w.heap.size (fun _ => True) v4 x4_1) ∧ Aside0 (Below w.heap.size w w'))
  case atStart => exact ⟨(y186), (0), (by first | rfl | (simp; done) | (simp [*]; done)), H', ⟨Nat.le_refl _⟩, ⟨by (with_reducible repeat (first | apply Kd.R_alloc | apply Kd.R_drewN | apply Kd.R_drew)); first | exact HO188.out | (have e_ := HO188.out; simp only [StrOrd.own_any] at e_ ⊢; exact e_)⟩, ⟨by repeat (first | (with_reducible first | exact HB.out | apply below_alloc | apply pw_below_drewN | apply below_drew1) | exact HB.out)⟩⟩
  case round =>
    clear H'
    try clear c2
    try clear p2
    obtain ⟨x4_1, x5_1, rfl, HA, HK1, HO_4, HB⟩ := hrel
    cases gk with
    | zero => exact absurd HA.out (by simp [graftbedref13_Lines.l0])
    | succ k1 =>
      have H := HA.out
      clear HA
      simp only [graftbedref13_Lines.l0] at H
      by_cases c4 : x5_1 < (l0.length : Int)
      · rw [if_pos c4] at H
        have c4b0 : decide (x5_1 < (l0.length : Int)) = true := decide_eq_true c4
        clear c4
        by_cases c5 : 0 ≤ x5_1
        · rw [if_pos c5] at H
          have c5b0 : decide (0 ≤ x5_1) = true := decide_eq_true c5
          clear c5
          replace H := Option.bind_eq_some_iff.mp H
          obtain ⟨⟨t191, t192⟩, A60, H⟩ := H
          replace H : (if t192 = 0 then (if x5_1 = 0 then (graftbedref13_Lines.l0 k1 l0 t191 (wrap64 (x5_1 + 1))) else ((graftbedref12_And.f x4_1 t191).bind fun t195 => (graftbedref13_Lines.l0 k1 l0 t195 (wrap64 (x5_1 + 1))))) else (some (([] : List (S61)), t192))) = some (r1, r2) := H
          have A6 := Aside0.mk A60
          clear A60
          by_cases c7 : t192 = 0
          · rw [if_pos c7] at H
            have c7b0 : (t192 == 0) = true := beq_iff_eq.mpr c7
            have c7b1 : (t192 != 0) = false := bne_eq_false_iff_eq.mpr c7
            clear c7
            by_cases c8 : x5_1 = 0
            · rw [if_pos c8] at H
              have c8b0 : (x5_1 == 0) = true := beq_iff_eq.mpr c8
              have c8b1 : (x5_1 != 0) = false := bne_eq_false_iff_eq.mpr c8
              clear c8
              have H' := Aside0.mk H
              clear H
              have p190 : 0 ≤ (x5_1 : Int) := of_decide_eq_true (by first | (with_reducible assumption) | assumption)
              have q190 : x5_1 < (l0.length : Int) := of_decide_eq_true (by first | (with_reducible assumption) | assumption)
              obtain ⟨ad190, e190, hx190_0⟩ := Kd.at_string HR0.out x5_1 p190 q190
              cases e190
              replace hx190_0 := (HB.out.cell (World.block_lt_of_cell? w _ hx190_0)).trans hx190_0
              replace p190 := eq_true p190
              replace q190 := eq_true q190
              go_wp2_with (first | ((with_reducible refine gate_callee (f := 30) rfl ?_); refine goesL_ (some 20) rfl rfl Tryd.func30 (by kernel_rfl) rfl #[.string (rdOf ByteArray.empty l0 x5_1)] rfl (by (try simp only [List.map_toArray, List.map_cons, List.map_nil]); first | done | rfl | (simp only [List.length_drop, List.length_take]; rfl) | (simp only [ByteArray.size_extract, Nat.min_self]; done) | (simp only [ByteArray.size_append, StrMore.size_lit, List.length_cons, List.length_nil, Nat.zero_add, Nat.reduceAdd] <;> rfl)) ?_; (with_reducible refine (graftbedref13_Line.calls k1 (rdOf ByteArray.empty l0 x5_1) t191 t192 _ A6.out).mono ?_); rintro e w9 ⟨v193, rfl, ho0, hb⟩; refine ⟨_, rfl, ?_⟩; have n0_ := Aside0.mk (Kd.R_elder' (by (with_reducible repeat (first | apply Kd.R_alloc | apply Kd.R_drewN | apply Kd.R_drew)); exact HO_4.out) (Kd.R_base ho0) hb); have n1_ := Aside0.mk (Kd.R_lower (Kd.R_new' ho0 (Kd.R_lt (by (with_reducible repeat (first | apply Kd.R_alloc | apply Kd.R_drewN | apply Kd.R_drew)); exact HO_4.out))) (below_size (by repeat (first | (with_reducible first | exact HB.out | apply below_alloc | apply pw_below_drewN | apply below_drew1) | exact HB.out)))); have n2_ := Aside0.mk (below_step (by repeat (first | (with_reducible first | exact HB.out | apply below_alloc | apply pw_below_drewN | apply below_drew1) | exact HB.out)) hb); clear HO_4; clear HB; have HO_4 := n0_; have HO194 := n1_; have HB := n2_; clear n0_ n1_ n2_; (try clear hb); (try clear hb2); (try clear hk); (try clear hi); (try clear ho0)))
              go_roundg k1
              case measure => have := HK1.out; omega
              case rel => exact ⟨(t191), (wrap64 (x5_1 + 1)), (by first | rfl | (simp; done) | (simp [*]; done)), H', ⟨by have := HK1.out; omega⟩, ⟨by (with_reducible repeat (first | apply Kd.R_alloc | apply Kd.R_drewN | apply Kd.R_drew)); exact Kd.R_mono HO194.out (fun _ hk => trivial)⟩, ⟨by repeat (first | (with_reducible first | exact HB.out | apply below_alloc | apply pw_below_drewN | apply below_drew1) | exact HB.out)⟩⟩
            · rw [if_neg c8] at H
              have c8b0 : (x5_1 == 0) = false := beq_eq_false_iff_ne.mpr c8
              have c8b1 : (x5_1 != 0) = true := bne_iff_ne.mpr c8
              replace H := Option.bind_eq_some_iff.mp H
              obtain ⟨t195, A100, H⟩ := H
              replace H : (graftbedref13_Lines.l0 k1 l0 t195 (wrap64 (x5_1 + 1))) = some (r1, r2) := H
              have A10 := Aside0.mk A100
              clear A100
              have H' := Aside0.mk H
              clear H
              have p190 : 0 ≤ (x5_1 : Int) := of_decide_eq_true (by first | (with_reducible assumption) | assumption)
              have q190 : x5_1 < (l0.length : Int) := of_decide_eq_true (by first | (with_reducible assumption) | assumption)
              obtain ⟨ad190, e190, hx190_0⟩ := Kd.at_string HR0.out x5_1 p190 q190
              cases e190
              replace hx190_0 := (HB.out.cell (World.block_lt_of_cell? w _ hx190_0)).trans hx190_0
              replace p190 := eq_true p190
              replace q190 := eq_true q190
              go_wp2_with (first | ((with_reducible refine gate_callee (f := 30) rfl ?_); refine goesL_ (some 20) rfl rfl Tryd.func30 (by kernel_rfl) rfl #[.string (rdOf ByteArray.empty l0 x5_1)] rfl (by (try simp only [List.map_toArray, List.map_cons, List.map_nil]); first | done | rfl | (simp only [List.length_drop, List.length_take]; rfl) | (simp only [ByteArray.size_extract, Nat.min_self]; done) | (simp only [ByteArray.size_append, StrMore.size_lit, List.length_cons, List.length_nil, Nat.zero_add, Nat.reduceAdd] <;> rfl)) ?_; (with_reducible refine (graftbedref13_Line.calls k1 (rdOf ByteArray.empty l0 x5_1) t191 t192 _ A6.out).mono ?_); rintro e w11 ⟨v193, rfl, ho0, hb⟩; refine ⟨_, rfl, ?_⟩; have n0_ := Aside0.mk (Kd.R_elder' (by (with_reducible repeat (first | apply Kd.R_alloc | apply Kd.R_drewN | apply Kd.R_drew)); exact HO_4.out) (Kd.R_base ho0) hb); have n1_ := Aside0.mk (Kd.R_lower (Kd.R_new' ho0 (Kd.R_lt (by (with_reducible repeat (first | apply Kd.R_alloc | apply Kd.R_drewN | apply Kd.R_drew)); exact HO_4.out))) (below_size (by repeat (first | (with_reducible first | exact HB.out | apply below_alloc | apply pw_below_drewN | apply below_drew1) | exact HB.out)))); have n2_ := Aside0.mk (below_step (by repeat (first | (with_reducible first | exact HB.out | apply below_alloc | apply pw_below_drewN | apply below_drew1) | exact HB.out)) hb); clear HO_4; clear HB; have HO_4 := n0_; have HO194 := n1_; have HB := n2_; clear n0_ n1_ n2_; (try clear hb); (try clear hb2); (try clear hk); (try clear hi); (try clear ho0); obtain ⟨Ao12, co12, eo12⟩ := Kd.R_slice HO_4.out; subst eo12; obtain ⟨Ao13, co13, eo13⟩ := Kd.R_slice HO194.out; subst eo13) | ((with_reducible refine gate_callee (f := 23) rfl ?_); refine goesL_ (some 31) rfl rfl Tryd.func23 (by kernel_rfl) rfl #[.slice Ao12 x4_1.length co12, .slice Ao13 t191.length co13] rfl (by (try simp only [List.map_toArray, List.map_cons, List.map_nil]); first | done | rfl | (simp only [List.length_drop, List.length_take]; rfl) | (simp only [ByteArray.size_extract, Nat.min_self]; done) | (simp only [ByteArray.size_append, StrMore.size_lit, List.length_cons, List.length_nil, Nat.zero_add, Nat.reduceAdd] <;> rfl)) ?_; (with_reducible refine (graftbedref12_And.calls _ _ x4_1 _ _ t191 t195 _ ?side1 ?side2 ?side3 ?side4 A10.out).mono ?_); (case side1 => repeat (first | exact (Kd.R_reads' HO_4.out).2.2 | (with_reducible refine Kd.C_alloc ?_ _) | (with_reducible refine Kd.C_drewN ?_ _) | (with_reducible refine Kd.C_drew ?_))); (case side2 => exact (Kd.R_reads' HO_4.out).2.1); (case side3 => repeat (first | exact (Kd.R_reads' HO194.out).2.2 | (with_reducible refine Kd.C_alloc ?_ _) | (with_reducible refine Kd.C_drewN ?_ _) | (with_reducible refine Kd.C_drew ?_))); (case side4 => exact (Kd.R_reads' HO194.out).2.1); rintro e w14 ⟨v196, rfl, ho0, hb⟩; refine ⟨_, rfl, ?_⟩; have n0_ := Aside0.mk (Kd.R_elder' (by (with_reducible repeat (first | apply Kd.R_alloc | apply Kd.R_drewN | apply Kd.R_drew)); exact HO_4.out) (Kd.R_base ho0) hb); have n1_ := Aside0.mk (Kd.R_elder' (by (with_reducible repeat (first | apply Kd.R_alloc | apply Kd.R_drewN | apply Kd.R_drew)); exact HO194.out) (Kd.R_base ho0) hb); have n2_ := Aside0.mk (Kd.R_lower (Kd.R_new' (Kd.R_new' ho0 (Kd.R_lt (by (with_reducible repeat (first | apply Kd.R_alloc | apply Kd.R_drewN | apply Kd.R_drew)); exact HO_4.out))) (Kd.R_lt (by (with_reducible repeat (first | apply Kd.R_alloc | apply Kd.R_drewN | apply Kd.R_drew)); exact HO194.out))) (below_size (by repeat (first | (with_reducible first | exact HB.out | apply below_alloc | apply pw_below_drewN | apply below_drew1) | exact HB.out)))); have n3_ := Aside0.mk (below_step (by repeat (first | (with_reducible first | exact HB.out | apply below_alloc | apply pw_below_drewN | apply below_drew1) | exact HB.out)) hb); clear HO_4; clear HO194; clear HB; have HO_4 := n0_; have HO194 := n1_; have HO197 := n2_; have HB := n3_; clear n0_ n1_ n2_ n3_; (try clear hb); (try clear hb2); (try clear hk); (try clear hi); (try clear ho0)))
              go_roundg k1
              case measure => have := HK1.out; omega
              case rel => exact ⟨(t195), (wrap64 (x5_1 + 1)), (by first | rfl | (simp; done) | (simp [*]; done)), H', ⟨by have := HK1.out; omega⟩, ⟨by (with_reducible repeat (first | apply Kd.R_alloc | apply Kd.R_drewN | apply Kd.R_drew)); exact Kd.R_mono HO197.out (fun _ hk => trivial)⟩, ⟨by repeat (first | (with_reducible first | exact HB.out | apply below_alloc | apply pw_below_drewN | apply below_drew1) | exact HB.out)⟩⟩
          · rw [if_neg c7] at H
            have c7b0 : (t192 == 0) = false := beq_eq_false_iff_ne.mpr c7
            have c7b1 : (t192 != 0) = true := bne_iff_ne.mpr c7
            simp only [Option.some.injEq, Prod.mk.injEq] at H
            obtain ⟨rfl, rfl⟩ := H
            have p190 : 0 ≤ (x5_1 : Int) := of_decide_eq_true (by first | (with_reducible assumption) | assumption)
            have q190 : x5_1 < (l0.length : Int) := of_decide_eq_true (by first | (with_reducible assumption) | assumption)
            obtain ⟨ad190, e190, hx190_0⟩ := Kd.at_string HR0.out x5_1 p190 q190
            cases e190
            replace hx190_0 := (HB.out.cell (World.block_lt_of_cell? w _ hx190_0)).trans hx190_0
            replace p190 := eq_true p190
            replace q190 := eq_true q190
            go_wp2_with (first | ((with_reducible refine gate_callee (f := 30) rfl ?_); refine goesL_ (some 20) rfl rfl Tryd.func30 (by kernel_rfl) rfl #[.string (rdOf ByteArray.empty l0 x5_1)] rfl (by (try simp only [List.map_toArray, List.map_cons, List.map_nil]); first | done | rfl | (simp only [List.length_drop, List.length_take]; rfl) | (simp only [ByteArray.size_extract, Nat.min_self]; done) | (simp only [ByteArray.size_append, StrMore.size_lit, List.length_cons, List.length_nil, Nat.zero_add, Nat.reduceAdd] <;> rfl)) ?_; (with_reducible refine (graftbedref13_Line.calls k1 (rdOf ByteArray.empty l0 x5_1) t191 t192 _ A6.out).mono ?_); rintro e w15 ⟨v193, rfl, ho0, hb⟩; refine ⟨_, rfl, ?_⟩; have n0_ := Aside0.mk (Kd.R_elder' (by (with_reducible repeat (first | apply Kd.R_alloc | apply Kd.R_drewN | apply Kd.R_drew)); exact HO_4.out) (Kd.R_base ho0) hb); have n1_ := Aside0.mk (Kd.R_lower (Kd.R_new' ho0 (Kd.R_lt (by (with_reducible repeat (first | apply Kd.R_alloc | apply Kd.R_drewN | apply Kd.R_drew)); exact HO_4.out))) (below_size (by repeat (first | (with_reducible first | exact HB.out | apply below_alloc | apply pw_below_drewN | apply below_drew1) | exact HB.out)))); have n2_ := Aside0.mk (below_step (by repeat (first | (with_reducible first | exact HB.out | apply below_alloc | apply pw_below_drewN | apply below_drew1) | exact HB.out)) hb); clear HO_4; clear HB; have HO_4 := n0_; have HO194 := n1_; have HB := n2_; clear n0_ n1_ n2_; (try clear hb); (try clear hb2); (try clear hk); (try clear hi); (try clear ho0)))
            go_ret2
            exact ⟨_, by first | rfl | (simp [errW_none, errW_some] <;> rfl) | (simp [*, errW_none, errW_some] <;> rfl), by first | exact Kd.R_nil _ _ _ _ _ | exact Kd.N_nil _ _ _ _ _ | exact Kd.V_nil _ _ _ _ _ | exact Kd.Q_nil _ _ _ _ _ | exact Kd.S_nil _ _ _ _ _, by repeat (first | (with_reducible first | exact HB.out | apply below_alloc | apply pw_below_drewN | apply below_drew1) | exact HB.out)⟩
        · rw [if_neg c5] at H
          exact absurd H (by simp)
      · rw [if_neg c4] at H
        have c4b0 : decide (x5_1 < (l0.length : Int)) = false := decide_eq_false c4
        clear c4
        replace H := Option.bind_eq_some_iff.mp H
        obtain ⟨t189, A160, H⟩ := H
        replace H : (if t189 = 0 then (some (x4_1, 0)) else (some (([] : List (S61)), 120))) = some (r1, r2) := H
        have A16 := Aside0.mk A160
        clear A160
        by_cases c17 : t189 = 0
        · rw [if_pos c17] at H
          have c17b0 : (t189 == 0) = true := beq_iff_eq.mpr c17
          have c17b1 : (t189 != 0) = false := bne_eq_false_iff_eq.mpr c17
          clear c17
          simp only [Option.some.injEq, Prod.mk.injEq] at H
          obtain ⟨rfl, rfl⟩ := H
          obtain ⟨Ao18, co18, eo18⟩ := Kd.R_slice HO_4.out
          subst eo18
          go_wp2_with (first | ((with_reducible refine gate_callee (f := 15) rfl ?_); refine goesL_ (some 33) rfl rfl Tryd.func15 (by kernel_rfl) rfl #[.slice Ao18 x4_1.length co18] rfl (by (try simp only [List.map_toArray, List.map_cons, List.map_nil]); first | done | rfl | (simp only [List.length_drop, List.length_take]; rfl) | (simp only [ByteArray.size_extract, Nat.min_self]; done) | (simp only [ByteArray.size_append, StrMore.size_lit, List.length_cons, List.length_nil, Nat.zero_add, Nat.reduceAdd] <;> rfl)) ?_; (with_reducible refine (graftbedref12_Check.calls k1 _ _ x4_1 t189 _ ?side1 ?side2 A16.out).mono ?_); (case side1 => repeat (first | exact (Kd.R_reads' HO_4.out).2.2 | (with_reducible refine Kd.C_alloc ?_ _) | (with_reducible refine Kd.C_drewN ?_ _) | (with_reducible refine Kd.C_drew ?_))); (case side2 => exact (Kd.R_reads' HO_4.out).2.1); rintro e w19 ⟨rfl, hb⟩; refine ⟨_, rfl, ?_⟩; have n0_ := Aside0.mk (Kd.R_below (by (with_reducible repeat (first | apply Kd.R_alloc | apply Kd.R_drewN | apply Kd.R_drew)); exact HO_4.out) hb); have n1_ := Aside0.mk (below_step (by repeat (first | (with_reducible first | exact HB.out | apply below_alloc | apply pw_below_drewN | apply below_drew1) | exact HB.out)) hb); clear HO_4; clear HB; have HO_4 := n0_; have HB := n1_; clear n0_ n1_; (try clear hb); (try clear hb2); (try clear hk); (try clear hi)))
          go_ret2
          exact ⟨_, by first | rfl | (simp [errW_none, errW_some] <;> rfl) | (simp [*, errW_none, errW_some] <;> rfl), by (with_reducible repeat (first | apply Kd.R_alloc | apply Kd.R_drewN | apply Kd.R_drew)); exact HO_4.out, by repeat (first | (with_reducible first | exact HB.out | apply below_alloc | apply pw_below_drewN | apply below_drew1) | exact HB.out)⟩
        · rw [if_neg c17] at H
          have c17b0 : (t189 == 0) = false := beq_eq_false_iff_ne.mpr c17
          have c17b1 : (t189 != 0) = true := bne_iff_ne.mpr c17
          simp only [Option.some.injEq, Prod.mk.injEq] at H
          obtain ⟨rfl, rfl⟩ := H
          obtain ⟨Ao20, co20, eo20⟩ := Kd.R_slice HO_4.out
          subst eo20
          go_wp2_with (first | ((with_reducible refine gate_callee (f := 15) rfl ?_); refine goesL_ (some 33) rfl rfl Tryd.func15 (by kernel_rfl) rfl #[.slice Ao20 x4_1.length co20] rfl (by (try simp only [List.map_toArray, List.map_cons, List.map_nil]); first | done | rfl | (simp only [List.length_drop, List.length_take]; rfl) | (simp only [ByteArray.size_extract, Nat.min_self]; done) | (simp only [ByteArray.size_append, StrMore.size_lit, List.length_cons, List.length_nil, Nat.zero_add, Nat.reduceAdd] <;> rfl)) ?_; (with_reducible refine (graftbedref12_Check.calls k1 _ _ x4_1 t189 _ ?side1 ?side2 A16.out).mono ?_); (case side1 => repeat (first | exact (Kd.R_reads' HO_4.out).2.2 | (with_reducible refine Kd.C_alloc ?_ _) | (with_reducible refine Kd.C_drewN ?_ _) | (with_reducible refine Kd.C_drew ?_))); (case side2 => exact (Kd.R_reads' HO_4.out).2.1); rintro e w21 ⟨rfl, hb⟩; refine ⟨_, rfl, ?_⟩; have n0_ := Aside0.mk (Kd.R_below (by (with_reducible repeat (first | apply Kd.R_alloc | apply Kd.R_drewN | apply Kd.R_drew)); exact HO_4.out) hb); have n1_ := Aside0.mk (below_step (by repeat (first | (with_reducible first | exact HB.out | apply below_alloc | apply pw_below_drewN | apply below_drew1) | exact HB.out)) hb); clear HO_4; clear HB; have HO_4 := n0_; have HB := n1_; clear n0_ n1_; (try clear hb); (try clear hb2); (try clear hk); (try clear hi)))
          go_ret2
          exact ⟨_, by first | rfl | (simp [errW_none, errW_some] <;> rfl) | (simp [*, errW_none, errW_some] <;> rfl), by first | exact Kd.R_nil _ _ _ _ _ | exact Kd.N_nil _ _ _ _ _ | exact Kd.V_nil _ _ _ _ _ | exact Kd.Q_nil _ _ _ _ _ | exact Kd.S_nil _ _ _ _ _, by repeat (first | (with_reducible first | exact HB.out | apply below_alloc | apply pw_below_drewN | apply below_drew1) | exact HB.out)⟩

end Go.Proofs.YtjndccjpjknbkaaDoor.PPl

-- by hprint.py (wip/): the kit's print over contracts proved by hand; a text of this session
namespace Go.Proofs.YtjndccjpjknbkaaDoor.PPl
open Go.RowKit Go.Proofs.YtjndccjpjknbkaaDoorW.PrintWords Go.Proofs.YtjndccjpjknbkaaDoorW.PrintLast Go.Proofs.YtjndccjpjknbkaaDoorW.PrintMore
attribute [local go_sem] max2_int min2_int max_two min_two max_three min_three max_four min_four   -- for this text's walks alone
set_option linter.unusedVariables false
set_option linter.unusedSimpArgs false

theorem eqA61 (d : Nat) (w : World) (x0 y0 : Int) (x1 y1 : ByteArray) (x2 y2 : Int) (x3 y3 : Int) :
    (Op.equalIn (d + 2) 61 (.agg #[.int .i64 x0, .string x1, .int .i64 x2, .int .i64 x3]) (.agg #[.int .i64 y0, .string y1, .int .i64 y2, .int .i64 y3])).run Tryd.prog w = .ok (x0 == y0 && (x1.toList == y1.toList && (x2 == y2 && (x3 == y3)))) w := by
  refine eqA_of Tryd.underlying61 (by kernel_rfl) ?_
  refine eqf_cons (by rfl) (by go_simp; rfl) (by go_simp; rfl) (by go_simp) ?_
  refine eqf_cons (by rfl) (by go_simp; rfl) (by go_simp; rfl) (by go_simp) ?_
  refine eqf_cons (by rfl) (by go_simp; rfl) (by go_simp; rfl) (by go_simp) ?_
  exact eqf_last (by rfl) (by go_simp; rfl) (by go_simp; rfl) (by go_simp)
end Go.Proofs.YtjndccjpjknbkaaDoor.PPl

-- by hprint.py (wip/): the kit's print over contracts proved by hand; a text of this session
namespace Go.Proofs.YtjndccjpjknbkaaDoor.PPl
open Go.RowKit Go.Proofs.YtjndccjpjknbkaaDoorW.PrintWords Go.Proofs.YtjndccjpjknbkaaDoorW.PrintLast Go.Proofs.YtjndccjpjknbkaaDoorW.PrintMore
attribute [local go_sem] max2_int min2_int max_two min_two max_three min_three max_four min_four   -- for this text's walks alone
set_option linter.unusedVariables false
set_option linter.unusedSimpArgs false

attribute [local go_sem high] eqA61
/-! ### graftbedref12_Same: function 22 -/
def graftbedref12_Same.l0 : Nat → List (S61) → List (S61) → Int → Option (Bool)
  | 0, _, _, _ => none
  | k + 1, x0, x1, x5 => if x5 < (x0.length : Int) then (if 0 ≤ x5 then (if x5 < (x1.length : Int) then (if (!(((rd_T61 x0 x5).f0) == ((rd_T61 x1 x5).f0)) || (!((((rd_T61 x0 x5).f1).toList) == (((rd_T61 x1 x5).f1).toList)) || (!(((rd_T61 x0 x5).f2) == ((rd_T61 x1 x5).f2)) || (!(((rd_T61 x0 x5).f3) == ((rd_T61 x1 x5).f3)))))) = true then (some false) else (graftbedref12_Same.l0 k x0 x1 (wrap64 (x5 + 1)))) else (none)) else (none)) else (some true)
def graftbedref12_Same.f (k : Nat) (l0 : List (S61)) (l1 : List (S61)) : Option (Bool) := if (l0.length : Int) = (l1.length : Int) then (graftbedref12_Same.l0 k l0 l1 0) else (some false)
theorem graftbedref12_Same.mono_l : ∀ k, (∀ y0 y1 y2, LeO (graftbedref12_Same.l0 k y0 y1 y2) (graftbedref12_Same.l0 (k + 1) y0 y1 y2))
  | 0 => fun _ _ _ r h => by simp [graftbedref12_Same.l0] at h
  | k + 1 => by
    have ih0 := graftbedref12_Same.mono_l k
    · intro y0 y1 y2
      unfold graftbedref12_Same.l0
      repeat' first
      | (with_reducible exact ih0 _ _ _)
      | (with_reducible exact LeO.refl _)
      | (with_reducible exact LeO.none _)
      | (with_reducible refine LeO.ite ?_ ?_)
      | (with_reducible refine LeO.bind ?_ (fun _ => ?_))
      | exact ih0 _ _ _
      | exact LeO.none _
      | refine LeO.ite ?_ ?_
      | refine LeO.bind ?_ (fun _ => ?_)
theorem graftbedref12_Same.mono : ∀ a0 a1 k, LeO (graftbedref12_Same.f k a0 a1) (graftbedref12_Same.f (k + 1) a0 a1) := by
  intro a0 a1 k
  have ih0 := graftbedref12_Same.mono_l k
  unfold graftbedref12_Same.f
  repeat' first
      | (with_reducible exact ih0 _ _ _)
      | (with_reducible exact LeO.refl _)
      | (with_reducible exact LeO.none _)
      | (with_reducible refine LeO.ite ?_ ?_)
      | (with_reducible refine LeO.bind ?_ (fun _ => ?_))
      | exact ih0 _ _ _
      | exact LeO.none _
      | refine LeO.ite ?_ ?_
      | refine LeO.bind ?_ (fun _ => ?_)
set_option maxHeartbeats 8000000 in
set_option maxRecDepth 100000 in
theorem graftbedref12_Same.calls (k : Nat) (A0 : Option Addr) (c0 : Nat) (l0 : List (S61)) (A1 : Option Addr) (c1 : Nat) (l1 : List (S61)) (r : Bool) (w : World) (hr0 : Kd.C k61 w A0 l0.length l0) (hc0 : l0.length ≤ c0) (hr1 : Kd.C k61 w A1 l1.length l1) (hc1 : l1.length ≤ c1) (h : graftbedref12_Same.f k l0 l1 = some r) :
    Calls Tryd.prog 22 #[.slice A0 l0.length c0, .slice A1 l1.length c1] w fun e w' => e = .returned (.bool r) ∧ Drawn0 w w' := by
  have hu61 := Tryd.underlying61
  have HR0 := Aside0.mk hr0
  have HC0 := Aside0.mk hc0
  clear hr0 hc0
  have HR1 := Aside0.mk hr1
  have HC1 := Aside0.mk hc1
  clear hr1 hc1
  have H : (if (l0.length : Int) = (l1.length : Int) then (graftbedref12_Same.l0 k l0 l1 0) else (some false)) = some r := h
  clear h
  by_cases c3 : (l0.length : Int) = (l1.length : Int)
  · rw [if_pos c3] at H
    have c3b0 : ((l0.length : Int) == (l1.length : Int)) = true := beq_iff_eq.mpr c3
    have c3b1 : ((l0.length : Int) != (l1.length : Int)) = false := bne_eq_false_iff_eq.mpr c3
    have c3b2 : (l0.length == l1.length) = true := by first | simpa using c3 | (simp at c3 ⊢; omega)
    clear c3
    have H' := Aside0.mk H
    clear H
    go_enter Tryd.func22, Tryd.ntmps22
    go_wp2
    repeat (go_quiet (fail); try go_wp2)
    go_loopg [5] k (fun kq v5 w' => ∃ (x5_1 : Int), v5 = .int .i64 x5_1 ∧ Aside0 (graftbedref12_Same.l0 kq l0 l1 x5_1 = some r) ∧ Aside0 (kq ≤ k) ∧ Drawn0 w w')
    case atStart => exact ⟨(0), (by first | rfl | (simp; done) | (simp [*]; done)), H', ⟨Nat.le_refl _⟩, by repeat (first | exact Drawn0.refl _ | apply Drawn0.step)⟩
    case round =>
      clear H'
      try clear c1
      try clear c2
      try clear p2
      try clear c3
      try clear c3b0
      try clear c3b1
      try clear c3b2
      obtain ⟨x5_1, rfl, HA, HK1, ⟨m1, rfl⟩⟩ := hrel
      cases gk with
      | zero => exact absurd HA.out (by simp [graftbedref12_Same.l0])
      | succ k1 =>
        have H := HA.out
        clear HA
        simp only [graftbedref12_Same.l0] at H
        by_cases c4 : x5_1 < (l0.length : Int)
        · rw [if_pos c4] at H
          have c4b0 : decide (x5_1 < (l0.length : Int)) = true := decide_eq_true c4
          clear c4
          by_cases c5 : 0 ≤ x5_1
          · rw [if_pos c5] at H
            have c5b0 : decide (0 ≤ x5_1) = true := decide_eq_true c5
            clear c5
            by_cases c6 : x5_1 < (l1.length : Int)
            · rw [if_pos c6] at H
              have c6b0 : decide (x5_1 < (l1.length : Int)) = true := decide_eq_true c6
              clear c6
              by_cases c7 : (!(((rd_T61 l0 x5_1).f0) == ((rd_T61 l1 x5_1).f0)) || (!((((rd_T61 l0 x5_1).f1).toList) == (((rd_T61 l1 x5_1).f1).toList)) || (!(((rd_T61 l0 x5_1).f2) == ((rd_T61 l1 x5_1).f2)) || (!(((rd_T61 l0 x5_1).f3) == ((rd_T61 l1 x5_1).f3)))))) = true
              · rw [if_pos c7] at H
                have c7b0 : (!(((rd_T61 l0 x5_1).f0) == ((rd_T61 l1 x5_1).f0)) || (!((((rd_T61 l0 x5_1).f1).toList) == (((rd_T61 l1 x5_1).f1).toList)) || (!(((rd_T61 l0 x5_1).f2) == ((rd_T61 l1 x5_1).f2)) || (!(((rd_T61 l0 x5_1).f3) == ((rd_T61 l1 x5_1).f3)))))) = true := c7
                clear c7
                obtain rfl := Option.some.inj H
                have p101 : 0 ≤ (x5_1 : Int) := of_decide_eq_true (by first | (with_reducible assumption) | assumption)
                have q101 : x5_1 < (l0.length : Int) := of_decide_eq_true (by first | (with_reducible assumption) | assumption)
                obtain ⟨ad101, e101, hx101_0, hx101_1, hx101_2, hx101_3⟩ := at_T61 HR0.out x5_1 p101 q101
                cases e101
                replace p101 := eq_true p101
                replace q101 := eq_true q101
                have p102 : 0 ≤ (x5_1 : Int) := of_decide_eq_true (by first | (with_reducible assumption) | assumption)
                have q102 : x5_1 < (l1.length : Int) := of_decide_eq_true (by first | (with_reducible assumption) | assumption)
                obtain ⟨ad102, e102, hx102_0, hx102_1, hx102_2, hx102_3⟩ := at_T61 HR1.out x5_1 p102 q102
                cases e102
                replace p102 := eq_true p102
                replace q102 := eq_true q102
                go_wp2
                repeat (go_quiet (fail); try go_wp2)
                go_ret
                exact ⟨by first | rfl | (simp; done) | (simp [*]; done) | (have ne_ : ∀ l : List UInt8, (l != []) = !l.isEmpty := (fun l => by cases l <;> rfl); simp [ne_]; done), by repeat (first | exact Drawn0.refl _ | apply Drawn0.step)⟩
              · rw [if_neg c7] at H
                have c7b0 : (!(((rd_T61 l0 x5_1).f0) == ((rd_T61 l1 x5_1).f0)) || (!((((rd_T61 l0 x5_1).f1).toList) == (((rd_T61 l1 x5_1).f1).toList)) || (!(((rd_T61 l0 x5_1).f2) == ((rd_T61 l1 x5_1).f2)) || (!(((rd_T61 l0 x5_1).f3) == ((rd_T61 l1 x5_1).f3)))))) = false := by simpa using c7
                clear c7
                have H' := Aside0.mk H
                clear H
                have p101 : 0 ≤ (x5_1 : Int) := of_decide_eq_true (by first | (with_reducible assumption) | assumption)
                have q101 : x5_1 < (l0.length : Int) := of_decide_eq_true (by first | (with_reducible assumption) | assumption)
                obtain ⟨ad101, e101, hx101_0, hx101_1, hx101_2, hx101_3⟩ := at_T61 HR0.out x5_1 p101 q101
                cases e101
                replace p101 := eq_true p101
                replace q101 := eq_true q101
                have p102 : 0 ≤ (x5_1 : Int) := of_decide_eq_true (by first | (with_reducible assumption) | assumption)
                have q102 : x5_1 < (l1.length : Int) := of_decide_eq_true (by first | (with_reducible assumption) | assumption)
                obtain ⟨ad102, e102, hx102_0, hx102_1, hx102_2, hx102_3⟩ := at_T61 HR1.out x5_1 p102 q102
                cases e102
                replace p102 := eq_true p102
                replace q102 := eq_true q102
                go_wp2
                repeat (go_quiet (fail); try go_wp2)
                go_roundg k1
                case measure => have := HK1.out; omega
                case rel => exact ⟨(wrap64 (x5_1 + 1)), (by first | rfl | (simp; done) | (simp [*]; done)), H', ⟨by have := HK1.out; omega⟩, by repeat (first | exact Drawn0.refl _ | apply Drawn0.step)⟩
            · rw [if_neg c6] at H
              exact absurd H (by simp)
          · rw [if_neg c5] at H
            exact absurd H (by simp)
        · rw [if_neg c4] at H
          have c4b0 : decide (x5_1 < (l0.length : Int)) = false := decide_eq_false c4
          clear c4
          obtain rfl := Option.some.inj H
          go_wp2
          repeat (go_quiet (fail); try go_wp2)
          go_ret
          exact ⟨by first | rfl | (simp; done) | (simp [*]; done) | (have ne_ : ∀ l : List UInt8, (l != []) = !l.isEmpty := (fun l => by cases l <;> rfl); simp [ne_]; done), by repeat (first | exact Drawn0.refl _ | apply Drawn0.step)⟩
  · rw [if_neg c3] at H
    have c3b0 : ((l0.length : Int) == (l1.length : Int)) = false := beq_eq_false_iff_ne.mpr c3
    have c3b1 : ((l0.length : Int) != (l1.length : Int)) = true := bne_iff_ne.mpr c3
    have c3b2 : (l0.length == l1.length) = false := by first | simpa using c3 | (simp at c3 ⊢; omega)
    obtain rfl := Option.some.inj H
    go_enter Tryd.func22, Tryd.ntmps22
    go_wp2
    repeat (go_quiet (fail); try go_wp2)
    go_ret
    exact ⟨by first | rfl | (simp; done) | (simp [*]; done) | (have ne_ : ∀ l : List UInt8, (l != []) = !l.isEmpty := (fun l => by cases l <;> rfl); simp [ne_]; done), by repeat (first | exact Drawn0.refl _ | apply Drawn0.step)⟩

end Go.Proofs.YtjndccjpjknbkaaDoor.PPl

-- by hprint.py (wip/): the kit's print over contracts proved by hand; a text of this session
namespace Go.Proofs.YtjndccjpjknbkaaDoor.PPl
open Go.RowKit Go.Proofs.YtjndccjpjknbkaaDoorW.PrintWords Go.Proofs.YtjndccjpjknbkaaDoorW.PrintLast Go.Proofs.YtjndccjpjknbkaaDoorW.PrintMore
attribute [local go_sem] max2_int min2_int max_two min_two max_three min_three max_four min_four   -- for this text's walks alone
set_option linter.unusedVariables false
set_option linter.unusedSimpArgs false

/-! ### graftbedlaw13_heavy: function 26 -/
def graftbedlaw13_heavy.l0 : Nat → List ByteArray → Int → Int → Option (Bool)
  | 0, _, _, _ => none
  | k + 1, x0, x3, x4 => if x4 < (x0.length : Int) then (if x3 ≤ 512 then (if 0 ≤ x4 then (graftbedlaw13_heavy.l0 k x0 (wrap64 (x3 + (mn ((rdOf ByteArray.empty x0 x4).size : Int) 1048576))) (wrap64 (x4 + 1))) else (none)) else (some (decide (x3 > 512)))) else (some (decide (x3 > 512)))
def graftbedlaw13_heavy.f (k : Nat) (l0 : List ByteArray) : Option (Bool) := graftbedlaw13_heavy.l0 k l0 (mn (l0.length : Int) 1048576) 0
theorem graftbedlaw13_heavy.mono_l : ∀ k, (∀ y0 y1 y2, LeO (graftbedlaw13_heavy.l0 k y0 y1 y2) (graftbedlaw13_heavy.l0 (k + 1) y0 y1 y2))
  | 0 => fun _ _ _ r h => by simp [graftbedlaw13_heavy.l0] at h
  | k + 1 => by
    have ih0 := graftbedlaw13_heavy.mono_l k
    · intro y0 y1 y2
      unfold graftbedlaw13_heavy.l0
      repeat' first
      | (with_reducible exact ih0 _ _ _)
      | (with_reducible exact LeO.refl _)
      | (with_reducible exact LeO.none _)
      | (with_reducible refine LeO.ite ?_ ?_)
      | (with_reducible refine LeO.bind ?_ (fun _ => ?_))
      | exact ih0 _ _ _
      | exact LeO.none _
      | refine LeO.ite ?_ ?_
      | refine LeO.bind ?_ (fun _ => ?_)
theorem graftbedlaw13_heavy.mono : ∀ a0 k, LeO (graftbedlaw13_heavy.f k a0) (graftbedlaw13_heavy.f (k + 1) a0) := by
  intro a0 k
  have ih0 := graftbedlaw13_heavy.mono_l k
  unfold graftbedlaw13_heavy.f
  repeat' first
      | (with_reducible exact ih0 _ _ _)
      | (with_reducible exact LeO.refl _)
      | (with_reducible exact LeO.none _)
      | (with_reducible refine LeO.ite ?_ ?_)
      | (with_reducible refine LeO.bind ?_ (fun _ => ?_))
      | exact ih0 _ _ _
      | exact LeO.none _
      | refine LeO.ite ?_ ?_
      | refine LeO.bind ?_ (fun _ => ?_)
set_option maxHeartbeats 8000000 in
set_option maxRecDepth 100000 in
theorem graftbedlaw13_heavy.calls (k : Nat) (A0 : Option Addr) (c0 : Nat) (l0 : List ByteArray) (r : Bool) (w : World) (hr0 : Kd.C Kd.string w A0 l0.length l0) (hc0 : l0.length ≤ c0) (h : graftbedlaw13_heavy.f k l0 = some r) :
    Calls Tryd.prog 26 #[.slice A0 l0.length c0] w fun e w' => e = .returned (.bool r) ∧ Below w.heap.size w w' := by
  have HR0 := Aside0.mk hr0
  have HC0 := Aside0.mk hc0
  clear hr0 hc0
  have HB := Aside0.mk (Below.refl w.heap.size w)
  have H : (graftbedlaw13_heavy.l0 k l0 (mn (l0.length : Int) 1048576) 0) = some r := h
  clear h
  obtain ⟨ji2, hji2⟩ : ∃ j_ : Int, (mn (l0.length : Int) 1048576) = j_ := ⟨_, rfl⟩
  replace H : (graftbedlaw13_heavy.l0 k l0 ji2 0) = some r := by first | (rw [hji2] at H; exact H) | (simp only [hji2] at H ⊢; exact H)
  (try (have hji2h : ji2 ≤ 1048576 := by (rw [← hji2]; unfold mn; (repeat' split) <;> omega)))
  (try (have hji2g : ji2 ≤ 64 := by omega))
  (try (have hji2l : 0 ≤ ji2 := by (rw [← hji2]; unfold mn; (repeat' split) <;> omega)))
  (try (have hji2m : 0 ≤ ji2 := by omega))
  have hji2_ : (if 1048576 < (l0.length : Int) then 1048576 else (l0.length : Int)) = ji2 := hji2
  have H' := Aside0.mk H
  clear H
  go_enter Tryd.func26, Tryd.ntmps26
  go_wp2
  go_loopg [3, 4] k (fun kq v3 v4 w' => ∃ (x3_1 : Int) (x4_1 : Int), v3 = .int .i64 x3_1 ∧ v4 = .int .i64 x4_1 ∧ Aside0 (graftbedlaw13_heavy.l0 kq l0 x3_1 x4_1 = some r) ∧ Aside0 (kq ≤ k) ∧ Aside0 (Below w.heap.size w w'))
  case atStart => exact ⟨(ji2), (0), (by first | rfl | (simp; done) | (simp only [← hji2] <;> (first | rfl | (simp; done) | (simp [*]; done))) | (simp [*]; done)), (by first | rfl | (simp; done) | (simp [*]; done)), (by first | exact H' | (rw [hji2]; exact H')), ⟨Nat.le_refl _⟩, ⟨by repeat (first | (with_reducible first | exact HB.out | apply below_alloc | apply pw_below_drewN | apply below_drew1) | exact HB.out)⟩⟩
  case round =>
    clear H'
    try clear c2
    try clear p2
    obtain ⟨x3_1, x4_1, rfl, rfl, HA, HK1, HB⟩ := hrel
    cases gk with
    | zero => exact absurd HA.out (by simp [graftbedlaw13_heavy.l0])
    | succ k1 =>
      have H := HA.out
      clear HA
      simp only [graftbedlaw13_heavy.l0] at H
      by_cases c3 : x4_1 < (l0.length : Int)
      · rw [if_pos c3] at H
        have c3b0 : decide (x4_1 < (l0.length : Int)) = true := decide_eq_true c3
        clear c3
        by_cases c4 : x3_1 ≤ 512
        · rw [if_pos c4] at H
          have c4b0 : decide (x3_1 ≤ 512) = true := decide_eq_true c4
          clear c4
          by_cases c5 : 0 ≤ x4_1
          · rw [if_pos c5] at H
            have c5b0 : decide (0 ≤ x4_1) = true := decide_eq_true c5
            clear c5
            obtain ⟨ji6, hji6⟩ : ∃ j_ : Int, (mn ((rdOf ByteArray.empty l0 x4_1).size : Int) 1048576) = j_ := ⟨_, rfl⟩
            replace H : (graftbedlaw13_heavy.l0 k1 l0 (wrap64 (x3_1 + (ji6))) (wrap64 (x4_1 + 1))) = some r := by first | (rw [hji6] at H; exact H) | (simp only [hji6] at H ⊢; exact H)
            have hji6_ : (if 1048576 < ((rdOf ByteArray.empty l0 x4_1).size : Int) then 1048576 else ((rdOf ByteArray.empty l0 x4_1).size : Int)) = ji6 := hji6
            have H' := Aside0.mk H
            clear H
            have p103 : 0 ≤ (x4_1 : Int) := of_decide_eq_true (by first | (with_reducible assumption) | assumption)
            have q103 : x4_1 < (l0.length : Int) := of_decide_eq_true (by first | (with_reducible assumption) | assumption)
            obtain ⟨ad103, e103, hx103_0⟩ := Kd.at_string HR0.out x4_1 p103 q103
            cases e103
            replace hx103_0 := (HB.out.cell (World.block_lt_of_cell? w _ hx103_0)).trans hx103_0
            replace p103 := eq_true p103
            replace q103 := eq_true q103
            go_wp2
            go_roundg k1
            case measure => have := HK1.out; omega
            case rel => exact ⟨(wrap64 (x3_1 + (ji6))), (wrap64 (x4_1 + 1)), (by first | rfl | (simp; done) | (simp only [← hji6] <;> (first | rfl | (simp; done) | (simp [*]; done))) | (simp [*]; done)), (by first | rfl | (simp; done) | (simp [*]; done)), (by first | exact H' | (rw [hji6]; exact H')), ⟨by have := HK1.out; omega⟩, ⟨by repeat (first | (with_reducible first | exact HB.out | apply below_alloc | apply pw_below_drewN | apply below_drew1) | exact HB.out)⟩⟩
          · rw [if_neg c5] at H
            exact absurd H (by simp)
        · rw [if_neg c4] at H
          have c4b0 : decide (x3_1 ≤ 512) = false := decide_eq_false c4
          clear c4
          obtain rfl := Option.some.inj H
          go_wp2
          go_ret
          exact ⟨by first | rfl | (simp [errW_none, errW_some] <;> rfl) | (simp only [← hji2]; first | rfl | (simp [errW_none, errW_some] <;> rfl)) | (simp [*, errW_none, errW_some] <;> rfl), by repeat (first | (with_reducible first | exact HB.out | apply below_alloc | apply pw_below_drewN | apply below_drew1) | exact HB.out)⟩
      · rw [if_neg c3] at H
        have c3b0 : decide (x4_1 < (l0.length : Int)) = false := decide_eq_false c3
        clear c3
        obtain rfl := Option.some.inj H
        go_wp2
        go_ret
        exact ⟨by first | rfl | (simp [errW_none, errW_some] <;> rfl) | (simp only [← hji2]; first | rfl | (simp [errW_none, errW_some] <;> rfl)) | (simp [*, errW_none, errW_some] <;> rfl), by repeat (first | (with_reducible first | exact HB.out | apply below_alloc | apply pw_below_drewN | apply below_drew1) | exact HB.out)⟩

end Go.Proofs.YtjndccjpjknbkaaDoor.PPl

-- by hprint.py (wip/): the kit's print over contracts proved by hand; a text of this session
namespace Go.Proofs.YtjndccjpjknbkaaDoor.PPl
open Go.RowKit Go.Proofs.YtjndccjpjknbkaaDoorW.PrintWords Go.Proofs.YtjndccjpjknbkaaDoorW.PrintLast Go.Proofs.YtjndccjpjknbkaaDoorW.PrintMore
attribute [local go_sem] max2_int min2_int max_two min_two max_three min_three max_four min_four   -- for this text's walks alone
set_option linter.unusedVariables false
set_option linter.unusedSimpArgs false

/-! ### plus_Lines: function 27 -/
def plus_Lines.enc (x : S52) : ExNode.Nd := ⟨x.f0, x.f1, x.f2, x.f3⟩
def plus_Lines.dec (x : ExNode.Nd) : S52 := ⟨x.kind, x.tag, x.a, x.b⟩
def plus_Lines.small (l : List ByteArray) : Bool := l.all fun s => decide (s.size ≤ 512)
def plus_Lines.f (l0 : List ByteArray) : Option (List (S52) × Int) := if l0.length ≤ 2000 then (if plus_Lines.small l0 = true then some ((PlLine.linesF l0).1.map plus_Lines.dec, (PlLine.linesF l0).2) else none) else none
theorem plus_Lines.calls (A0 : Option Addr) (c0 : Nat) (l0 : List ByteArray) (r1 : List (S52)) (r2 : Int) (w : World) (hr0 : Kd.C Kd.string w A0 l0.length l0) (hc0 : l0.length ≤ c0) (h : plus_Lines.f l0 = some (r1, r2)) :
    Calls Tryd.prog 27 #[.slice A0 l0.length c0] w fun e w' => ∃ v0_ : Value, e = .returned (.tuple #[v0_, .int .i64 r2]) ∧ Kd.R k52 52 w' w.heap.size (fun _ => True) v0_ r1 ∧ Below w.heap.size w w' := by
  unfold plus_Lines.f at h
  by_cases h0 : l0.length ≤ 2000
  · rw [if_pos h0] at h
    by_cases h1 : plus_Lines.small l0 = true
    · rw [if_pos h1] at h
      have e1 := Option.some.inj h
      injection e1 with e1 e2
      subst e1 e2
      refine (PlLine.Lines_calls A0 c0 l0 w hr0 (fun s hs => of_decide_eq_true (List.all_eq_true.1 h1 s hs)) h0).mono ?_
      rintro e w' ⟨v, rfl, ho, hb⟩
      refine ⟨v, rfl, RowsLib.R_of (f := fun x => ExNode.encN (plus_Lines.enc x)) (n := 4) (fun _ => rfl) rfl (fun ok x => k52_mkM _ _ _ x) ?_ (Nat.le_refl _), hb⟩
      have e1 : RowsLib.cellsL (fun x => ExNode.encN (plus_Lines.enc x)) ((PlLine.linesF l0).1.map plus_Lines.dec) = ExNode.cellsN (PlLine.linesF l0).1 := by
        unfold ExNode.cellsN RowsLib.cellsL
        rw [List.flatMap_map]
        rfl
      rw [e1, List.length_map]
      exact ho.1
    · rw [if_neg h1] at h
      cases h
  · rw [if_neg h0] at h
    cases h

end Go.Proofs.YtjndccjpjknbkaaDoor.PPl

-- by hprint.py (wip/): the kit's print over contracts proved by hand; a text of this session
namespace Go.Proofs.YtjndccjpjknbkaaDoor.PPl
open Go.RowKit Go.Proofs.YtjndccjpjknbkaaDoorW.PrintWords Go.Proofs.YtjndccjpjknbkaaDoorW.PrintLast Go.Proofs.YtjndccjpjknbkaaDoorW.PrintMore
attribute [local go_sem] max2_int min2_int max_two min_two max_three min_three max_four min_four   -- for this text's walks alone
set_option linter.unusedVariables false
set_option linter.unusedSimpArgs false

/-! ### graftbedlaw13_theirs: function 31 -/
def graftbedlaw13_theirs.l0 : Nat → List (S52) → List (S61) → Int → Option ((List (S61)))
  | 0, _, _, _ => none
  | k + 1, x0, x3, x4 => if x4 < (x0.length : Int) then (if 0 ≤ x4 then (if x3.length < 3518437208883 then (graftbedlaw13_theirs.l0 k x0 (x3 ++ [(⟨(rd_T52 x0 x4).f0, (rd_T52 x0 x4).f1, (rd_T52 x0 x4).f2, (rd_T52 x0 x4).f3⟩ : S61)]) (wrap64 (x4 + 1))) else (none)) else (none)) else (some x3)
def graftbedlaw13_theirs.f (k : Nat) (l0 : List (S52)) : Option ((List (S61))) := graftbedlaw13_theirs.l0 k l0 (([] : List (S61))) 0
theorem graftbedlaw13_theirs.mono_l : ∀ k, (∀ y0 y1 y2, LeO (graftbedlaw13_theirs.l0 k y0 y1 y2) (graftbedlaw13_theirs.l0 (k + 1) y0 y1 y2))
  | 0 => fun _ _ _ r h => by simp [graftbedlaw13_theirs.l0] at h
  | k + 1 => by
    have ih0 := graftbedlaw13_theirs.mono_l k
    · intro y0 y1 y2
      unfold graftbedlaw13_theirs.l0
      repeat' first
      | (with_reducible exact ih0 _ _ _)
      | (with_reducible exact LeO.refl _)
      | (with_reducible exact LeO.none _)
      | (with_reducible refine LeO.ite ?_ ?_)
      | (with_reducible refine LeO.bind ?_ (fun _ => ?_))
      | exact ih0 _ _ _
      | exact LeO.none _
      | refine LeO.ite ?_ ?_
      | refine LeO.bind ?_ (fun _ => ?_)
theorem graftbedlaw13_theirs.mono : ∀ a0 k, LeO (graftbedlaw13_theirs.f k a0) (graftbedlaw13_theirs.f (k + 1) a0) := by
  intro a0 k
  have ih0 := graftbedlaw13_theirs.mono_l k
  unfold graftbedlaw13_theirs.f
  repeat' first
      | (with_reducible exact ih0 _ _ _)
      | (with_reducible exact LeO.refl _)
      | (with_reducible exact LeO.none _)
      | (with_reducible refine LeO.ite ?_ ?_)
      | (with_reducible refine LeO.bind ?_ (fun _ => ?_))
      | exact ih0 _ _ _
      | exact LeO.none _
      | refine LeO.ite ?_ ?_
      | refine LeO.bind ?_ (fun _ => ?_)
set_option maxHeartbeats 8000000 in
set_option maxRecDepth 100000 in
theorem graftbedlaw13_theirs.calls (k : Nat) (A0 : Option Addr) (c0 : Nat) (l0 : List (S52)) (r : List (S61)) (w : World) (hr0 : Kd.C k52 w A0 l0.length l0) (hc0 : l0.length ≤ c0) (h : graftbedlaw13_theirs.f k l0 = some r) :
    Calls Tryd.prog 31 #[.slice A0 l0.length c0] w fun e w' => ∃ v0_ : Value, e = .returned (v0_) ∧ Kd.R k61 61 w' w.heap.size (fun _ => True) v0_ r ∧ Below w.heap.size w w' := by
  have hu52 := Tryd.underlying52
  have HR0 := Aside0.mk hr0
  have HC0 := Aside0.mk hc0
  clear hr0 hc0
  have HB := Aside0.mk (Below.refl w.heap.size w)
  have H : (graftbedlaw13_theirs.l0 k l0 (([] : List (S61))) 0) = some r := h
  clear h
  obtain ⟨y198, hy198⟩ : ∃ y_ : List (S61), y_ = (([] : List (S61))) := ⟨_, rfl⟩
  replace H : (graftbedlaw13_theirs.l0 k l0 y198 0) = some r := by first | (rw [hy198]; with_reducible exact H) | (have H2_ := (Option.bind_some _ _).symm.trans H; rw [hy198]; with_reducible exact H2_) | (have H2_ := (Option.bind_some _ _).symm.trans H; with_reducible exact H2_) | with_reducible exact H | (rw [hy198]; exact H) | exact H
  have Ny198 := Aside0.mk hy198
  clear hy198
  have H' := Aside0.mk H
  clear H
  go_enter Tryd.func31, Tryd.ntmps31
  go_wp2_with (first | ((with_reducible refine gate_dst (N := 5) rfl ?_); refine Kd.R_lit k61 _ 61 ?hg (N := 5) ?hd (xs := ([] : List (S61))) (inner := []) (ok := fun _ => True) (okp := fun _ => True) ?hr ?hp (fun _ hk => hk) trivial (Below.refl _ _) (Nat.le_refl _) (by simp) ?_; (case hd => rfl); (case hg => rfl); (case hr => first | (go_simp; done) | (go_simp; rfl)); (case hp => exact (Reps.none _ _)); intro v199 w2 ho3 hb hg_ hnew_; clear hg_ hnew_; (first | rw [← Ny198.out] at ho3 | (simp only [Int.reduceToNat] at ho3; rw [← Ny198.out] at ho3)); have n0_ := Aside0.mk (Kd.R_lower ho3 (below_size (by repeat (first | (with_reducible first | exact HB.out | apply below_alloc | apply pw_below_drewN | apply below_drew1) | exact HB.out)))); have n1_ := Aside0.mk (below_step (by repeat (first | (with_reducible first | exact HB.out | apply below_alloc | apply pw_below_drewN | apply below_drew1) | exact HB.out)) hb); clear HB; have HO200 := n0_; have HB := n1_; clear n0_ n1_; clear hb ho3))
  go_loopg [3, 4] k (fun kq v3 v4 w' => ∃ (x3_1 : List (S61)) (x4_1 : Int), v4 = .int .i64 x4_1 ∧ Aside0 (graftbedlaw13_theirs.l0 kq l0 x3_1 x4_1 = some r) ∧ Aside0 (kq ≤ k) ∧ Aside0 (Kd.R k61 61 w' w.heap.size (fun _ => True) v3 x3_1) ∧ Aside0 (Below w.heap.size w w'))
  case atStart => exact ⟨(y198), (0), (by first | rfl | (simp; done) | (simp [*]; done)), H', ⟨Nat.le_refl _⟩, ⟨by (with_reducible repeat (first | apply Kd.R_alloc | apply Kd.R_drewN | apply Kd.R_drew)); first | exact HO200.out | (have e_ := HO200.out; simp only [StrOrd.own_any] at e_ ⊢; exact e_)⟩, ⟨by repeat (first | (with_reducible first | exact HB.out | apply below_alloc | apply pw_below_drewN | apply below_drew1) | exact HB.out)⟩⟩
  case round =>
    clear H'
    try clear p2
    try clear c3
    obtain ⟨x3_1, x4_1, rfl, HA, HK1, HO_3, HB⟩ := hrel
    cases gk with
    | zero => exact absurd HA.out (by simp [graftbedlaw13_theirs.l0])
    | succ k1 =>
      have H := HA.out
      clear HA
      simp only [graftbedlaw13_theirs.l0] at H
      by_cases c4 : x4_1 < (l0.length : Int)
      · rw [if_pos c4] at H
        have c4b0 : decide (x4_1 < (l0.length : Int)) = true := decide_eq_true c4
        clear c4
        by_cases c5 : 0 ≤ x4_1
        · rw [if_pos c5] at H
          have c5b0 : decide (0 ≤ x4_1) = true := decide_eq_true c5
          clear c5
          by_cases c6 : x3_1.length < 3518437208883
          · rw [if_pos c6] at H
            have LMc6 := Aside0.mk c6
            clear c6
            obtain ⟨y202, hy202⟩ : ∃ y_ : List (S61), y_ = (x3_1 ++ [(⟨(rd_T52 l0 x4_1).f0, (rd_T52 l0 x4_1).f1, (rd_T52 l0 x4_1).f2, (rd_T52 l0 x4_1).f3⟩ : S61)]) := ⟨_, rfl⟩
            replace H : (graftbedlaw13_theirs.l0 k1 l0 y202 (wrap64 (x4_1 + 1))) = some r := by first | (rw [hy202]; with_reducible exact H) | (have H2_ := (Option.bind_some _ _).symm.trans H; rw [hy202]; with_reducible exact H2_) | (have H2_ := (Option.bind_some _ _).symm.trans H; with_reducible exact H2_) | with_reducible exact H | (rw [hy202]; exact H) | exact H
            have Ny202 := Aside0.mk hy202
            clear hy202
            have H' := Aside0.mk H
            clear H
            have p201 : 0 ≤ (x4_1 : Int) := of_decide_eq_true (by first | (with_reducible assumption) | assumption)
            have q201 : x4_1 < (l0.length : Int) := of_decide_eq_true (by first | (with_reducible assumption) | assumption)
            obtain ⟨ad201, e201, hx201_0, hx201_1, hx201_2, hx201_3⟩ := at_T52 HR0.out x4_1 p201 q201
            cases e201
            replace hx201_0 := (HB.out.cell (World.block_lt_of_cell? w _ hx201_0)).trans hx201_0
            replace hx201_1 := (HB.out.cell (World.block_lt_of_cell? w _ hx201_1)).trans hx201_1
            replace hx201_2 := (HB.out.cell (World.block_lt_of_cell? w _ hx201_2)).trans hx201_2
            replace hx201_3 := (HB.out.cell (World.block_lt_of_cell? w _ hx201_3)).trans hx201_3
            replace p201 := eq_true p201
            replace q201 := eq_true q201
            go_wp2_with (first | ((with_reducible refine gate_builtin (b := .append) (xs := #[.tmp 12, .tmp 17]) rfl ?_); at_builtin; refine Kd.R_append k61 (w0 := w) w.heap.size rfl (.tmp 12) (.tmp 17) 30 61 (.agg #[(.int .i64 0), (.string ⟨#[]⟩), (.int .i64 0), (.int .i64 0)]) 40 rfl Tryd.underlying30 info61 rfl (by decide) (by omega) u3 x3_1 (⟨(rd_T52 l0 x4_1).f0, (rd_T52 l0 x4_1).f1, (rd_T52 l0 x4_1).f2, (rd_T52 l0 x4_1).f3⟩ : S61) [.int .i64 ((rd_T52 l0 x4_1).f0), .string ((rd_T52 l0 x4_1).f1), .int .i64 ((rd_T52 l0 x4_1).f2), .int .i64 ((rd_T52 l0 x4_1).f3)] (fun _ => True) (fun _ => False) rfl rfl ?aP (fun _ hk => hk.elim) ?aF ?aO ?aB ?aS ?aL ?_; (case aP => exact k61_mkM _ _ _ (⟨(rd_T52 l0 x4_1).f0, (rd_T52 l0 x4_1).f1, (rd_T52 l0 x4_1).f2, (rd_T52 l0 x4_1).f3⟩ : S61)); (case aB => exact (by repeat (first | (with_reducible first | exact HB.out | apply below_alloc | apply pw_below_drewN | apply below_drew1) | exact HB.out))); (case aF => exact (fun _ _ => trivial)); (case aO => exact (by (with_reducible repeat (first | apply Kd.R_alloc | apply Kd.R_drewN | apply Kd.R_drew)); exact HO_3.out)); (case aS => exact (below_size (by repeat (first | (with_reducible first | exact HB.out | apply below_alloc | apply pw_below_drewN | apply below_drew1) | exact HB.out)))); (case aL => have := LMc6.out; omega); intro v203 w7 ho hb hg hat; rw [← Ny202.out] at ho; have n0_ := Aside0.mk (hb); have n1_ := Aside0.mk (ho); clear HB; clear HO_3; have HB := n0_; have HO204 := n1_; clear n0_ n1_; clear ho hb hg hat))
            go_roundg k1
            case measure => have := HK1.out; omega
            case rel => exact ⟨(y202), (wrap64 (x4_1 + 1)), (by first | rfl | (simp; done) | (simp [*]; done)), H', ⟨by have := HK1.out; omega⟩, ⟨by (with_reducible repeat (first | apply Kd.R_alloc | apply Kd.R_drewN | apply Kd.R_drew)); first | exact HO204.out | (have e_ := HO204.out; simp only [StrOrd.own_any] at e_ ⊢; exact e_)⟩, ⟨by repeat (first | (with_reducible first | exact HB.out | apply below_alloc | apply pw_below_drewN | apply below_drew1) | exact HB.out)⟩⟩
          · rw [if_neg c6] at H
            exact absurd H (by simp)
        · rw [if_neg c5] at H
          exact absurd H (by simp)
      · rw [if_neg c4] at H
        have c4b0 : decide (x4_1 < (l0.length : Int)) = false := decide_eq_false c4
        clear c4
        obtain rfl := Option.some.inj H
        go_wp2
        go_ret
        exact ⟨_, by first | rfl | (simp [errW_none, errW_some] <;> rfl) | (simp [*, errW_none, errW_some] <;> rfl), by (with_reducible repeat (first | apply Kd.R_alloc | apply Kd.R_drewN | apply Kd.R_drew)); exact HO_3.out, by repeat (first | (with_reducible first | exact HB.out | apply below_alloc | apply pw_below_drewN | apply below_drew1) | exact HB.out)⟩

end Go.Proofs.YtjndccjpjknbkaaDoor.PPl

-- by hprint.py (wip/): the kit's print over contracts proved by hand; a text of this session
namespace Go.Proofs.YtjndccjpjknbkaaDoor.PPl
open Go.RowKit Go.Proofs.YtjndccjpjknbkaaDoorW.PrintWords Go.Proofs.YtjndccjpjknbkaaDoorW.PrintLast Go.Proofs.YtjndccjpjknbkaaDoorW.PrintMore
attribute [local go_sem] max2_int min2_int max_two min_two max_three min_three max_four min_four   -- for this text's walks alone
set_option linter.unusedVariables false
set_option linter.unusedSimpArgs false

/-! ### graftbedlaw13_PlusLines: function 7 -/
def graftbedlaw13_PlusLines.j0 : Nat → List ByteArray → ByteArray → Bool → Option (Bool)
  | 0, _, _, _ => none
  | k + 1, x0, x1, x21 => if x21 = true then (some true) else ((plus_Lines.f x0).bind fun bt206 => ((graftbedref13_Lines.f k x0).bind fun bt210 => ((plus_Line.f x1).bind fun bt214 => ((graftbedref13_Line.f k x1).bind fun bt218 => ((plus_Line.f (⟨#[]⟩ : ByteArray)).bind fun bt222 => (if bt206.2 = bt210.2 then (if bt214.2 = bt218.2 then ((graftbedlaw13_theirs.f k bt206.1).bind fun t226 => ((graftbedref12_Same.f k t226 bt210.1).bind fun t229 => (if t229 = true then ((graftbedlaw13_theirs.f k bt214.1).bind fun t230 => ((graftbedref12_Same.f k t230 bt218.1).bind fun t233 => (if t233 = true then (some (bt222.2 == 120)) else (some false)))) else (some false)))) else (some false)) else (some false)))))))
def graftbedlaw13_PlusLines.f (k : Nat) (l0 : List ByteArray) (a1 : ByteArray) : Option (Bool) := (graftbedlaw13_heavy.f k l0).bind fun t205 => (if t205 = true then (graftbedlaw13_PlusLines.j0 k l0 a1 true) else (graftbedlaw13_PlusLines.j0 k l0 a1 (decide ((a1.size : Int) > 512))))
theorem graftbedlaw13_PlusLines.mono_l : ∀ k, (∀ y0 y1 y2, LeO (graftbedlaw13_PlusLines.j0 k y0 y1 y2) (graftbedlaw13_PlusLines.j0 (k + 1) y0 y1 y2))
  | 0 => fun _ _ _ r h => by simp [graftbedlaw13_PlusLines.j0] at h
  | k + 1 => by
    have ih0 := graftbedlaw13_PlusLines.mono_l k
    · intro y0 y1 y2
      unfold graftbedlaw13_PlusLines.j0
      repeat' first
      | (with_reducible exact ih0 _ _ _)
      | (with_reducible exact graftbedlaw13_heavy.mono _ _)
      | (with_reducible exact graftbedlaw13_theirs.mono _ _)
      | (with_reducible exact graftbedref12_Same.mono _ _ _)
      | (with_reducible exact graftbedref13_Line.mono _ _)
      | (with_reducible exact graftbedref13_Lines.mono _ _)
      | (with_reducible exact LeO.refl _)
      | (with_reducible exact LeO.none _)
      | (with_reducible refine LeO.ite ?_ ?_)
      | (with_reducible refine LeO.bind ?_ (fun _ => ?_))
      | exact ih0 _ _ _
      | exact graftbedlaw13_heavy.mono _ _
      | exact graftbedlaw13_theirs.mono _ _
      | exact graftbedref12_Same.mono _ _ _
      | exact graftbedref13_Line.mono _ _
      | exact graftbedref13_Lines.mono _ _
      | exact LeO.none _
      | refine LeO.ite ?_ ?_
      | refine LeO.bind ?_ (fun _ => ?_)
theorem graftbedlaw13_PlusLines.mono : ∀ a0 a1 k, LeO (graftbedlaw13_PlusLines.f k a0 a1) (graftbedlaw13_PlusLines.f (k + 1) a0 a1) := by
  intro a0 a1 k
  have ih0 := graftbedlaw13_PlusLines.mono_l k
  unfold graftbedlaw13_PlusLines.f
  repeat' first
      | (with_reducible exact ih0 _ _ _)
      | (with_reducible exact graftbedlaw13_heavy.mono _ _)
      | (with_reducible exact graftbedlaw13_theirs.mono _ _)
      | (with_reducible exact graftbedref12_Same.mono _ _ _)
      | (with_reducible exact graftbedref13_Line.mono _ _)
      | (with_reducible exact graftbedref13_Lines.mono _ _)
      | (with_reducible exact LeO.refl _)
      | (with_reducible exact LeO.none _)
      | (with_reducible refine LeO.ite ?_ ?_)
      | (with_reducible refine LeO.bind ?_ (fun _ => ?_))
      | exact ih0 _ _ _
      | exact graftbedlaw13_heavy.mono _ _
      | exact graftbedlaw13_theirs.mono _ _
      | exact graftbedref12_Same.mono _ _ _
      | exact graftbedref13_Line.mono _ _
      | exact graftbedref13_Lines.mono _ _
      | exact LeO.none _
      | refine LeO.ite ?_ ?_
      | refine LeO.bind ?_ (fun _ => ?_)
set_option maxHeartbeats 8000000 in
set_option maxRecDepth 100000 in
theorem graftbedlaw13_PlusLines.calls (k : Nat) (A0 : Option Addr) (c0 : Nat) (l0 : List ByteArray) (a1 : ByteArray) (r : Bool) (hr_ : Aside0 (r = true)) (w : World) (hr0 : Kd.C Kd.string w A0 l0.length l0) (hc0 : l0.length ≤ c0) (h : graftbedlaw13_PlusLines.f k l0 a1 = some r) :
    Calls Tryd.prog 7 #[.slice A0 l0.length c0, .string a1] w fun e w' => e = .returned (.bool r) ∧ Below w.heap.size w w' := by
  have HR0 := Aside0.mk hr0
  have HC0 := Aside0.mk hc0
  clear hr0 hc0
  have HB := Aside0.mk (Below.refl w.heap.size w)
  have H : ((graftbedlaw13_heavy.f k l0).bind fun t205 => (if t205 = true then (graftbedlaw13_PlusLines.j0 k l0 a1 true) else (graftbedlaw13_PlusLines.j0 k l0 a1 (decide ((a1.size : Int) > 512))))) = some r := h
  clear h
  have HC3 := Aside0.mk H
  clear H
  go_enter Tryd.func7, Tryd.ntmps7
  go_upto_region 1 with (fail)
  go_cut [21] (fun v21 wc => ∃ (kq : Nat) (x21_2 : Bool), v21 = .bool x21_2 ∧ Aside0 (graftbedlaw13_PlusLines.j0 kq l0 a1 x21_2 = some r) ∧ Aside0 (kq ≤ k) ∧ Aside0 (Below w.heap.size w wc))
  case first =>
    have H := HC3.out
    clear HC3
    replace H := Option.bind_eq_some_iff.mp H
    obtain ⟨t205, A40, H⟩ := H
    replace H : (if t205 = true then (graftbedlaw13_PlusLines.j0 k l0 a1 true) else (graftbedlaw13_PlusLines.j0 k l0 a1 (decide ((a1.size : Int) > 512)))) = some r := H
    have A4 := Aside0.mk A40
    clear A40
    by_cases c5 : t205 = true
    · subst c5
      have H1 : (graftbedlaw13_PlusLines.j0 k l0 a1 true) = some r := by rw [if_pos rfl] at H; exact H
      clear H
      have H := H1
      clear H1
      have H' := Aside0.mk H
      clear H
      go_wp2_with (first | ((with_reducible refine gate_callee (f := 26) rfl ?_); refine goesL_ (some 16) rfl rfl Tryd.func26 (by kernel_rfl) rfl #[.slice A0 l0.length c0] rfl (by (try simp only [List.map_toArray, List.map_cons, List.map_nil]); first | done | rfl | (simp only [List.length_drop, List.length_take]; rfl) | (simp only [ByteArray.size_extract, Nat.min_self]; done) | (simp only [ByteArray.size_append, StrMore.size_lit, List.length_cons, List.length_nil, Nat.zero_add, Nat.reduceAdd] <;> rfl)) ?_; (with_reducible refine (graftbedlaw13_heavy.calls k _ _ l0 true _ ?side1 ?side2 A4.out).mono ?_); (case side1 => repeat (first | exact (Kd.C_below HR0.out HB.out) | (with_reducible refine Kd.C_alloc ?_ _) | (with_reducible refine Kd.C_drewN ?_ _) | (with_reducible refine Kd.C_drew ?_))); (case side2 => exact HC0.out); rintro e w6 ⟨rfl, hb⟩; refine ⟨_, rfl, ?_⟩; have n0_ := Aside0.mk (below_step (by repeat (first | (with_reducible first | exact HB.out | apply below_alloc | apply pw_below_drewN | apply below_drew1) | exact HB.out)) hb); clear HB; have HB := n0_; clear n0_; (try clear hb); (try clear hb2); (try clear hk); (try clear hi)))
      go_meet
      case rel => exact ⟨_, (true), (by first | rfl | (simp; done) | (simp [*]; done)), H', ⟨by first | omega | exact Nat.le_refl _⟩, ⟨by repeat (first | (with_reducible first | exact HB.out | apply below_alloc | apply pw_below_drewN | apply below_drew1) | exact HB.out)⟩⟩
    · replace c5 := Bool.eq_false_iff.mpr c5
      subst c5
      have H1 : (graftbedlaw13_PlusLines.j0 k l0 a1 (decide ((a1.size : Int) > 512))) = some r := by rw [if_neg (show ¬ (false = true) by decide)] at H; exact H
      clear H
      have H := H1
      clear H1
      have H' := Aside0.mk H
      clear H
      go_wp2_with (first | ((with_reducible refine gate_callee (f := 26) rfl ?_); refine goesL_ (some 16) rfl rfl Tryd.func26 (by kernel_rfl) rfl #[.slice A0 l0.length c0] rfl (by (try simp only [List.map_toArray, List.map_cons, List.map_nil]); first | done | rfl | (simp only [List.length_drop, List.length_take]; rfl) | (simp only [ByteArray.size_extract, Nat.min_self]; done) | (simp only [ByteArray.size_append, StrMore.size_lit, List.length_cons, List.length_nil, Nat.zero_add, Nat.reduceAdd] <;> rfl)) ?_; (with_reducible refine (graftbedlaw13_heavy.calls k _ _ l0 false _ ?side1 ?side2 A4.out).mono ?_); (case side1 => repeat (first | exact (Kd.C_below HR0.out HB.out) | (with_reducible refine Kd.C_alloc ?_ _) | (with_reducible refine Kd.C_drewN ?_ _) | (with_reducible refine Kd.C_drew ?_))); (case side2 => exact HC0.out); rintro e w7 ⟨rfl, hb⟩; refine ⟨_, rfl, ?_⟩; have n0_ := Aside0.mk (below_step (by repeat (first | (with_reducible first | exact HB.out | apply below_alloc | apply pw_below_drewN | apply below_drew1) | exact HB.out)) hb); clear HB; have HB := n0_; clear n0_; (try clear hb); (try clear hb2); (try clear hk); (try clear hi)))
      go_meet
      case rel => exact ⟨_, (decide ((a1.size : Int) > 512)), (by first | rfl | (simp; done) | (simp [*]; done)), H', ⟨by first | omega | exact Nat.le_refl _⟩, ⟨by repeat (first | (with_reducible first | exact HB.out | apply below_alloc | apply pw_below_drewN | apply below_drew1) | exact HB.out)⟩⟩
  case rest =>
    clear HC3
    try clear c2
    try clear p2
    try clear c5
    try clear c7
    obtain ⟨kq, x21_2, rfl, HA, HJ2, HB⟩ := hcut
    cases kq with
    | zero => exact absurd HA.out (by simp [graftbedlaw13_PlusLines.j0])
    | succ kj2 =>
      have H := HA.out
      clear HA
      simp only [graftbedlaw13_PlusLines.j0] at H
      by_cases c8 : x21_2 = true
      · subst c8
        have H1 : (some true) = some r := by rw [if_pos rfl] at H; exact H
        clear H
        have H := H1
        clear H1
        obtain rfl := Option.some.inj H
        go_wp2
        go_ret
        exact ⟨by first | rfl | (simp [errW_none, errW_some] <;> rfl) | (simp [*, errW_none, errW_some] <;> rfl) | (exfalso; simp only [decide_eq_true_eq, decide_eq_false_iff_not, beq_iff_eq, beq_eq_false_iff_ne] at *; first | contradiction | omega), by repeat (first | (with_reducible first | exact HB.out | apply below_alloc | apply pw_below_drewN | apply below_drew1) | exact HB.out)⟩
      · replace c8 := Bool.eq_false_iff.mpr c8
        subst c8
        have H1 : ((plus_Lines.f l0).bind fun bt206 => ((graftbedref13_Lines.f kj2 l0).bind fun bt210 => ((plus_Line.f a1).bind fun bt214 => ((graftbedref13_Line.f kj2 a1).bind fun bt218 => ((plus_Line.f (⟨#[]⟩ : ByteArray)).bind fun bt222 => (if bt206.2 = bt210.2 then (if bt214.2 = bt218.2 then ((graftbedlaw13_theirs.f kj2 bt206.1).bind fun t226 => ((graftbedref12_Same.f kj2 t226 bt210.1).bind fun t229 => (if t229 = true then ((graftbedlaw13_theirs.f kj2 bt214.1).bind fun t230 => ((graftbedref12_Same.f kj2 t230 bt218.1).bind fun t233 => (if t233 = true then (some (bt222.2 == 120)) else (some false)))) else (some false)))) else (some false)) else (some false))))))) = some r := by rw [if_neg (show ¬ (false = true) by decide)] at H; exact H
        clear H
        have H := H1
        clear H1
        replace H := Option.bind_eq_some_iff.mp H
        obtain ⟨⟨t206, t207⟩, A90, H⟩ := H
        replace H : ((graftbedref13_Lines.f kj2 l0).bind fun bt210 => ((plus_Line.f a1).bind fun bt214 => ((graftbedref13_Line.f kj2 a1).bind fun bt218 => ((plus_Line.f (⟨#[]⟩ : ByteArray)).bind fun bt222 => (if t207 = bt210.2 then (if bt214.2 = bt218.2 then ((graftbedlaw13_theirs.f kj2 t206).bind fun t226 => ((graftbedref12_Same.f kj2 t226 bt210.1).bind fun t229 => (if t229 = true then ((graftbedlaw13_theirs.f kj2 bt214.1).bind fun t230 => ((graftbedref12_Same.f kj2 t230 bt218.1).bind fun t233 => (if t233 = true then (some (bt222.2 == 120)) else (some false)))) else (some false)))) else (some false)) else (some false)))))) = some r := H
        have A9 := Aside0.mk A90
        clear A90
        replace H := Option.bind_eq_some_iff.mp H
        obtain ⟨⟨t210, t211⟩, A100, H⟩ := H
        replace H : ((plus_Line.f a1).bind fun bt214 => ((graftbedref13_Line.f kj2 a1).bind fun bt218 => ((plus_Line.f (⟨#[]⟩ : ByteArray)).bind fun bt222 => (if t207 = t211 then (if bt214.2 = bt218.2 then ((graftbedlaw13_theirs.f kj2 t206).bind fun t226 => ((graftbedref12_Same.f kj2 t226 t210).bind fun t229 => (if t229 = true then ((graftbedlaw13_theirs.f kj2 bt214.1).bind fun t230 => ((graftbedref12_Same.f kj2 t230 bt218.1).bind fun t233 => (if t233 = true then (some (bt222.2 == 120)) else (some false)))) else (some false)))) else (some false)) else (some false))))) = some r := H
        have A10 := Aside0.mk A100
        clear A100
        replace H := Option.bind_eq_some_iff.mp H
        obtain ⟨⟨t214, t215⟩, A110, H⟩ := H
        replace H : ((graftbedref13_Line.f kj2 a1).bind fun bt218 => ((plus_Line.f (⟨#[]⟩ : ByteArray)).bind fun bt222 => (if t207 = t211 then (if t215 = bt218.2 then ((graftbedlaw13_theirs.f kj2 t206).bind fun t226 => ((graftbedref12_Same.f kj2 t226 t210).bind fun t229 => (if t229 = true then ((graftbedlaw13_theirs.f kj2 t214).bind fun t230 => ((graftbedref12_Same.f kj2 t230 bt218.1).bind fun t233 => (if t233 = true then (some (bt222.2 == 120)) else (some false)))) else (some false)))) else (some false)) else (some false)))) = some r := H
        have A11 := Aside0.mk A110
        clear A110
        replace H := Option.bind_eq_some_iff.mp H
        obtain ⟨⟨t218, t219⟩, A120, H⟩ := H
        replace H : ((plus_Line.f (⟨#[]⟩ : ByteArray)).bind fun bt222 => (if t207 = t211 then (if t215 = t219 then ((graftbedlaw13_theirs.f kj2 t206).bind fun t226 => ((graftbedref12_Same.f kj2 t226 t210).bind fun t229 => (if t229 = true then ((graftbedlaw13_theirs.f kj2 t214).bind fun t230 => ((graftbedref12_Same.f kj2 t230 t218).bind fun t233 => (if t233 = true then (some (bt222.2 == 120)) else (some false)))) else (some false)))) else (some false)) else (some false))) = some r := H
        have A12 := Aside0.mk A120
        clear A120
        replace H := Option.bind_eq_some_iff.mp H
        obtain ⟨⟨t222, t223⟩, A130, H⟩ := H
        replace H : (if t207 = t211 then (if t215 = t219 then ((graftbedlaw13_theirs.f kj2 t206).bind fun t226 => ((graftbedref12_Same.f kj2 t226 t210).bind fun t229 => (if t229 = true then ((graftbedlaw13_theirs.f kj2 t214).bind fun t230 => ((graftbedref12_Same.f kj2 t230 t218).bind fun t233 => (if t233 = true then (some (t223 == 120)) else (some false)))) else (some false)))) else (some false)) else (some false)) = some r := H
        have A13 := Aside0.mk A130
        clear A130
        by_cases c14 : t207 = t211
        · rw [if_pos c14] at H
          have c14b0 : (t207 == t211) = true := beq_iff_eq.mpr c14
          have c14b1 : (t207 != t211) = false := bne_eq_false_iff_eq.mpr c14
          clear c14
          by_cases c15 : t215 = t219
          · rw [if_pos c15] at H
            have c15b0 : (t215 == t219) = true := beq_iff_eq.mpr c15
            have c15b1 : (t215 != t219) = false := bne_eq_false_iff_eq.mpr c15
            clear c15
            replace H := Option.bind_eq_some_iff.mp H
            obtain ⟨t226, A160, H⟩ := H
            replace H : ((graftbedref12_Same.f kj2 t226 t210).bind fun t229 => (if t229 = true then ((graftbedlaw13_theirs.f kj2 t214).bind fun t230 => ((graftbedref12_Same.f kj2 t230 t218).bind fun t233 => (if t233 = true then (some (t223 == 120)) else (some false)))) else (some false))) = some r := H
            have A16 := Aside0.mk A160
            clear A160
            replace H := Option.bind_eq_some_iff.mp H
            obtain ⟨t229, A170, H⟩ := H
            replace H : (if t229 = true then ((graftbedlaw13_theirs.f kj2 t214).bind fun t230 => ((graftbedref12_Same.f kj2 t230 t218).bind fun t233 => (if t233 = true then (some (t223 == 120)) else (some false)))) else (some false)) = some r := H
            have A17 := Aside0.mk A170
            clear A170
            by_cases c18 : t229 = true
            · subst c18
              have H1 : ((graftbedlaw13_theirs.f kj2 t214).bind fun t230 => ((graftbedref12_Same.f kj2 t230 t218).bind fun t233 => (if t233 = true then (some (t223 == 120)) else (some false)))) = some r := by rw [if_pos rfl] at H; exact H
              clear H
              have H := H1
              clear H1
              replace H := Option.bind_eq_some_iff.mp H
              obtain ⟨t230, A190, H⟩ := H
              replace H : ((graftbedref12_Same.f kj2 t230 t218).bind fun t233 => (if t233 = true then (some (t223 == 120)) else (some false))) = some r := H
              have A19 := Aside0.mk A190
              clear A190
              replace H := Option.bind_eq_some_iff.mp H
              obtain ⟨t233, A200, H⟩ := H
              replace H : (if t233 = true then (some (t223 == 120)) else (some false)) = some r := H
              have A20 := Aside0.mk A200
              clear A200
              by_cases c21 : t233 = true
              · subst c21
                have H1 : (some (t223 == 120)) = some r := by rw [if_pos rfl] at H; exact H
                clear H
                have H := H1
                clear H1
                obtain rfl := Option.some.inj H
                go_wp2_with (first | ((with_reducible refine gate_callee (f := 27) rfl ?_); refine goesL_ (some 24) rfl rfl Tryd.func27 (by kernel_rfl) rfl #[.slice A0 l0.length c0] rfl (by (try simp only [List.map_toArray, List.map_cons, List.map_nil]); first | done | rfl | (simp only [List.length_drop, List.length_take]; rfl) | (simp only [ByteArray.size_extract, Nat.min_self]; done) | (simp only [ByteArray.size_append, StrMore.size_lit, List.length_cons, List.length_nil, Nat.zero_add, Nat.reduceAdd] <;> rfl)) ?_; (with_reducible refine (plus_Lines.calls _ _ l0 t206 t207 _ ?side1 ?side2 A9.out).mono ?_); (case side1 => repeat (first | exact (Kd.C_below HR0.out HB.out) | (with_reducible refine Kd.C_alloc ?_ _) | (with_reducible refine Kd.C_drewN ?_ _) | (with_reducible refine Kd.C_drew ?_))); (case side2 => exact HC0.out); rintro e w22 ⟨v208, rfl, ho0, hb⟩; refine ⟨_, rfl, ?_⟩; have n0_ := Aside0.mk (Kd.R_lower ho0 (below_size (by repeat (first | (with_reducible first | exact HB.out | apply below_alloc | apply pw_below_drewN | apply below_drew1) | exact HB.out)))); have n1_ := Aside0.mk (below_step (by repeat (first | (with_reducible first | exact HB.out | apply below_alloc | apply pw_below_drewN | apply below_drew1) | exact HB.out)) hb); clear HB; have HO209 := n0_; have HB := n1_; clear n0_ n1_; (try clear hb); (try clear hb2); (try clear hk); (try clear hi); (try clear ho0)) | ((with_reducible refine gate_callee (f := 28) rfl ?_); refine goesL_ (some 29) rfl rfl Tryd.func28 (by kernel_rfl) rfl #[.slice A0 l0.length c0] rfl (by (try simp only [List.map_toArray, List.map_cons, List.map_nil]); first | done | rfl | (simp only [List.length_drop, List.length_take]; rfl) | (simp only [ByteArray.size_extract, Nat.min_self]; done) | (simp only [ByteArray.size_append, StrMore.size_lit, List.length_cons, List.length_nil, Nat.zero_add, Nat.reduceAdd] <;> rfl)) ?_; (with_reducible refine (graftbedref13_Lines.calls kj2 _ _ l0 t210 t211 _ ?side1 ?side2 A10.out).mono ?_); (case side1 => repeat (first | exact (Kd.C_below HR0.out HB.out) | (with_reducible refine Kd.C_alloc ?_ _) | (with_reducible refine Kd.C_drewN ?_ _) | (with_reducible refine Kd.C_drew ?_))); (case side2 => exact HC0.out); rintro e w23 ⟨v212, rfl, ho0, hb⟩; refine ⟨_, rfl, ?_⟩; have n0_ := Aside0.mk (Kd.R_below (by (with_reducible repeat (first | apply Kd.R_alloc | apply Kd.R_drewN | apply Kd.R_drew)); exact HO209.out) hb); have n1_ := Aside0.mk (Kd.R_lower ho0 (below_size (by repeat (first | (with_reducible first | exact HB.out | apply below_alloc | apply pw_below_drewN | apply below_drew1) | exact HB.out)))); have n2_ := Aside0.mk (below_step (by repeat (first | (with_reducible first | exact HB.out | apply below_alloc | apply pw_below_drewN | apply below_drew1) | exact HB.out)) hb); clear HO209; clear HB; have HO209 := n0_; have HO213 := n1_; have HB := n2_; clear n0_ n1_ n2_; (try clear hb); (try clear hb2); (try clear hk); (try clear hi); (try clear ho0)) | ((with_reducible refine gate_callee (f := 29) rfl ?_); refine goesL_ (some 34) rfl rfl Tryd.func29 (by kernel_rfl) rfl #[.string a1] rfl (by (try simp only [List.map_toArray, List.map_cons, List.map_nil]); first | done | rfl | (simp only [List.length_drop, List.length_take]; rfl) | (simp only [ByteArray.size_extract, Nat.min_self]; done) | (simp only [ByteArray.size_append, StrMore.size_lit, List.length_cons, List.length_nil, Nat.zero_add, Nat.reduceAdd] <;> rfl)) ?_; (with_reducible refine (plus_Line.calls a1 t214 t215 _ A11.out).mono ?_); (all_goals (try clear A11)); rintro e w24 ⟨v216, rfl, ho0, hb⟩; refine ⟨_, rfl, ?_⟩; have n0_ := Aside0.mk (Kd.R_elder' (by (with_reducible repeat (first | apply Kd.R_alloc | apply Kd.R_drewN | apply Kd.R_drew)); exact HO209.out) (Kd.R_base ho0) hb); have n1_ := Aside0.mk (Kd.R_below (by (with_reducible repeat (first | apply Kd.R_alloc | apply Kd.R_drewN | apply Kd.R_drew)); exact HO213.out) hb); have n2_ := Aside0.mk (Kd.R_lower (Kd.R_new' ho0 (Kd.R_lt (by (with_reducible repeat (first | apply Kd.R_alloc | apply Kd.R_drewN | apply Kd.R_drew)); exact HO209.out))) (below_size (by repeat (first | (with_reducible first | exact HB.out | apply below_alloc | apply pw_below_drewN | apply below_drew1) | exact HB.out)))); have n3_ := Aside0.mk (below_step (by repeat (first | (with_reducible first | exact HB.out | apply below_alloc | apply pw_below_drewN | apply below_drew1) | exact HB.out)) hb); clear HO209; clear HO213; clear HB; have HO209 := n0_; have HO213 := n1_; have HO217 := n2_; have HB := n3_; clear n0_ n1_ n2_ n3_; (try clear hb); (try clear hb2); (try clear hk); (try clear hi); (try clear ho0)) | ((with_reducible refine gate_callee (f := 30) rfl ?_); refine goesL_ (some 39) rfl rfl Tryd.func30 (by kernel_rfl) rfl #[.string a1] rfl (by (try simp only [List.map_toArray, List.map_cons, List.map_nil]); first | done | rfl | (simp only [List.length_drop, List.length_take]; rfl) | (simp only [ByteArray.size_extract, Nat.min_self]; done) | (simp only [ByteArray.size_append, StrMore.size_lit, List.length_cons, List.length_nil, Nat.zero_add, Nat.reduceAdd] <;> rfl)) ?_; (with_reducible refine (graftbedref13_Line.calls kj2 a1 t218 t219 _ A12.out).mono ?_); rintro e w25 ⟨v220, rfl, ho0, hb⟩; refine ⟨_, rfl, ?_⟩; have n0_ := Aside0.mk (Kd.R_below (by (with_reducible repeat (first | apply Kd.R_alloc | apply Kd.R_drewN | apply Kd.R_drew)); exact HO209.out) hb); have n1_ := Aside0.mk (Kd.R_elder' (by (with_reducible repeat (first | apply Kd.R_alloc | apply Kd.R_drewN | apply Kd.R_drew)); exact HO213.out) (Kd.R_base ho0) hb); have n2_ := Aside0.mk (Kd.R_below (by (with_reducible repeat (first | apply Kd.R_alloc | apply Kd.R_drewN | apply Kd.R_drew)); exact HO217.out) hb); have n3_ := Aside0.mk (Kd.R_lower (Kd.R_new' ho0 (Kd.R_lt (by (with_reducible repeat (first | apply Kd.R_alloc | apply Kd.R_drewN | apply Kd.R_drew)); exact HO213.out))) (below_size (by repeat (first | (with_reducible first | exact HB.out | apply below_alloc | apply pw_below_drewN | apply below_drew1) | exact HB.out)))); have n4_ := Aside0.mk (below_step (by repeat (first | (with_reducible first | exact HB.out | apply below_alloc | apply pw_below_drewN | apply below_drew1) | exact HB.out)) hb); clear HO209; clear HO213; clear HO217; clear HB; have HO209 := n0_; have HO213 := n1_; have HO217 := n2_; have HO221 := n3_; have HB := n4_; clear n0_ n1_ n2_ n3_ n4_; (try clear hb); (try clear hb2); (try clear hk); (try clear hi); (try clear ho0)) | ((with_reducible refine gate_callee (f := 29) rfl ?_); refine goesL_ (some 43) rfl rfl Tryd.func29 (by kernel_rfl) rfl #[.string (⟨#[]⟩ : ByteArray)] rfl (by (try simp only [List.map_toArray, List.map_cons, List.map_nil]); first | done | rfl | (simp only [List.length_drop, List.length_take]; rfl) | (simp only [ByteArray.size_extract, Nat.min_self]; done) | (simp only [ByteArray.size_append, StrMore.size_lit, List.length_cons, List.length_nil, Nat.zero_add, Nat.reduceAdd] <;> rfl)) ?_; (with_reducible refine (plus_Line.calls (⟨#[]⟩ : ByteArray) t222 t223 _ A13.out).mono ?_); (all_goals (try clear A13)); rintro e w26 ⟨v224, rfl, ho0, hb⟩; refine ⟨_, rfl, ?_⟩; have n0_ := Aside0.mk (Kd.R_elder' (by (with_reducible repeat (first | apply Kd.R_alloc | apply Kd.R_drewN | apply Kd.R_drew)); exact HO209.out) (Kd.R_base ho0) hb); have n1_ := Aside0.mk (Kd.R_below (by (with_reducible repeat (first | apply Kd.R_alloc | apply Kd.R_drewN | apply Kd.R_drew)); exact HO213.out) hb); have n2_ := Aside0.mk (Kd.R_elder' (by (with_reducible repeat (first | apply Kd.R_alloc | apply Kd.R_drewN | apply Kd.R_drew)); exact HO217.out) (Kd.R_base ho0) hb); have n3_ := Aside0.mk (Kd.R_below (by (with_reducible repeat (first | apply Kd.R_alloc | apply Kd.R_drewN | apply Kd.R_drew)); exact HO221.out) hb); have n4_ := Aside0.mk (Kd.R_lower (Kd.R_new' (Kd.R_new' ho0 (Kd.R_lt (by (with_reducible repeat (first | apply Kd.R_alloc | apply Kd.R_drewN | apply Kd.R_drew)); exact HO209.out))) (Kd.R_lt (by (with_reducible repeat (first | apply Kd.R_alloc | apply Kd.R_drewN | apply Kd.R_drew)); exact HO217.out))) (below_size (by repeat (first | (with_reducible first | exact HB.out | apply below_alloc | apply pw_below_drewN | apply below_drew1) | exact HB.out)))); have n5_ := Aside0.mk (below_step (by repeat (first | (with_reducible first | exact HB.out | apply below_alloc | apply pw_below_drewN | apply below_drew1) | exact HB.out)) hb); clear HO209; clear HO213; clear HO217; clear HO221; clear HB; have HO209 := n0_; have HO213 := n1_; have HO217 := n2_; have HO221 := n3_; have HO225 := n4_; have HB := n5_; clear n0_ n1_ n2_ n3_ n4_ n5_; (try clear hb); (try clear hb2); (try clear hk); (try clear hi); (try clear ho0); obtain ⟨Ao27, co27, eo27⟩ := Kd.R_slice HO209.out; subst eo27) | (go_at_call 31; (with_reducible refine (graftbedlaw13_theirs.calls kj2 _ _ t206 t226 _ ?side1 ?side2 A16.out).mono ?_); (all_goals (try clear A16)); (case side1 => repeat (first | exact (Kd.R_reads' HO209.out).2.2 | (with_reducible refine Kd.C_alloc ?_ _) | (with_reducible refine Kd.C_drewN ?_ _) | (with_reducible refine Kd.C_drew ?_))); (case side2 => exact (Kd.R_reads' HO209.out).2.1); rintro e w28 ⟨v227, rfl, ho0, hb⟩; have n0_ := Aside0.mk (Kd.R_below (by (with_reducible repeat (first | apply Kd.R_alloc | apply Kd.R_drewN | apply Kd.R_drew)); exact HO209.out) hb); have n1_ := Aside0.mk (Kd.R_elder' (by (with_reducible repeat (first | apply Kd.R_alloc | apply Kd.R_drewN | apply Kd.R_drew)); exact HO213.out) (Kd.R_base ho0) hb); have n2_ := Aside0.mk (Kd.R_below (by (with_reducible repeat (first | apply Kd.R_alloc | apply Kd.R_drewN | apply Kd.R_drew)); exact HO217.out) hb); have n3_ := Aside0.mk (Kd.R_elder' (by (with_reducible repeat (first | apply Kd.R_alloc | apply Kd.R_drewN | apply Kd.R_drew)); exact HO221.out) (Kd.R_base ho0) hb); have n4_ := Aside0.mk (Kd.R_below (by (with_reducible repeat (first | apply Kd.R_alloc | apply Kd.R_drewN | apply Kd.R_drew)); exact HO225.out) hb); have n5_ := Aside0.mk (Kd.R_lower (Kd.R_new' (Kd.R_new' ho0 (Kd.R_lt (by (with_reducible repeat (first | apply Kd.R_alloc | apply Kd.R_drewN | apply Kd.R_drew)); exact HO213.out))) (Kd.R_lt (by (with_reducible repeat (first | apply Kd.R_alloc | apply Kd.R_drewN | apply Kd.R_drew)); exact HO221.out))) (below_size (by repeat (first | (with_reducible first | exact HB.out | apply below_alloc | apply pw_below_drewN | apply below_drew1) | exact HB.out)))); have n6_ := Aside0.mk (below_step (by repeat (first | (with_reducible first | exact HB.out | apply below_alloc | apply pw_below_drewN | apply below_drew1) | exact HB.out)) hb); clear HO209; clear HO213; clear HO217; clear HO221; clear HO225; clear HB; have HO209 := n0_; have HO213 := n1_; have HO217 := n2_; have HO221 := n3_; have HO225 := n4_; have HO228 := n5_; have HB := n6_; clear n0_ n1_ n2_ n3_ n4_ n5_ n6_; (try clear hb); (try clear hb2); (try clear hk); (try clear hi); (try clear ho0); obtain ⟨Ao29, co29, eo29⟩ := Kd.R_slice HO228.out; subst eo29; obtain ⟨Ao30, co30, eo30⟩ := Kd.R_slice HO213.out; subst eo30) | (go_at_call 22; (with_reducible refine (graftbedref12_Same.calls kj2 _ _ t226 _ _ t210 true _ ?side1 ?side2 ?side3 ?side4 A17.out).mono ?_); (all_goals (try clear A17)); (case side1 => repeat (first | exact (Kd.R_reads' HO228.out).2.2 | (with_reducible refine Kd.C_alloc ?_ _) | (with_reducible refine Kd.C_drewN ?_ _) | (with_reducible refine Kd.C_drew ?_))); (case side2 => exact (Kd.R_reads' HO228.out).2.1); (case side3 => repeat (first | exact (Kd.R_reads' HO213.out).2.2 | (with_reducible refine Kd.C_alloc ?_ _) | (with_reducible refine Kd.C_drewN ?_ _) | (with_reducible refine Kd.C_drew ?_))); (case side4 => exact (Kd.R_reads' HO213.out).2.1); rintro e w' ⟨rfl, ⟨nd, rfl⟩⟩; obtain ⟨Ao31, co31, eo31⟩ := Kd.R_slice HO217.out; subst eo31) | (go_at_call 31; (with_reducible refine (graftbedlaw13_theirs.calls kj2 _ _ t214 t230 _ ?side1 ?side2 A19.out).mono ?_); (all_goals (try clear A19)); (case side1 => repeat (first | exact (Kd.R_reads' HO217.out).2.2 | (with_reducible refine Kd.C_alloc ?_ _) | (with_reducible refine Kd.C_drewN ?_ _) | (with_reducible refine Kd.C_drew ?_))); (case side2 => exact (Kd.R_reads' HO217.out).2.1); rintro e w32 ⟨v231, rfl, ho0, hb⟩; have n0_ := Aside0.mk (Kd.R_below (by (with_reducible repeat (first | apply Kd.R_alloc | apply Kd.R_drewN | apply Kd.R_drew)); exact HO209.out) hb); have n1_ := Aside0.mk (Kd.R_elder' (by (with_reducible repeat (first | apply Kd.R_alloc | apply Kd.R_drewN | apply Kd.R_drew)); exact HO213.out) (Kd.R_base ho0) hb); have n2_ := Aside0.mk (Kd.R_below (by (with_reducible repeat (first | apply Kd.R_alloc | apply Kd.R_drewN | apply Kd.R_drew)); exact HO217.out) hb); have n3_ := Aside0.mk (Kd.R_elder' (by (with_reducible repeat (first | apply Kd.R_alloc | apply Kd.R_drewN | apply Kd.R_drew)); exact HO221.out) (Kd.R_base ho0) hb); have n4_ := Aside0.mk (Kd.R_below (by (with_reducible repeat (first | apply Kd.R_alloc | apply Kd.R_drewN | apply Kd.R_drew)); exact HO225.out) hb); have n5_ := Aside0.mk (Kd.R_elder' (by (with_reducible repeat (first | apply Kd.R_alloc | apply Kd.R_drewN | apply Kd.R_drew)); exact HO228.out) (Kd.R_base ho0) hb); have n6_ := Aside0.mk (Kd.R_lower (Kd.R_new' (Kd.R_new' (Kd.R_new' ho0 (Kd.R_lt (by (with_reducible repeat (first | apply Kd.R_alloc | apply Kd.R_drewN | apply Kd.R_drew)); exact HO213.out))) (Kd.R_lt (by (with_reducible repeat (first | apply Kd.R_alloc | apply Kd.R_drewN | apply Kd.R_drew)); exact HO221.out))) (Kd.R_lt (by (with_reducible repeat (first | apply Kd.R_alloc | apply Kd.R_drewN | apply Kd.R_drew)); exact HO228.out))) (below_size (by repeat (first | (with_reducible first | exact HB.out | apply below_alloc | apply pw_below_drewN | apply below_drew1) | exact HB.out)))); have n7_ := Aside0.mk (below_step (by repeat (first | (with_reducible first | exact HB.out | apply below_alloc | apply pw_below_drewN | apply below_drew1) | exact HB.out)) hb); clear HO209; clear HO213; clear HO217; clear HO221; clear HO225; clear HO228; clear HB; have HO209 := n0_; have HO213 := n1_; have HO217 := n2_; have HO221 := n3_; have HO225 := n4_; have HO228 := n5_; have HO232 := n6_; have HB := n7_; clear n0_ n1_ n2_ n3_ n4_ n5_ n6_ n7_; (try clear hb); (try clear hb2); (try clear hk); (try clear hi); (try clear ho0); obtain ⟨Ao33, co33, eo33⟩ := Kd.R_slice HO232.out; subst eo33; obtain ⟨Ao34, co34, eo34⟩ := Kd.R_slice HO221.out; subst eo34) | (go_at_call 22; (with_reducible refine (graftbedref12_Same.calls kj2 _ _ t230 _ _ t218 true _ ?side1 ?side2 ?side3 ?side4 A20.out).mono ?_); (all_goals (try clear A20)); (case side1 => repeat (first | exact (Kd.R_reads' HO232.out).2.2 | (with_reducible refine Kd.C_alloc ?_ _) | (with_reducible refine Kd.C_drewN ?_ _) | (with_reducible refine Kd.C_drew ?_))); (case side2 => exact (Kd.R_reads' HO232.out).2.1); (case side3 => repeat (first | exact (Kd.R_reads' HO221.out).2.2 | (with_reducible refine Kd.C_alloc ?_ _) | (with_reducible refine Kd.C_drewN ?_ _) | (with_reducible refine Kd.C_drew ?_))); (case side4 => exact (Kd.R_reads' HO221.out).2.1); rintro e w' ⟨rfl, ⟨nd, rfl⟩⟩))
                go_ret
                exact ⟨by first | rfl | (simp [errW_none, errW_some] <;> rfl) | (simp [*, errW_none, errW_some] <;> rfl) | (exfalso; simp only [decide_eq_true_eq, decide_eq_false_iff_not, beq_iff_eq, beq_eq_false_iff_ne] at *; first | contradiction | omega), by repeat (first | (with_reducible first | exact HB.out | apply below_alloc | apply pw_below_drewN | apply below_drew1) | exact HB.out)⟩
              · replace c21 := Bool.eq_false_iff.mpr c21
                subst c21
                have H1 : (some false) = some r := by rw [if_neg (show ¬ (false = true) by decide)] at H; exact H
                clear H
                have H := H1
                clear H1
                exact absurd (Option.some.inj H) (by rw [hr_.out]; decide)
            · replace c18 := Bool.eq_false_iff.mpr c18
              subst c18
              have H1 : (some false) = some r := by rw [if_neg (show ¬ (false = true) by decide)] at H; exact H
              clear H
              have H := H1
              clear H1
              exact absurd (Option.some.inj H) (by rw [hr_.out]; decide)
          · rw [if_neg c15] at H
            have c15b0 : (t215 == t219) = false := beq_eq_false_iff_ne.mpr c15
            have c15b1 : (t215 != t219) = true := bne_iff_ne.mpr c15
            exact absurd (Option.some.inj H) (by rw [hr_.out]; decide)
        · rw [if_neg c14] at H
          have c14b0 : (t207 == t211) = false := beq_eq_false_iff_ne.mpr c14
          have c14b1 : (t207 != t211) = true := bne_iff_ne.mpr c14
          exact absurd (Option.some.inj H) (by rw [hr_.out]; decide)

end Go.Proofs.YtjndccjpjknbkaaDoor.PPl
