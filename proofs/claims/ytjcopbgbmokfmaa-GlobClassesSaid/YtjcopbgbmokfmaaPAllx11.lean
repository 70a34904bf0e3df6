-- by hprint.py (wip/): the kit's print over contracts proved by hand; a text of this session
import Derived.Test.YtjcopbgbmokfmaaPAllx0
import Derived.Test.YtjcopbgbmokfmaaPAllx1
import Derived.Test.YtjcopbgbmokfmaaPAllx9
import Derived.Test.YtjcopbgbmokfmaaPAllx10
namespace Go.Proofs.Ytjcopbgbmokfmaa.PAll
open Go.RowKit Go.Proofs.YtjcopbgbmokfmaaW.PrintWords Go.Proofs.YtjcopbgbmokfmaaW.PrintLast Go.Proofs.YtjcopbgbmokfmaaW.PrintMore
attribute [local go_sem] max2_int min2_int max_two min_two max_three min_three max_four min_four   -- for this text's walks alone
set_option linter.unusedVariables false
set_option linter.unusedSimpArgs false

/-! ### graftbedlaw15_GlobClasses: function 4 -/
def graftbedlaw15_GlobClasses.j0 : Nat → Int → Int → Int → Bool → Int → Bool → Bool → Option (Bool)
  | 0, _, _, _, _, _, _, _ => none
  | k + 1, x0, x1, x2, x10, x11, x12, x66 => if x66 = true then (some false) else (if x11 = 0 then (if x0 ≤ x2 then (if x2 ≤ x1 then (if (x10 == (x2 != 47)) = true then (some (x12 == false)) else (some false)) else (if (x10 == false) = true then (some (x12 == (x2 != 47))) else (some false))) else (if (x10 == false) = true then (some (x12 == (x2 != 47))) else (some false))) else (if x10 = true then (some false) else (if x12 = true then (some false) else ((glob_Plain.f (⟨#[97]⟩ : ByteArray)).bind fun t154 => (some t154)))))
def graftbedlaw15_GlobClasses.f (k : Nat) (a0 : Int) (a1 : Int) (a2 : Int) : Option (Bool) := (some (([a0] : List Int) : List Int)).bind fun y139 => (if 2 + (strOfNums y139).size ≤ 9223372036854775807 then (if ((⟨#[91, 92]⟩ : ByteArray) ++ (strOfNums y139)).size + 2 ≤ 9223372036854775807 then ((some (([a1] : List Int) : List Int)).bind fun y142 => (if (((⟨#[91, 92]⟩ : ByteArray) ++ (strOfNums y139)) ++ (⟨#[45, 92]⟩ : ByteArray)).size + (strOfNums y142).size ≤ 9223372036854775807 then (if ((((⟨#[91, 92]⟩ : ByteArray) ++ (strOfNums y139)) ++ (⟨#[45, 92]⟩ : ByteArray)) ++ (strOfNums y142)).size + 1 ≤ 9223372036854775807 then (if 1 ≤ ((((((⟨#[91, 92]⟩ : ByteArray) ++ (strOfNums y139)) ++ (⟨#[45, 92]⟩ : ByteArray)) ++ (strOfNums y142)) ++ (⟨#[93]⟩ : ByteArray)).size : Int) then (if 2 + ((((((⟨#[91, 92]⟩ : ByteArray) ++ (strOfNums y139)) ++ (⟨#[45, 92]⟩ : ByteArray)) ++ (strOfNums y142)) ++ (⟨#[93]⟩ : ByteArray)).extract 1 (((((⟨#[91, 92]⟩ : ByteArray) ++ (strOfNums y139)) ++ (⟨#[45, 92]⟩ : ByteArray)) ++ (strOfNums y142)) ++ (⟨#[93]⟩ : ByteArray)).size).size ≤ 9223372036854775807 then ((some (([a2] : List Int) : List Int)).bind fun y145 => ((glob_Match.f (((((⟨#[91, 92]⟩ : ByteArray) ++ (strOfNums y139)) ++ (⟨#[45, 92]⟩ : ByteArray)) ++ (strOfNums y142)) ++ (⟨#[93]⟩ : ByteArray)) (strOfNums y145)).bind fun bt148 => ((glob_Match.f ((⟨#[91, 94]⟩ : ByteArray) ++ ((((((⟨#[91, 92]⟩ : ByteArray) ++ (strOfNums y139)) ++ (⟨#[45, 92]⟩ : ByteArray)) ++ (strOfNums y142)) ++ (⟨#[93]⟩ : ByteArray)).extract 1 (((((⟨#[91, 92]⟩ : ByteArray) ++ (strOfNums y139)) ++ (⟨#[45, 92]⟩ : ByteArray)) ++ (strOfNums y142)) ++ (⟨#[93]⟩ : ByteArray)).size)) (strOfNums y145)).bind fun bt150 => ((graftbedref15_Match.f k (((((⟨#[91, 92]⟩ : ByteArray) ++ (strOfNums y139)) ++ (⟨#[45, 92]⟩ : ByteArray)) ++ (strOfNums y142)) ++ (⟨#[93]⟩ : ByteArray)) (strOfNums y145)).bind fun bt152 => (if bt148.2 = bt152.2 then (if ((bt148.2 == 0) != (decide (a0 ≤ a1))) = true then (graftbedlaw15_GlobClasses.j0 k a0 a1 a2 bt148.1 bt148.2 bt150.1 true) else (graftbedlaw15_GlobClasses.j0 k a0 a1 a2 bt148.1 bt148.2 bt150.1 (bt150.2 != bt148.2))) else (graftbedlaw15_GlobClasses.j0 k a0 a1 a2 bt148.1 bt148.2 bt150.1 true)))))) else (none)) else (none)) else (none)) else (none))) else (none)) else (none))
theorem graftbedlaw15_GlobClasses.mono_l : ∀ k, (∀ y0 y1 y2 y3 y4 y5 y6, LeO (graftbedlaw15_GlobClasses.j0 k y0 y1 y2 y3 y4 y5 y6) (graftbedlaw15_GlobClasses.j0 (k + 1) y0 y1 y2 y3 y4 y5 y6))
  | 0 => fun _ _ _ _ _ _ _ r h => by simp [graftbedlaw15_GlobClasses.j0] at h
  | k + 1 => by
    have ih0 := graftbedlaw15_GlobClasses.mono_l k
    · intro y0 y1 y2 y3 y4 y5 y6
      unfold graftbedlaw15_GlobClasses.j0
      repeat' first
      | (with_reducible exact ih0 _ _ _ _ _ _ _)
      | (with_reducible exact graftbedref15_Match.mono _ _ _)
      | (with_reducible exact LeO.refl _)
      | (with_reducible exact LeO.none _)
      | (with_reducible refine LeO.ite ?_ ?_)
      | (with_reducible refine LeO.bind ?_ (fun _ => ?_))
      | exact ih0 _ _ _ _ _ _ _
      | exact graftbedref15_Match.mono _ _ _
      | exact LeO.none _
      | refine LeO.ite ?_ ?_
      | refine LeO.bind ?_ (fun _ => ?_)
theorem graftbedlaw15_GlobClasses.mono : ∀ a0 a1 a2 k, LeO (graftbedlaw15_GlobClasses.f k a0 a1 a2) (graftbedlaw15_GlobClasses.f (k + 1) a0 a1 a2) := by
  intro a0 a1 a2 k
  have ih0 := graftbedlaw15_GlobClasses.mono_l k
  unfold graftbedlaw15_GlobClasses.f
  repeat' first
      | (with_reducible exact ih0 _ _ _ _ _ _ _)
      | (with_reducible exact graftbedref15_Match.mono _ _ _)
      | (with_reducible exact LeO.refl _)
      | (with_reducible exact LeO.none _)
      | (with_reducible refine LeO.ite ?_ ?_)
      | (with_reducible refine LeO.bind ?_ (fun _ => ?_))
      | exact ih0 _ _ _ _ _ _ _
      | exact graftbedref15_Match.mono _ _ _
      | exact LeO.none _
      | refine LeO.ite ?_ ?_
      | refine LeO.bind ?_ (fun _ => ?_)
set_option maxHeartbeats 8000000 in
set_option maxRecDepth 100000 in
theorem graftbedlaw15_GlobClasses.calls (k : Nat) (a0 : Int) (a1 : Int) (a2 : Int) (r : Bool) (w : World) (h : graftbedlaw15_GlobClasses.f k a0 a1 a2 = some r) :
    Calls Try.prog 4 #[.int .u8 a0, .int .u8 a1, .int .u8 a2] w fun e w' => e = .returned (.bool r) ∧ Below w.heap.size w w' := by
  have HB := Aside0.mk (Below.refl w.heap.size w)
  have H : ((some (([a0] : List Int) : List Int)).bind fun y139 => (if 2 + (strOfNums y139).size ≤ 9223372036854775807 then (if ((⟨#[91, 92]⟩ : ByteArray) ++ (strOfNums y139)).size + 2 ≤ 9223372036854775807 then ((some (([a1] : List Int) : List Int)).bind fun y142 => (if (((⟨#[91, 92]⟩ : ByteArray) ++ (strOfNums y139)) ++ (⟨#[45, 92]⟩ : ByteArray)).size + (strOfNums y142).size ≤ 9223372036854775807 then (if ((((⟨#[91, 92]⟩ : ByteArray) ++ (strOfNums y139)) ++ (⟨#[45, 92]⟩ : ByteArray)) ++ (strOfNums y142)).size + 1 ≤ 9223372036854775807 then (if 1 ≤ ((((((⟨#[91, 92]⟩ : ByteArray) ++ (strOfNums y139)) ++ (⟨#[45, 92]⟩ : ByteArray)) ++ (strOfNums y142)) ++ (⟨#[93]⟩ : ByteArray)).size : Int) then (if 2 + ((((((⟨#[91, 92]⟩ : ByteArray) ++ (strOfNums y139)) ++ (⟨#[45, 92]⟩ : ByteArray)) ++ (strOfNums y142)) ++ (⟨#[93]⟩ : ByteArray)).extract 1 (((((⟨#[91, 92]⟩ : ByteArray) ++ (strOfNums y139)) ++ (⟨#[45, 92]⟩ : ByteArray)) ++ (strOfNums y142)) ++ (⟨#[93]⟩ : ByteArray)).size).size ≤ 9223372036854775807 then ((some (([a2] : List Int) : List Int)).bind fun y145 => ((glob_Match.f (((((⟨#[91, 92]⟩ : ByteArray) ++ (strOfNums y139)) ++ (⟨#[45, 92]⟩ : ByteArray)) ++ (strOfNums y142)) ++ (⟨#[93]⟩ : ByteArray)) (strOfNums y145)).bind fun bt148 => ((glob_Match.f ((⟨#[91, 94]⟩ : ByteArray) ++ ((((((⟨#[91, 92]⟩ : ByteArray) ++ (strOfNums y139)) ++ (⟨#[45, 92]⟩ : ByteArray)) ++ (strOfNums y142)) ++ (⟨#[93]⟩ : ByteArray)).extract 1 (((((⟨#[91, 92]⟩ : ByteArray) ++ (strOfNums y139)) ++ (⟨#[45, 92]⟩ : ByteArray)) ++ (strOfNums y142)) ++ (⟨#[93]⟩ : ByteArray)).size)) (strOfNums y145)).bind fun bt150 => ((graftbedref15_Match.f k (((((⟨#[91, 92]⟩ : ByteArray) ++ (strOfNums y139)) ++ (⟨#[45, 92]⟩ : ByteArray)) ++ (strOfNums y142)) ++ (⟨#[93]⟩ : ByteArray)) (strOfNums y145)).bind fun bt152 => (if bt148.2 = bt152.2 then (if ((bt148.2 == 0) != (decide (a0 ≤ a1))) = true then (graftbedlaw15_GlobClasses.j0 k a0 a1 a2 bt148.1 bt148.2 bt150.1 true) else (graftbedlaw15_GlobClasses.j0 k a0 a1 a2 bt148.1 bt148.2 bt150.1 (bt150.2 != bt148.2))) else (graftbedlaw15_GlobClasses.j0 k a0 a1 a2 bt148.1 bt148.2 bt150.1 true)))))) else (none)) else (none)) else (none)) else (none))) else (none)) else (none))) = some r := h
  clear h
  obtain ⟨y139, hy139⟩ : ∃ y_ : List Int, y_ = (([a0] : List Int)) := ⟨_, rfl⟩
  replace H : (if 2 + (strOfNums y139).size ≤ 9223372036854775807 then (if ((⟨#[91, 92]⟩ : ByteArray) ++ (strOfNums y139)).size + 2 ≤ 9223372036854775807 then ((some (([a1] : List Int) : List Int)).bind fun y142 => (if (((⟨#[91, 92]⟩ : ByteArray) ++ (strOfNums y139)) ++ (⟨#[45, 92]⟩ : ByteArray)).size + (strOfNums y142).size ≤ 9223372036854775807 then (if ((((⟨#[91, 92]⟩ : ByteArray) ++ (strOfNums y139)) ++ (⟨#[45, 92]⟩ : ByteArray)) ++ (strOfNums y142)).size + 1 ≤ 9223372036854775807 then (if 1 ≤ ((((((⟨#[91, 92]⟩ : ByteArray) ++ (strOfNums y139)) ++ (⟨#[45, 92]⟩ : ByteArray)) ++ (strOfNums y142)) ++ (⟨#[93]⟩ : ByteArray)).size : Int) then (if 2 + ((((((⟨#[91, 92]⟩ : ByteArray) ++ (strOfNums y139)) ++ (⟨#[45, 92]⟩ : ByteArray)) ++ (strOfNums y142)) ++ (⟨#[93]⟩ : ByteArray)).extract 1 (((((⟨#[91, 92]⟩ : ByteArray) ++ (strOfNums y139)) ++ (⟨#[45, 92]⟩ : ByteArray)) ++ (strOfNums y142)) ++ (⟨#[93]⟩ : ByteArray)).size).size ≤ 9223372036854775807 then ((some (([a2] : List Int) : List Int)).bind fun y145 => ((glob_Match.f (((((⟨#[91, 92]⟩ : ByteArray) ++ (strOfNums y139)) ++ (⟨#[45, 92]⟩ : ByteArray)) ++ (strOfNums y142)) ++ (⟨#[93]⟩ : ByteArray)) (strOfNums y145)).bind fun bt148 => ((glob_Match.f ((⟨#[91, 94]⟩ : ByteArray) ++ ((((((⟨#[91, 92]⟩ : ByteArray) ++ (strOfNums y139)) ++ (⟨#[45, 92]⟩ : ByteArray)) ++ (strOfNums y142)) ++ (⟨#[93]⟩ : ByteArray)).extract 1 (((((⟨#[91, 92]⟩ : ByteArray) ++ (strOfNums y139)) ++ (⟨#[45, 92]⟩ : ByteArray)) ++ (strOfNums y142)) ++ (⟨#[93]⟩ : ByteArray)).size)) (strOfNums y145)).bind fun bt150 => ((graftbedref15_Match.f k (((((⟨#[91, 92]⟩ : ByteArray) ++ (strOfNums y139)) ++ (⟨#[45, 92]⟩ : ByteArray)) ++ (strOfNums y142)) ++ (⟨#[93]⟩ : ByteArray)) (strOfNums y145)).bind fun bt152 => (if bt148.2 = bt152.2 then (if ((bt148.2 == 0) != (decide (a0 ≤ a1))) = true then (graftbedlaw15_GlobClasses.j0 k a0 a1 a2 bt148.1 bt148.2 bt150.1 true) else (graftbedlaw15_GlobClasses.j0 k a0 a1 a2 bt148.1 bt148.2 bt150.1 (bt150.2 != bt148.2))) else (graftbedlaw15_GlobClasses.j0 k a0 a1 a2 bt148.1 bt148.2 bt150.1 true)))))) else (none)) else (none)) else (none)) else (none))) else (none)) else (none)) = some r := by first | (rw [hy139]; with_reducible exact H) | (have H2_ := (Option.bind_some _ _).symm.trans H; rw [hy139]; with_reducible exact H2_) | (have H2_ := (Option.bind_some _ _).symm.trans H; with_reducible exact H2_) | with_reducible exact H | (rw [hy139]; exact H) | exact H
  have Ny139 := Aside0.mk hy139
  clear hy139
  by_cases c4 : 2 + (strOfNums y139).size ≤ 9223372036854775807
  · rw [if_pos c4] at H
    have c4b0 := eq_true c4
    have c4b1 : decide (2 + (strOfNums y139).size ≤ 9223372036854775807) = true := decide_eq_true c4
    try have c4b2 : (9223372036854775807 < 2 + (strOfNums y139).size) = False := eq_false (Nat.not_lt.2 c4)
    have c4b7 := c4
    try simp only [ByteArray.size_append, StrMore.size_lit, List.length_cons, List.length_nil, Nat.zero_add, Nat.reduceAdd] at c4b7
    have c4b8 := eq_false (Nat.not_lt.2 c4b7)
    by_cases c5 : ((⟨#[91, 92]⟩ : ByteArray) ++ (strOfNums y139)).size + 2 ≤ 9223372036854775807
    · rw [if_pos c5] at H
      have c5b0 := eq_true c5
      have c5b1 : decide (((⟨#[91, 92]⟩ : ByteArray) ++ (strOfNums y139)).size + 2 ≤ 9223372036854775807) = true := decide_eq_true c5
      try have c5b2 : (9223372036854775807 < ((⟨#[91, 92]⟩ : ByteArray) ++ (strOfNums y139)).size + 2) = False := eq_false (Nat.not_lt.2 c5)
      have c5b7 := c5
      try simp only [ByteArray.size_append, StrMore.size_lit, List.length_cons, List.length_nil, Nat.zero_add, Nat.reduceAdd] at c5b7
      have c5b8 := eq_false (Nat.not_lt.2 c5b7)
      obtain ⟨y142, hy142⟩ : ∃ y_ : List Int, y_ = (([a1] : List Int)) := ⟨_, rfl⟩
      replace H : (if (((⟨#[91, 92]⟩ : ByteArray) ++ (strOfNums y139)) ++ (⟨#[45, 92]⟩ : ByteArray)).size + (strOfNums y142).size ≤ 9223372036854775807 then (if ((((⟨#[91, 92]⟩ : ByteArray) ++ (strOfNums y139)) ++ (⟨#[45, 92]⟩ : ByteArray)) ++ (strOfNums y142)).size + 1 ≤ 9223372036854775807 then (if 1 ≤ ((((((⟨#[91, 92]⟩ : ByteArray) ++ (strOfNums y139)) ++ (⟨#[45, 92]⟩ : ByteArray)) ++ (strOfNums y142)) ++ (⟨#[93]⟩ : ByteArray)).size : Int) then (if 2 + ((((((⟨#[91, 92]⟩ : ByteArray) ++ (strOfNums y139)) ++ (⟨#[45, 92]⟩ : ByteArray)) ++ (strOfNums y142)) ++ (⟨#[93]⟩ : ByteArray)).extract 1 (((((⟨#[91, 92]⟩ : ByteArray) ++ (strOfNums y139)) ++ (⟨#[45, 92]⟩ : ByteArray)) ++ (strOfNums y142)) ++ (⟨#[93]⟩ : ByteArray)).size).size ≤ 9223372036854775807 then ((some (([a2] : List Int) : List Int)).bind fun y145 => ((glob_Match.f (((((⟨#[91, 92]⟩ : ByteArray) ++ (strOfNums y139)) ++ (⟨#[45, 92]⟩ : ByteArray)) ++ (strOfNums y142)) ++ (⟨#[93]⟩ : ByteArray)) (strOfNums y145)).bind fun bt148 => ((glob_Match.f ((⟨#[91, 94]⟩ : ByteArray) ++ ((((((⟨#[91, 92]⟩ : ByteArray) ++ (strOfNums y139)) ++ (⟨#[45, 92]⟩ : ByteArray)) ++ (strOfNums y142)) ++ (⟨#[93]⟩ : ByteArray)).extract 1 (((((⟨#[91, 92]⟩ : ByteArray) ++ (strOfNums y139)) ++ (⟨#[45, 92]⟩ : ByteArray)) ++ (strOfNums y142)) ++ (⟨#[93]⟩ : ByteArray)).size)) (strOfNums y145)).bind fun bt150 => ((graftbedref15_Match.f k (((((⟨#[91, 92]⟩ : ByteArray) ++ (strOfNums y139)) ++ (⟨#[45, 92]⟩ : ByteArray)) ++ (strOfNums y142)) ++ (⟨#[93]⟩ : ByteArray)) (strOfNums y145)).bind fun bt152 => (if bt148.2 = bt152.2 then (if ((bt148.2 == 0) != (decide (a0 ≤ a1))) = true then (graftbedlaw15_GlobClasses.j0 k a0 a1 a2 bt148.1 bt148.2 bt150.1 true) else (graftbedlaw15_GlobClasses.j0 k a0 a1 a2 bt148.1 bt148.2 bt150.1 (bt150.2 != bt148.2))) else (graftbedlaw15_GlobClasses.j0 k a0 a1 a2 bt148.1 bt148.2 bt150.1 true)))))) else (none)) else (none)) else (none)) else (none)) = some r := by first | (rw [hy142]; with_reducible exact H) | (have H2_ := (Option.bind_some _ _).symm.trans H; rw [hy142]; with_reducible exact H2_) | (have H2_ := (Option.bind_some _ _).symm.trans H; with_reducible exact H2_) | with_reducible exact H | (rw [hy142]; exact H) | exact H
      have Ny142 := Aside0.mk hy142
      clear hy142
      by_cases c6 : (((⟨#[91, 92]⟩ : ByteArray) ++ (strOfNums y139)) ++ (⟨#[45, 92]⟩ : ByteArray)).size + (strOfNums y142).size ≤ 9223372036854775807
      · rw [if_pos c6] at H
        have c6b0 := eq_true c6
        have c6b1 : decide ((((⟨#[91, 92]⟩ : ByteArray) ++ (strOfNums y139)) ++ (⟨#[45, 92]⟩ : ByteArray)).size + (strOfNums y142).size ≤ 9223372036854775807) = true := decide_eq_true c6
        try have c6b2 : (9223372036854775807 < (((⟨#[91, 92]⟩ : ByteArray) ++ (strOfNums y139)) ++ (⟨#[45, 92]⟩ : ByteArray)).size + (strOfNums y142).size) = False := eq_false (Nat.not_lt.2 c6)
        have c6b7 := c6
        try simp only [ByteArray.size_append, StrMore.size_lit, List.length_cons, List.length_nil, Nat.zero_add, Nat.reduceAdd] at c6b7
        have c6b8 := eq_false (Nat.not_lt.2 c6b7)
        by_cases c7 : ((((⟨#[91, 92]⟩ : ByteArray) ++ (strOfNums y139)) ++ (⟨#[45, 92]⟩ : ByteArray)) ++ (strOfNums y142)).size + 1 ≤ 9223372036854775807
        · rw [if_pos c7] at H
          have c7b0 := eq_true c7
          have c7b1 : decide (((((⟨#[91, 92]⟩ : ByteArray) ++ (strOfNums y139)) ++ (⟨#[45, 92]⟩ : ByteArray)) ++ (strOfNums y142)).size + 1 ≤ 9223372036854775807) = true := decide_eq_true c7
          try have c7b2 : (9223372036854775807 < ((((⟨#[91, 92]⟩ : ByteArray) ++ (strOfNums y139)) ++ (⟨#[45, 92]⟩ : ByteArray)) ++ (strOfNums y142)).size + 1) = False := eq_false (Nat.not_lt.2 c7)
          have c7b7 := c7
          try simp only [ByteArray.size_append, StrMore.size_lit, List.length_cons, List.length_nil, Nat.zero_add, Nat.reduceAdd] at c7b7
          have c7b8 := eq_false (Nat.not_lt.2 c7b7)
          by_cases c8 : 1 ≤ ((((((⟨#[91, 92]⟩ : ByteArray) ++ (strOfNums y139)) ++ (⟨#[45, 92]⟩ : ByteArray)) ++ (strOfNums y142)) ++ (⟨#[93]⟩ : ByteArray)).size : Int)
          · rw [if_pos c8] at H
            have c8b0 := eq_true c8
            have c8b1 : decide (1 ≤ ((((((⟨#[91, 92]⟩ : ByteArray) ++ (strOfNums y139)) ++ (⟨#[45, 92]⟩ : ByteArray)) ++ (strOfNums y142)) ++ (⟨#[93]⟩ : ByteArray)).size : Int)) = true := decide_eq_true c8
            by_cases c9 : 2 + ((((((⟨#[91, 92]⟩ : ByteArray) ++ (strOfNums y139)) ++ (⟨#[45, 92]⟩ : ByteArray)) ++ (strOfNums y142)) ++ (⟨#[93]⟩ : ByteArray)).extract 1 (((((⟨#[91, 92]⟩ : ByteArray) ++ (strOfNums y139)) ++ (⟨#[45, 92]⟩ : ByteArray)) ++ (strOfNums y142)) ++ (⟨#[93]⟩ : ByteArray)).size).size ≤ 9223372036854775807
            · rw [if_pos c9] at H
              have c9b0 := eq_true c9
              have c9b1 : decide (2 + ((((((⟨#[91, 92]⟩ : ByteArray) ++ (strOfNums y139)) ++ (⟨#[45, 92]⟩ : ByteArray)) ++ (strOfNums y142)) ++ (⟨#[93]⟩ : ByteArray)).extract 1 (((((⟨#[91, 92]⟩ : ByteArray) ++ (strOfNums y139)) ++ (⟨#[45, 92]⟩ : ByteArray)) ++ (strOfNums y142)) ++ (⟨#[93]⟩ : ByteArray)).size).size ≤ 9223372036854775807) = true := decide_eq_true c9
              try have c9b2 : (9223372036854775807 < 2 + ((((((⟨#[91, 92]⟩ : ByteArray) ++ (strOfNums y139)) ++ (⟨#[45, 92]⟩ : ByteArray)) ++ (strOfNums y142)) ++ (⟨#[93]⟩ : ByteArray)).extract 1 (((((⟨#[91, 92]⟩ : ByteArray) ++ (strOfNums y139)) ++ (⟨#[45, 92]⟩ : ByteArray)) ++ (strOfNums y142)) ++ (⟨#[93]⟩ : ByteArray)).size).size) = False := eq_false (Nat.not_lt.2 c9)
              have c9b7 := c9
              try simp only [ByteArray.size_append, StrMore.size_lit, List.length_cons, List.length_nil, Nat.zero_add, Nat.reduceAdd] at c9b7
              have c9b8 := eq_false (Nat.not_lt.2 c9b7)
              have c9b6 := c9b7
              try simp only [ByteArray.size_extract, ByteArray.size_append, StrMore.size_lit, List.length_cons, List.length_nil, Nat.zero_add, Nat.reduceAdd, Nat.min_self, Nat.add_sub_cancel] at c9b6
              have c9b4 := eq_false (Nat.not_lt.2 c9b6)
              obtain ⟨y145, hy145⟩ : ∃ y_ : List Int, y_ = (([a2] : List Int)) := ⟨_, rfl⟩
              replace H : ((glob_Match.f (((((⟨#[91, 92]⟩ : ByteArray) ++ (strOfNums y139)) ++ (⟨#[45, 92]⟩ : ByteArray)) ++ (strOfNums y142)) ++ (⟨#[93]⟩ : ByteArray)) (strOfNums y145)).bind fun bt148 => ((glob_Match.f ((⟨#[91, 94]⟩ : ByteArray) ++ ((((((⟨#[91, 92]⟩ : ByteArray) ++ (strOfNums y139)) ++ (⟨#[45, 92]⟩ : ByteArray)) ++ (strOfNums y142)) ++ (⟨#[93]⟩ : ByteArray)).extract 1 (((((⟨#[91, 92]⟩ : ByteArray) ++ (strOfNums y139)) ++ (⟨#[45, 92]⟩ : ByteArray)) ++ (strOfNums y142)) ++ (⟨#[93]⟩ : ByteArray)).size)) (strOfNums y145)).bind fun bt150 => ((graftbedref15_Match.f k (((((⟨#[91, 92]⟩ : ByteArray) ++ (strOfNums y139)) ++ (⟨#[45, 92]⟩ : ByteArray)) ++ (strOfNums y142)) ++ (⟨#[93]⟩ : ByteArray)) (strOfNums y145)).bind fun bt152 => (if bt148.2 = bt152.2 then (if ((bt148.2 == 0) != (decide (a0 ≤ a1))) = true then (graftbedlaw15_GlobClasses.j0 k a0 a1 a2 bt148.1 bt148.2 bt150.1 true) else (graftbedlaw15_GlobClasses.j0 k a0 a1 a2 bt148.1 bt148.2 bt150.1 (bt150.2 != bt148.2))) else (graftbedlaw15_GlobClasses.j0 k a0 a1 a2 bt148.1 bt148.2 bt150.1 true))))) = some r := by first | (rw [hy145]; with_reducible exact H) | (have H2_ := (Option.bind_some _ _).symm.trans H; rw [hy145]; with_reducible exact H2_) | (have H2_ := (Option.bind_some _ _).symm.trans H; with_reducible exact H2_) | with_reducible exact H | (rw [hy145]; exact H) | exact H
              have Ny145 := Aside0.mk hy145
              clear hy145
              replace H := Option.bind_eq_some_iff.mp H
              obtain ⟨⟨t148, t149⟩, A100, H⟩ := H
              replace H : ((glob_Match.f ((⟨#[91, 94]⟩ : ByteArray) ++ ((((((⟨#[91, 92]⟩ : ByteArray) ++ (strOfNums y139)) ++ (⟨#[45, 92]⟩ : ByteArray)) ++ (strOfNums y142)) ++ (⟨#[93]⟩ : ByteArray)).extract 1 (((((⟨#[91, 92]⟩ : ByteArray) ++ (strOfNums y139)) ++ (⟨#[45, 92]⟩ : ByteArray)) ++ (strOfNums y142)) ++ (⟨#[93]⟩ : ByteArray)).size)) (strOfNums y145)).bind fun bt150 => ((graftbedref15_Match.f k (((((⟨#[91, 92]⟩ : ByteArray) ++ (strOfNums y139)) ++ (⟨#[45, 92]⟩ : ByteArray)) ++ (strOfNums y142)) ++ (⟨#[93]⟩ : ByteArray)) (strOfNums y145)).bind fun bt152 => (if t149 = bt152.2 then (if ((t149 == 0) != (decide (a0 ≤ a1))) = true then (graftbedlaw15_GlobClasses.j0 k a0 a1 a2 t148 t149 bt150.1 true) else (graftbedlaw15_GlobClasses.j0 k a0 a1 a2 t148 t149 bt150.1 (bt150.2 != t149))) else (graftbedlaw15_GlobClasses.j0 k a0 a1 a2 t148 t149 bt150.1 true)))) = some r := H
              have A10 := Aside0.mk A100
              clear A100
              replace H := Option.bind_eq_some_iff.mp H
              obtain ⟨⟨t150, t151⟩, A110, H⟩ := H
              replace H : ((graftbedref15_Match.f k (((((⟨#[91, 92]⟩ : ByteArray) ++ (strOfNums y139)) ++ (⟨#[45, 92]⟩ : ByteArray)) ++ (strOfNums y142)) ++ (⟨#[93]⟩ : ByteArray)) (strOfNums y145)).bind fun bt152 => (if t149 = bt152.2 then (if ((t149 == 0) != (decide (a0 ≤ a1))) = true then (graftbedlaw15_GlobClasses.j0 k a0 a1 a2 t148 t149 t150 true) else (graftbedlaw15_GlobClasses.j0 k a0 a1 a2 t148 t149 t150 (t151 != t149))) else (graftbedlaw15_GlobClasses.j0 k a0 a1 a2 t148 t149 t150 true))) = some r := H
              have A11 := Aside0.mk A110
              clear A110
              replace H := Option.bind_eq_some_iff.mp H
              obtain ⟨⟨t152, t153⟩, A120, H⟩ := H
              replace H : (if t149 = t153 then (if ((t149 == 0) != (decide (a0 ≤ a1))) = true then (graftbedlaw15_GlobClasses.j0 k a0 a1 a2 t148 t149 t150 true) else (graftbedlaw15_GlobClasses.j0 k a0 a1 a2 t148 t149 t150 (t151 != t149))) else (graftbedlaw15_GlobClasses.j0 k a0 a1 a2 t148 t149 t150 true)) = some r := H
              have A12 := Aside0.mk A120
              clear A120
              have HC13 := Aside0.mk H
              clear H
              go_enter Try.func4, Try.ntmps4
              go_upto_region 7 with (first | ((with_reducible refine gate_dst (N := 18) rfl ?_); refine Kd.R_lit (Kd.int .u8) _ 5 ?hg (N := 18) ?hd (xs := ([a0] : List Int)) (inner := [.int .u8 a0]) (ok := fun _ => True) (okp := fun _ => True) ?hr ?hp (fun _ hk => hk) trivial (Below.refl _ _) (Nat.le_refl _) (by simp) ?_; (case hd => rfl); (case hg => rfl); (case hr => first | (go_simp; done) | (go_simp; rfl)); (case hp => exact (Reps.one (show Kd.M (Kd.int .u8) _ _ _ a0 [.int .u8 a0] from rfl) (Reps.none _ _))); intro v140 w14 ho15 hb hg_ hnew_; clear hg_ hnew_; (first | rw [← Ny139.out] at ho15 | (simp only [Int.reduceToNat] at ho15; rw [← Ny139.out] at ho15)); have n0_ := Aside0.mk (Kd.R_lower ho15 (below_size (by repeat (first | (with_reducible first | exact HB.out | apply below_alloc | apply pw_below_drewN | apply below_drew1) | exact HB.out)))); have n1_ := Aside0.mk (below_step (by repeat (first | (with_reducible first | exact HB.out | apply below_alloc | apply pw_below_drewN | apply below_drew1) | exact HB.out)) hb); clear HB; have HO141 := n0_; have HB := n1_; clear n0_ n1_; clear hb ho15; have hcv16 := own_string (P := Try.prog) Try.underlying26 Try.underlying5 Try.underlying9 (Kd.own_of_R HO141.out)) | ((with_reducible refine gate_dst (N := 23) rfl ?_); refine Kd.R_lit (Kd.int .u8) _ 5 ?hg (N := 23) ?hd (xs := ([a1] : List Int)) (inner := [.int .u8 a1]) (ok := fun _ => True) (okp := fun _ => True) ?hr ?hp (fun _ hk => hk) trivial (Below.refl _ _) (Nat.le_refl _) (by simp) ?_; (case hd => rfl); (case hg => rfl); (case hr => first | (go_simp; done) | (go_simp; rfl)); (case hp => exact (Reps.one (show Kd.M (Kd.int .u8) _ _ _ a1 [.int .u8 a1] from rfl) (Reps.none _ _))); intro v143 w17 ho18 hb hg_ hnew_; clear hg_ hnew_; (first | rw [← Ny142.out] at ho18 | (simp only [Int.reduceToNat] at ho18; rw [← Ny142.out] at ho18)); have n0_ := Aside0.mk (Kd.R_elder' (by (with_reducible repeat (first | apply Kd.R_alloc | apply Kd.R_drewN | apply Kd.R_drew)); exact HO141.out) (Kd.R_base ho18) hb); have n1_ := Aside0.mk (Kd.R_lower (Kd.R_new' ho18 (Kd.R_lt (by (with_reducible repeat (first | apply Kd.R_alloc | apply Kd.R_drewN | apply Kd.R_drew)); exact HO141.out))) (below_size (by repeat (first | (with_reducible first | exact HB.out | apply below_alloc | apply pw_below_drewN | apply below_drew1) | exact HB.out)))); have n2_ := Aside0.mk (below_step (by repeat (first | (with_reducible first | exact HB.out | apply below_alloc | apply pw_below_drewN | apply below_drew1) | exact HB.out)) hb); clear HO141; clear HB; have HO141 := n0_; have HO144 := n1_; have HB := n2_; clear n0_ n1_ n2_; clear hb ho18; have hcv19 := own_string (P := Try.prog) Try.underlying26 Try.underlying5 Try.underlying9 (Kd.own_of_R HO144.out)) | ((with_reducible refine gate_dst (N := 31) rfl ?_); refine Kd.R_lit (Kd.int .u8) _ 5 ?hg (N := 31) ?hd (xs := ([a2] : List Int)) (inner := [.int .u8 a2]) (ok := fun _ => True) (okp := fun _ => True) ?hr ?hp (fun _ hk => hk) trivial (Below.refl _ _) (Nat.le_refl _) (by simp) ?_; (case hd => rfl); (case hg => rfl); (case hr => first | (go_simp; done) | (go_simp; rfl)); (case hp => exact (Reps.one (show Kd.M (Kd.int .u8) _ _ _ a2 [.int .u8 a2] from rfl) (Reps.none _ _))); intro v146 w20 ho21 hb hg_ hnew_; clear hg_ hnew_; (first | rw [← Ny145.out] at ho21 | (simp only [Int.reduceToNat] at ho21; rw [← Ny145.out] at ho21)); have n0_ := Aside0.mk (Kd.R_elder' (by (with_reducible repeat (first | apply Kd.R_alloc | apply Kd.R_drewN | apply Kd.R_drew)); exact HO141.out) (Kd.R_base ho21) hb); have n1_ := Aside0.mk (Kd.R_elder' (by (with_reducible repeat (first | apply Kd.R_alloc | apply Kd.R_drewN | apply Kd.R_drew)); exact HO144.out) (Kd.R_base ho21) hb); have n2_ := Aside0.mk (Kd.R_lower (Kd.R_new' (Kd.R_new' ho21 (Kd.R_lt (by (with_reducible repeat (first | apply Kd.R_alloc | apply Kd.R_drewN | apply Kd.R_drew)); exact HO141.out))) (Kd.R_lt (by (with_reducible repeat (first | apply Kd.R_alloc | apply Kd.R_drewN | apply Kd.R_drew)); exact HO144.out))) (below_size (by repeat (first | (with_reducible first | exact HB.out | apply below_alloc | apply pw_below_drewN | apply below_drew1) | exact HB.out)))); have n3_ := Aside0.mk (below_step (by repeat (first | (with_reducible first | exact HB.out | apply below_alloc | apply pw_below_drewN | apply below_drew1) | exact HB.out)) hb); clear HO141; clear HO144; clear HB; have HO141 := n0_; have HO144 := n1_; have HO147 := n2_; have HB := n3_; clear n0_ n1_ n2_ n3_; clear hb ho21; have hcv22 := own_string (P := Try.prog) Try.underlying26 Try.underlying5 Try.underlying9 (Kd.own_of_R HO147.out)) | ((with_reducible refine gate_callee (f := 8) rfl ?_); refine goesL_ (some 36) rfl rfl Try.func8 (by kernel_rfl) rfl #[.string (((((⟨#[91, 92]⟩ : ByteArray) ++ (strOfNums y139)) ++ (⟨#[45, 92]⟩ : ByteArray)) ++ (strOfNums y142)) ++ (⟨#[93]⟩ : ByteArray)), .string (strOfNums y145)] rfl (by (try simp only [List.map_toArray, List.map_cons, List.map_nil]); first | done | rfl | (simp only [List.length_drop, List.length_take]; rfl) | (simp only [ByteArray.size_extract, Nat.min_self]; done) | (simp only [ByteArray.size_append, StrMore.size_lit, List.length_cons, List.length_nil, Nat.zero_add, Nat.reduceAdd] <;> rfl)) ?_; (with_reducible refine (glob_Match.calls (((((⟨#[91, 92]⟩ : ByteArray) ++ (strOfNums y139)) ++ (⟨#[45, 92]⟩ : ByteArray)) ++ (strOfNums y142)) ++ (⟨#[93]⟩ : ByteArray)) (strOfNums y145) t148 t149 _ A10.out).mono ?_); rintro e w23 ⟨rfl, hb⟩; refine ⟨_, rfl, ?_⟩; have n0_ := Aside0.mk (Kd.R_below (by (with_reducible repeat (first | apply Kd.R_alloc | apply Kd.R_drewN | apply Kd.R_drew)); exact HO141.out) hb); have n1_ := Aside0.mk (Kd.R_below (by (with_reducible repeat (first | apply Kd.R_alloc | apply Kd.R_drewN | apply Kd.R_drew)); exact HO144.out) hb); have n2_ := Aside0.mk (Kd.R_below (by (with_reducible repeat (first | apply Kd.R_alloc | apply Kd.R_drewN | apply Kd.R_drew)); exact HO147.out) hb); have n3_ := Aside0.mk (below_step (by repeat (first | (with_reducible first | exact HB.out | apply below_alloc | apply pw_below_drewN | apply below_drew1) | exact HB.out)) hb); clear HO141; clear HO144; clear HO147; clear HB; have HO141 := n0_; have HO144 := n1_; have HO147 := n2_; have HB := n3_; clear n0_ n1_ n2_ n3_; (try clear hb); (try clear hb2); (try clear hk); (try clear hi)) | ((with_reducible refine gate_callee (f := 8) rfl ?_); refine goesL_ (some 42) rfl rfl Try.func8 (by kernel_rfl) rfl #[.string ((⟨#[91, 94]⟩ : ByteArray) ++ ((((((⟨#[91, 92]⟩ : ByteArray) ++ (strOfNums y139)) ++ (⟨#[45, 92]⟩ : ByteArray)) ++ (strOfNums y142)) ++ (⟨#[93]⟩ : ByteArray)).extract 1 (((((⟨#[91, 92]⟩ : ByteArray) ++ (strOfNums y139)) ++ (⟨#[45, 92]⟩ : ByteArray)) ++ (strOfNums y142)) ++ (⟨#[93]⟩ : ByteArray)).size)), .string (strOfNums y145)] rfl (by (try simp only [List.map_toArray, List.map_cons, List.map_nil]); first | done | rfl | (simp only [List.length_drop, List.length_take]; rfl) | (simp only [ByteArray.size_extract, Nat.min_self]; done) | (simp only [ByteArray.size_append, StrMore.size_lit, List.length_cons, List.length_nil, Nat.zero_add, Nat.reduceAdd] <;> rfl)) ?_; (with_reducible refine (glob_Match.calls ((⟨#[91, 94]⟩ : ByteArray) ++ ((((((⟨#[91, 92]⟩ : ByteArray) ++ (strOfNums y139)) ++ (⟨#[45, 92]⟩ : ByteArray)) ++ (strOfNums y142)) ++ (⟨#[93]⟩ : ByteArray)).extract 1 (((((⟨#[91, 92]⟩ : ByteArray) ++ (strOfNums y139)) ++ (⟨#[45, 92]⟩ : ByteArray)) ++ (strOfNums y142)) ++ (⟨#[93]⟩ : ByteArray)).size)) (strOfNums y145) t150 t151 _ A11.out).mono ?_); rintro e w24 ⟨rfl, hb⟩; refine ⟨_, rfl, ?_⟩; have n0_ := Aside0.mk (Kd.R_below (by (with_reducible repeat (first | apply Kd.R_alloc | apply Kd.R_drewN | apply Kd.R_drew)); exact HO141.out) hb); have n1_ := Aside0.mk (Kd.R_below (by (with_reducible repeat (first | apply Kd.R_alloc | apply Kd.R_drewN | apply Kd.R_drew)); exact HO144.out) hb); have n2_ := Aside0.mk (Kd.R_below (by (with_reducible repeat (first | apply Kd.R_alloc | apply Kd.R_drewN | apply Kd.R_drew)); exact HO147.out) hb); have n3_ := Aside0.mk (below_step (by repeat (first | (with_reducible first | exact HB.out | apply below_alloc | apply pw_below_drewN | apply below_drew1) | exact HB.out)) hb); clear HO141; clear HO144; clear HO147; clear HB; have HO141 := n0_; have HO144 := n1_; have HO147 := n2_; have HB := n3_; clear n0_ n1_ n2_ n3_; (try clear hb); (try clear hb2); (try clear hk); (try clear hi)) | ((with_reducible refine gate_callee (f := 9) rfl ?_); refine goesL_ (some 48) rfl rfl Try.func9 (by kernel_rfl) rfl #[.string (((((⟨#[91, 92]⟩ : ByteArray) ++ (strOfNums y139)) ++ (⟨#[45, 92]⟩ : ByteArray)) ++ (strOfNums y142)) ++ (⟨#[93]⟩ : ByteArray)), .string (strOfNums y145)] rfl (by (try simp only [List.map_toArray, List.map_cons, List.map_nil]); first | done | rfl | (simp only [List.length_drop, List.length_take]; rfl) | (simp only [ByteArray.size_extract, Nat.min_self]; done) | (simp only [ByteArray.size_append, StrMore.size_lit, List.length_cons, List.length_nil, Nat.zero_add, Nat.reduceAdd] <;> rfl)) ?_; (with_reducible refine (graftbedref15_Match.calls k (((((⟨#[91, 92]⟩ : ByteArray) ++ (strOfNums y139)) ++ (⟨#[45, 92]⟩ : ByteArray)) ++ (strOfNums y142)) ++ (⟨#[93]⟩ : ByteArray)) (strOfNums y145) t152 t153 _ A12.out).mono ?_); rintro e w25 ⟨rfl, hb⟩; refine ⟨_, rfl, ?_⟩; have n0_ := Aside0.mk (Kd.R_below (by (with_reducible repeat (first | apply Kd.R_alloc | apply Kd.R_drewN | apply Kd.R_drew)); exact HO141.out) hb); have n1_ := Aside0.mk (Kd.R_below (by (with_reducible repeat (first | apply Kd.R_alloc | apply Kd.R_drewN | apply Kd.R_drew)); exact HO144.out) hb); have n2_ := Aside0.mk (Kd.R_below (by (with_reducible repeat (first | apply Kd.R_alloc | apply Kd.R_drewN | apply Kd.R_drew)); exact HO147.out) hb); have n3_ := Aside0.mk (below_step (by repeat (first | (with_reducible first | exact HB.out | apply below_alloc | apply pw_below_drewN | apply below_drew1) | exact HB.out)) hb); clear HO141; clear HO144; clear HO147; clear HB; have HO141 := n0_; have HO144 := n1_; have HO147 := n2_; have HB := n3_; clear n0_ n1_ n2_ n3_; (try clear hb); (try clear hb2); (try clear hk); (try clear hi)))
              (try simp only [Act.put, List.setIfInBounds_toArray, List.set_cons_zero, List.set_cons_succ])
              go_cut [66] (fun v66 wc => ∃ (kq : Nat) (x66_12 : Bool), v66 = .bool x66_12 ∧ Aside0 (graftbedlaw15_GlobClasses.j0 kq a0 a1 a2 t148 t149 t150 x66_12 = some r) ∧ Aside0 (kq ≤ k) ∧ Aside0 (Below w.heap.size w wc))
              case first =>
                have H := HC13.out
                clear HC13
                by_cases c26 : t149 = t153
                · rw [if_pos c26] at H
                  have c26b0 : (t149 == t153) = true := beq_iff_eq.mpr c26
                  have c26b1 : (t149 != t153) = false := bne_eq_false_iff_eq.mpr c26
                  clear c26
                  (first | rw [c26b0] | (simp only [i64_w, i32_w]; rw [c26b0]) | skip)
                  by_cases c27 : ((t149 == 0) != (decide (a0 ≤ a1))) = true
                  · rw [if_pos c27] at H
                    have c27b0 : ((t149 == 0) != (decide (a0 ≤ a1))) = true := c27
                    (try (have c27b1 : decide ((t149 == 0) = (decide (a0 ≤ a1))) = false := by simpa using c27))
                    (try (have c27b2 : ((t149 == 0) == (decide (a0 ≤ a1))) = false := by simpa using c27))
                    (try (have c27b3 : ¬ ((t149 == 0) = (decide (a0 ≤ a1))) := by simpa using c27))
                    clear c27
                    have H' := Aside0.mk H
                    clear H
                    go_wp2
                    go_meet
                    case rel => exact ⟨_, (true), (by first | rfl | (simp; done) | (simp [*]; done)), H', ⟨by first | omega | exact Nat.le_refl _⟩, ⟨by repeat (first | (with_reducible first | exact HB.out | apply below_alloc | apply pw_below_drewN | apply below_drew1) | exact HB.out)⟩⟩
                  · rw [if_neg c27] at H
                    have c27b0 : ((t149 == 0) != (decide (a0 ≤ a1))) = false := by simpa using c27
                    (try (have c27b1 : decide ((t149 == 0) = (decide (a0 ≤ a1))) = true := by simpa using c27))
                    (try (have c27b2 : ((t149 == 0) == (decide (a0 ≤ a1))) = true := by simpa using c27))
                    clear c27
                    have H' := Aside0.mk H
                    clear H
                    go_wp2
                    go_meet
                    case rel => exact ⟨_, ((t151 != t149)), (by first | rfl | (simp; done) | (simp [*]; done)), H', ⟨by first | omega | exact Nat.le_refl _⟩, ⟨by repeat (first | (with_reducible first | exact HB.out | apply below_alloc | apply pw_below_drewN | apply below_drew1) | exact HB.out)⟩⟩
                · rw [if_neg c26] at H
                  have c26b0 : (t149 == t153) = false := beq_eq_false_iff_ne.mpr c26
                  have c26b1 : (t149 != t153) = true := bne_iff_ne.mpr c26
                  (first | rw [c26b0] | (simp only [i64_w, i32_w]; rw [c26b0]) | skip)
                  have H' := Aside0.mk H
                  clear H
                  go_wp2
                  go_meet
                  case rel => exact ⟨_, (true), (by first | rfl | (simp; done) | (simp [*]; done)), H', ⟨by first | omega | exact Nat.le_refl _⟩, ⟨by repeat (first | (with_reducible first | exact HB.out | apply below_alloc | apply pw_below_drewN | apply below_drew1) | exact HB.out)⟩⟩
              case rest =>
                clear HC13
                try clear hcv1
                try clear c2
                try clear p2
                try clear hcv2
                try clear c4
                try clear c4b0
                try clear c4b1
                try clear c4b2
                try clear c5
                try clear c5b0
                try clear c5b1
                try clear c5b2
                try clear c6
                try clear c6b0
                try clear c6b1
                try clear c6b2
                try clear c7
                try clear c7b0
                try clear c7b1
                try clear c7b2
                try clear c8
                try clear c8b0
                try clear c8b1
                try clear c9
                try clear c9b0
                try clear c9b1
                try clear c9b2
                try clear hcv16
                try clear hcv19
                try clear hcv22
                try clear c26
                try clear c26b0
                try clear c26b1
                try clear c27
                try clear c27b0
                try clear c27b1
                try clear c27b2
                obtain ⟨kq, x66_12, rfl, HA, HJ12, HB⟩ := hcut
                cases kq with
                | zero => exact absurd HA.out (by simp [graftbedlaw15_GlobClasses.j0])
                | succ kj12 =>
                  have H := HA.out
                  clear HA
                  simp only [graftbedlaw15_GlobClasses.j0] at H
                  by_cases c28 : x66_12 = true
                  · subst c28
                    have H1 : (some false) = some r := by rw [if_pos rfl] at H; exact H
                    clear H
                    have H := H1
                    clear H1
                    obtain rfl := Option.some.inj H
                    go_wp2
                    go_ret
                    exact ⟨by first | rfl | (simp [errW_none, errW_some] <;> rfl) | (simp [*, errW_none, errW_some] <;> rfl) | (exfalso; simp only [decide_eq_true_eq, decide_eq_false_iff_not, beq_iff_eq, beq_eq_false_iff_ne] at *; first | contradiction | omega), by repeat (first | (with_reducible first | exact HB.out | apply below_alloc | apply pw_below_drewN | apply below_drew1) | exact HB.out)⟩
                  · replace c28 := Bool.eq_false_iff.mpr c28
                    subst c28
                    have H1 : (if t149 = 0 then (if a0 ≤ a2 then (if a2 ≤ a1 then (if (t148 == (a2 != 47)) = true then (some (t150 == false)) else (some false)) else (if (t148 == false) = true then (some (t150 == (a2 != 47))) else (some false))) else (if (t148 == false) = true then (some (t150 == (a2 != 47))) else (some false))) else (if t148 = true then (some false) else (if t150 = true then (some false) else ((glob_Plain.f (⟨#[97]⟩ : ByteArray)).bind fun t154 => (some t154))))) = some r := by rw [if_neg (show ¬ (false = true) by decide)] at H; exact H
                    clear H
                    have H := H1
                    clear H1
                    by_cases c29 : t149 = 0
                    · rw [if_pos c29] at H
                      have c29b0 : (t149 == 0) = true := beq_iff_eq.mpr c29
                      have c29b1 : (t149 != 0) = false := bne_eq_false_iff_eq.mpr c29
                      clear c29
                      by_cases c30 : a0 ≤ a2
                      · rw [if_pos c30] at H
                        have c30b0 : decide (a0 ≤ a2) = true := decide_eq_true c30
                        clear c30
                        by_cases c31 : a2 ≤ a1
                        · rw [if_pos c31] at H
                          have c31b0 : decide (a2 ≤ a1) = true := decide_eq_true c31
                          clear c31
                          by_cases c32 : (t148 == (a2 != 47)) = true
                          · rw [if_pos c32] at H
                            have c32b0 : (t148 == (a2 != 47)) = true := c32
                            (try (have c32b1 : decide (t148 = (a2 != 47)) = true := by simpa using c32))
                            (try (have c32b2 : (t148 == (a2 != 47)) = true := by simpa using c32))
                            clear c32
                            obtain rfl := Option.some.inj H
                            go_wp2
                            go_ret
                            exact ⟨by first | rfl | (simp [errW_none, errW_some] <;> rfl) | (simp [*, errW_none, errW_some] <;> rfl) | (exfalso; simp only [decide_eq_true_eq, decide_eq_false_iff_not, beq_iff_eq, beq_eq_false_iff_ne] at *; first | contradiction | omega), by repeat (first | (with_reducible first | exact HB.out | apply below_alloc | apply pw_below_drewN | apply below_drew1) | exact HB.out)⟩
                          · rw [if_neg c32] at H
                            have c32b0 : (t148 == (a2 != 47)) = false := by simpa using c32
                            (try (have c32b1 : decide (t148 = (a2 != 47)) = false := by simpa using c32))
                            (try (have c32b2 : (t148 == (a2 != 47)) = false := by simpa using c32))
                            (try (have c32b3 : ¬ (t148 = (a2 != 47)) := by simpa using c32))
                            clear c32
                            obtain rfl := Option.some.inj H
                            go_wp2
                            go_ret
                            exact ⟨by first | rfl | (simp [errW_none, errW_some] <;> rfl) | (simp [*, errW_none, errW_some] <;> rfl) | (exfalso; simp only [decide_eq_true_eq, decide_eq_false_iff_not, beq_iff_eq, beq_eq_false_iff_ne] at *; first | contradiction | omega), by repeat (first | (with_reducible first | exact HB.out | apply below_alloc | apply pw_below_drewN | apply below_drew1) | exact HB.out)⟩
                        · rw [if_neg c31] at H
                          have c31b0 : decide (a2 ≤ a1) = false := decide_eq_false c31
                          clear c31
                          by_cases c33 : (t148 == false) = true
                          · rw [if_pos c33] at H
                            have c33b0 : (t148 == false) = true := c33
                            (try (have c33b1 : decide (t148 = false) = true := by simpa using c33))
                            (try (have c33b2 : (t148 == false) = true := by simpa using c33))
                            clear c33
                            obtain rfl := Option.some.inj H
                            go_wp2
                            go_ret
                            exact ⟨by first | rfl | (simp [errW_none, errW_some] <;> rfl) | (simp [*, errW_none, errW_some] <;> rfl) | (exfalso; simp only [decide_eq_true_eq, decide_eq_false_iff_not, beq_iff_eq, beq_eq_false_iff_ne] at *; first | contradiction | omega), by repeat (first | (with_reducible first | exact HB.out | apply below_alloc | apply pw_below_drewN | apply below_drew1) | exact HB.out)⟩
                          · rw [if_neg c33] at H
                            have c33b0 : (t148 == false) = false := by simpa using c33
                            (try (have c33b1 : decide (t148 = false) = false := by simpa using c33))
                            (try (have c33b2 : (t148 == false) = false := by simpa using c33))
                            (try (have c33b3 : ¬ (t148 = false) := by simpa using c33))
                            clear c33
                            obtain rfl := Option.some.inj H
                            go_wp2
                            go_ret
                            exact ⟨by first | rfl | (simp [errW_none, errW_some] <;> rfl) | (simp [*, errW_none, errW_some] <;> rfl) | (exfalso; simp only [decide_eq_true_eq, decide_eq_false_iff_not, beq_iff_eq, beq_eq_false_iff_ne] at *; first | contradiction | omega), by repeat (first | (with_reducible first | exact HB.out | apply below_alloc | apply pw_below_drewN | apply below_drew1) | exact HB.out)⟩
                      · rw [if_neg c30] at H
                        have c30b0 : decide (a0 ≤ a2) = false := decide_eq_false c30
                        clear c30
                        by_cases c34 : (t148 == false) = true
                        · rw [if_pos c34] at H
                          have c34b0 : (t148 == false) = true := c34
                          (try (have c34b1 : decide (t148 = false) = true := by simpa using c34))
                          (try (have c34b2 : (t148 == false) = true := by simpa using c34))
                          clear c34
                          obtain rfl := Option.some.inj H
                          go_wp2
                          go_ret
                          exact ⟨by first | rfl | (simp [errW_none, errW_some] <;> rfl) | (simp [*, errW_none, errW_some] <;> rfl) | (exfalso; simp only [decide_eq_true_eq, decide_eq_false_iff_not, beq_iff_eq, beq_eq_false_iff_ne] at *; first | contradiction | omega), by repeat (first | (with_reducible first | exact HB.out | apply below_alloc | apply pw_below_drewN | apply below_drew1) | exact HB.out)⟩
                        · rw [if_neg c34] at H
                          have c34b0 : (t148 == false) = false := by simpa using c34
                          (try (have c34b1 : decide (t148 = false) = false := by simpa using c34))
                          (try (have c34b2 : (t148 == false) = false := by simpa using c34))
                          (try (have c34b3 : ¬ (t148 = false) := by simpa using c34))
                          clear c34
                          obtain rfl := Option.some.inj H
                          go_wp2
                          go_ret
                          exact ⟨by first | rfl | (simp [errW_none, errW_some] <;> rfl) | (simp [*, errW_none, errW_some] <;> rfl) | (exfalso; simp only [decide_eq_true_eq, decide_eq_false_iff_not, beq_iff_eq, beq_eq_false_iff_ne] at *; first | contradiction | omega), by repeat (first | (with_reducible first | exact HB.out | apply below_alloc | apply pw_below_drewN | apply below_drew1) | exact HB.out)⟩
                    · rw [if_neg c29] at H
                      have c29b0 : (t149 == 0) = false := beq_eq_false_iff_ne.mpr c29
                      have c29b1 : (t149 != 0) = true := bne_iff_ne.mpr c29
                      by_cases c35 : t148 = true
                      · subst c35
                        have H1 : (some false) = some r := by rw [if_pos rfl] at H; exact H
                        clear H
                        have H := H1
                        clear H1
                        obtain rfl := Option.some.inj H
                        go_wp2
                        go_ret
                        exact ⟨by first | rfl | (simp [errW_none, errW_some] <;> rfl) | (simp [*, errW_none, errW_some] <;> rfl) | (exfalso; simp only [decide_eq_true_eq, decide_eq_false_iff_not, beq_iff_eq, beq_eq_false_iff_ne] at *; first | contradiction | omega), by repeat (first | (with_reducible first | exact HB.out | apply below_alloc | apply pw_below_drewN | apply below_drew1) | exact HB.out)⟩
                      · replace c35 := Bool.eq_false_iff.mpr c35
                        subst c35
                        have H1 : (if t150 = true then (some false) else ((glob_Plain.f (⟨#[97]⟩ : ByteArray)).bind fun t154 => (some t154))) = some r := by rw [if_neg (show ¬ (false = true) by decide)] at H; exact H
                        clear H
                        have H := H1
                        clear H1
                        by_cases c36 : t150 = true
                        · subst c36
                          have H1 : (some false) = some r := by rw [if_pos rfl] at H; exact H
                          clear H
                          have H := H1
                          clear H1
                          obtain rfl := Option.some.inj H
                          go_wp2
                          go_ret
                          exact ⟨by first | rfl | (simp [errW_none, errW_some] <;> rfl) | (simp [*, errW_none, errW_some] <;> rfl) | (exfalso; simp only [decide_eq_true_eq, decide_eq_false_iff_not, beq_iff_eq, beq_eq_false_iff_ne] at *; first | contradiction | omega), by repeat (first | (with_reducible first | exact HB.out | apply below_alloc | apply pw_below_drewN | apply below_drew1) | exact HB.out)⟩
                        · replace c36 := Bool.eq_false_iff.mpr c36
                          subst c36
                          have H1 : ((glob_Plain.f (⟨#[97]⟩ : ByteArray)).bind fun t154 => (some t154)) = some r := by rw [if_neg (show ¬ (false = true) by decide)] at H; exact H
                          clear H
                          have H := H1
                          clear H1
                          replace H := Option.bind_eq_some_iff.mp H
                          obtain ⟨t154, A370, H⟩ := H
                          replace H : (some t154) = some r := H
                          have A37 := Aside0.mk A370
                          clear A370
                          obtain rfl := Option.some.inj H
                          go_wp2_with (first | (go_at_call 10; (with_reducible refine (glob_Plain.calls (⟨#[97]⟩ : ByteArray) t154 _ A37.out).mono ?_); rintro e w38 ⟨rfl, hb⟩; have n0_ := Aside0.mk (below_step (by repeat (first | (with_reducible first | exact HB.out | apply below_alloc | apply pw_below_drewN | apply below_drew1) | exact HB.out)) hb); clear HB; have HB := n0_; clear n0_; (try clear hb); (try clear hb2); (try clear hk); (try clear hi)))
                          go_ret
                          exact ⟨by first | rfl | (simp [errW_none, errW_some] <;> rfl) | (simp [*, errW_none, errW_some] <;> rfl) | (exfalso; simp only [decide_eq_true_eq, decide_eq_false_iff_not, beq_iff_eq, beq_eq_false_iff_ne] at *; first | contradiction | omega), by repeat (first | (with_reducible first | exact HB.out | apply below_alloc | apply pw_below_drewN | apply below_drew1) | exact HB.out)⟩
            · rw [if_neg c9] at H
              exact absurd H (by simp)
          · rw [if_neg c8] at H
            exact absurd H (by simp)
        · rw [if_neg c7] at H
          exact absurd H (by simp)
      · rw [if_neg c6] at H
        exact absurd H (by simp)
    · rw [if_neg c5] at H
      exact absurd H (by simp)
  · rw [if_neg c4] at H
    exact absurd H (by simp)

/-- THE ONE PURE STATEMENT of graftbedlaw15_GlobClasses: yours. -/
def graftbedlaw15_GlobClasses.Pure : Prop := ∀ (a0 : Int) (a1 : Int) (a2 : Int), (Lit.int .u8 a0).wf = true → (Lit.int .u8 a1).wf = true → (Lit.int .u8 a2).wf = true → ∃ k, graftbedlaw15_GlobClasses.f k a0 a1 a2 = some true
theorem graftbedlaw15_GlobClasses.walk (P : graftbedlaw15_GlobClasses.Pure) (a0 : Int) (a1 : Int) (a2 : Int) (w : World) (w0 : (Lit.int .u8 a0).wf = true) (w1 : (Lit.int .u8 a1).wf = true) (w2 : (Lit.int .u8 a2).wf = true) :
    Calls Try.prog 4 #[.int .u8 a0, .int .u8 a1, .int .u8 a2] w fun e w' => e = .returned (.bool true) ∧ Below w.heap.size w w' := by
  obtain ⟨k, h⟩ := P a0 a1 a2 w0 w1 w2
  refine (graftbedlaw15_GlobClasses.calls k a0 a1 a2 true w h).mono ?_
  rintro e w' ⟨rfl, hd⟩
  exact ⟨rfl, hd⟩

end Go.Proofs.Ytjcopbgbmokfmaa.PAll
