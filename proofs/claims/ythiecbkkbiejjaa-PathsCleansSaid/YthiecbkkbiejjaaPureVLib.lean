/- Whether a text may be a path: the reference's answer is the program's; and what follows of one that may. -/
import Derived.Test.YthiecbkkbiejjaaPAllx1
import Derived.Test.YthiecbkkbiejjaaPAllx3
import Derived.Test.YthiecbkkbiejjaaPAllx4
import Derived.Test.YthiecbkkbiejjaaPAllx5
import Derived.Test.YthiecbkkbiejjaaPureALib
namespace Go.Proofs.Ythiecbkkbiejjaa.Pure
open Go.RowKit Go.Proofs.Ythiecbkkbiejjaa.PAll Go.Proofs.YthiecbkkbiejjaaW.PrintWords Go.Proofs.YthiecbkkbiejjaaW.PrintLast
open Go.Proofs.Ythiecbkkbiejjaa.BytesLib Go.Proofs.Ythiecbkkbiejjaa.SplitLib Go.Proofs.Ythiecbkkbiejjaa.OrderLib Go.Proofs.Ythiecbkkbiejjaa.Elems Go.Proofs.Ythiecbkkbiejjaa.Valid
set_option linter.unusedVariables false

theorem byte_eq {x : UInt8} {c : Int} (h0 : 0 ≤ c) (h1 : c ≤ 255) : (x.toNat : Int) = c ↔ x = c.toNat.toUInt8 := by
  have e : (c.toNat.toUInt8).toNat = c.toNat := by
    rw [Nat.toUInt8_eq, UInt8.toNat_ofNat']; omega
  constructor
  · intro h
    apply UInt8.toNat_inj.1
    rw [e]; omega
  · intro h
    rw [h, e]; omega

theorem ref_fine_loop (c : Int) (h0 : 0 ≤ c) (h1 : c ≤ 255) (s : ByteArray) (hs : s.size ≤ 1000) (d : Nat) : ∀ i : Nat, i ≤ s.size → s.size - i = d →
    Ev (fun k => graftbedref01_fine.l0 k c s (i : Int)) (decide (c.toNat.toUInt8 ∉ (L s).drop i)) := by
  induction d with
  | zero =>
    intro i h2 h3
    refine Ev.step (f := fun _ => some true) (fun k => ?_) ?_
    · simp only [graftbedref01_fine.l0]; rw [if_neg (by omega)]
    · rw [List.drop_of_length_le (by rw [L_length]; omega)]
      simp only [List.not_mem_nil, not_false_eq_true, decide_true]
      exact Ev.now _
  | succ d ih =>
    intro i h2 h3
    have hlt : i < (L s).length := by rw [L_length]; omega
    have hb := bt_nat hlt
    rw [List.drop_eq_getElem_cons hlt]
    by_cases e : bt s (i : Int) = c
    · refine Ev.step (f := fun _ => some false) (fun k => ?_) ?_
      · simp only [graftbedref01_fine.l0]; rw [if_pos (by omega), if_pos (by omega), if_pos e]
      · rw [hb, byte_eq h0 h1] at e
        rw [decide_eq_false (by rw [e]; simp)]
        exact Ev.now _
    · refine Ev.step (f := fun k => graftbedref01_fine.l0 k c s ((i + 1 : Nat) : Int)) (fun k => ?_) ?_
      · simp only [graftbedref01_fine.l0]; rw [if_pos (by omega), if_pos (by omega), if_neg e, w64 (by omega) (by omega)]; rfl
      · rw [hb, byte_eq h0 h1] at e
        have := ih (i + 1) (by omega) (by omega)
        rw [show decide (c.toNat.toUInt8 ∉ (L s)[i] :: (L s).drop (i + 1)) = decide (c.toNat.toUInt8 ∉ (L s).drop (i + 1)) from by
          rw [decide_eq_decide, List.mem_cons, not_or]
          exact ⟨fun h => h.2, fun h => ⟨fun h2 => e h2.symm, h⟩⟩]
        exact this

theorem index_mem (l : List UInt8) (c : UInt8) : decide (Lib.indexByte l c < 0) = decide (c ∉ l) := by
  rw [decide_eq_decide]
  constructor
  · intro h; exact index_none c l (by omega)
  · intro h
    by_cases g : 0 ≤ Lib.indexByte l c
    · have := (index_split c l g).1
      exact absurd (by rw [this]; simp) h
    · omega

theorem ref_fine (c : Int) (h0 : 0 ≤ c) (h1 : c ≤ 255) : Ev (fun k => graftbedref01_fine.f k c) (fineI c) := by
  unfold graftbedref01_fine.f fineI
  by_cases g1 : c < 33
  · simp only [if_pos g1]
    rw [decide_eq_false (show ¬ c > 32 by omega)]
    refine Ev.step (f := fun _ => some false) (fun k => by simp only [graftbedref01_fine.j0, if_true]) (Ev.now _)
  · simp only [if_neg g1]
    rw [decide_eq_true (show c > 32 by omega), Bool.true_and]
    by_cases g2 : c > 126
    · simp only [decide_eq_true g2]
      rw [decide_eq_false (show ¬ c < 127 by omega)]
      refine Ev.step (f := fun _ => some false) (fun k => by simp only [graftbedref01_fine.j0, if_true]) (Ev.now _)
    · simp only [decide_eq_false g2]
      rw [decide_eq_true (show c < 127 by omega), Bool.true_and, index_mem]
      refine Ev.step (f := fun k => graftbedref01_fine.l0 k c (⟨#[34, 42, 58, 60, 62, 63, 92, 124, 96]⟩ : ByteArray) 0) (fun k => by simp only [graftbedref01_fine.j0, Bool.false_eq_true, if_false]) ?_
      have := ref_fine_loop c h0 h1 ⟨#[34, 42, 58, 60, 62, 63, 92, 124, 96]⟩ (by decide) _ 0 (Nat.zero_le _) rfl
      exact this

theorem ref_valid_in (l : List ByteArray) (hl : l.length ≤ 1099511627777) (i : Nat) (hi : i < l.length) (hsz : l[i].size ≤ 1099511627777) (r : Bool)
    (hnext : Ev (fun k => graftbedref01_Valid.l0 k l ((i + 1 : Nat) : Int)) r) (d : Nat) : ∀ j : Nat, j ≤ l[i].size → l[i].size - j = d →
    Ev (fun k => graftbedref01_Valid.l1 k l (i : Int) (j : Int)) (fineFrom l[i] j && r) := by
  induction d with
  | zero =>
    intro j h1 h2
    obtain rfl : j = l[i].size := by omega
    rw [fine_end, Bool.true_and]
    refine Ev.step (f := fun k => graftbedref01_Valid.l0 k l ((i + 1 : Nat) : Int)) (fun k => ?_) hnext
    simp only [graftbedref01_Valid.l1]
    rw [if_pos (by omega), if_pos (by omega), rdOf_get _ hi, if_neg (by omega), w64 (by omega) (by omega)]; rfl
  | succ d ih =>
    intro j h1 h2
    have hlt : j < l[i].size := by omega
    have hlt2 : j < (L l[i]).length := by rw [L_length]; exact hlt
    have hb := bt_nat hlt2
    have hbe : bt l[i] (j : Int) = (l[i][j].toNat : Int) := hb
    have hr := bt_range l[i] (j : Int)
    have hf := ref_fine (bt l[i] (j : Int)) hr.1 hr.2
    refine Ev.step (f := fun k => (graftbedref01_fine.f k (bt l[i] (j : Int))).bind fun t => (if t = true then (graftbedref01_Valid.l1 k l (i : Int) ((j + 1 : Nat) : Int)) else (some false))) (fun k => ?_) ?_
    · simp only [graftbedref01_Valid.l1]
      rw [if_pos (by omega), if_pos (by omega), rdOf_get _ hi, if_pos (by omega), if_pos (by omega), w64 (by omega) (by omega)]; rfl
    · refine Ev.bind hf ?_
      cases e : fineI (bt l[i] (j : Int)) with
      | true =>
        rw [fine_step l[i] j hlt (hbe ▸ e)]
        simp only [if_true]
        exact ih (j + 1) (by omega) (by omega)
      | false =>
        rw [fine_stop l[i] j hlt (hbe ▸ e)]
        simp only [Bool.false_eq_true, if_false, Bool.false_and]
        exact Ev.now _

theorem ref_valid_loop (l : List ByteArray) (hl : l.length ≤ 1099511627777) (hsz : ∀ x ∈ l, x.size ≤ 1099511627777) (d : Nat) : ∀ i : Nat, i ≤ l.length → l.length - i = d →
    Ev (fun k => graftbedref01_Valid.l0 k l (i : Int)) ((l.drop i).all okE) := by
  induction d with
  | zero =>
    intro i h1 h2
    rw [List.drop_of_length_le (by omega)]
    refine Ev.step (f := fun _ => some true) (fun k => ?_) (Ev.now _)
    simp only [graftbedref01_Valid.l0]; rw [if_neg (by omega)]
  | succ d ih =>
    intro i h1 h2
    have hi : i < l.length := by omega
    rw [List.drop_eq_getElem_cons hi, List.all_cons]
    have bad : okE l[i] = false → Ev (fun k => graftbedref01_Valid.j2 k l (i : Int) true) (okE l[i] && (l.drop (i + 1)).all okE) := by
      intro h
      rw [h, Bool.false_and]
      exact Ev.step (f := fun _ => some false) (fun k => by simp only [graftbedref01_Valid.j2, if_true]) (Ev.now _)
    by_cases e1 : (l[i].size : Int) < 1
    · have hE : okE l[i] = false := by
        unfold okE
        rw [toList_L, show L l[i] = [] from List.length_eq_zero_iff.1 (by rw [L_length]; omega)]; rfl
      refine Ev.step (f := fun k => graftbedref01_Valid.j2 k l (i : Int) true) (fun k => ?_) (bad hE)
      simp only [graftbedref01_Valid.l0]; rw [if_pos (by omega), if_pos (by omega), rdOf_get _ hi, if_pos e1]
    · by_cases e2 : (l[i].size : Int) > 30
      · have hE : okE l[i] = false := by unfold okE; rw [decide_eq_false (show ¬ (l[i].size : Int) ≤ 30 by omega)]; simp
        refine Ev.step (f := fun k => graftbedref01_Valid.j2 k l (i : Int) true) (fun k => ?_) (bad hE)
        simp only [graftbedref01_Valid.l0]; rw [if_pos (by omega), if_pos (by omega), rdOf_get _ hi, if_neg e1, if_pos e2]
      · by_cases e3 : l[i].toList = [46]
        · have hE : okE l[i] = false := by unfold okE; rw [e3]; simp
          refine Ev.step (f := fun k => graftbedref01_Valid.j2 k l (i : Int) true) (fun k => ?_) (bad hE)
          simp only [graftbedref01_Valid.l0]; rw [if_pos (by omega), if_pos (by omega), rdOf_get _ hi, if_neg e1, if_neg e2, if_pos e3]
        · by_cases e4 : l[i].toList = [46, 46]
          · have hE : okE l[i] = false := by unfold okE; rw [e4]; simp
            refine Ev.step (f := fun k => graftbedref01_Valid.j2 k l (i : Int) true) (fun k => ?_) (bad hE)
            simp only [graftbedref01_Valid.l0]; rw [if_pos (by omega), if_pos (by omega), rdOf_get _ hi, if_neg e1, if_neg e2, if_neg e3, e4]; rfl
          · have hne : l[i].toList.isEmpty = false := by
              rw [toList_L]
              cases h : L l[i] with
              | nil => have := L_length l[i]; rw [h] at this; simp at this; omega
              | cons _ _ => rfl
            have hE : okE l[i] = fineFrom l[i] 0 := by
              unfold okE
              rw [hne, decide_eq_true (show (l[i].size : Int) ≤ 30 by omega), beq_eq_false_iff_ne.2 e3, beq_eq_false_iff_ne.2 e4]; rfl
            rw [hE]
            refine Ev.step (f := fun k => graftbedref01_Valid.j2 k l (i : Int) false) (fun k => ?_) ?_
            · simp only [graftbedref01_Valid.l0]; rw [if_pos (by omega), if_pos (by omega), rdOf_get _ hi, if_neg e1, if_neg e2, if_neg e3, beq_eq_false_iff_ne.2 e4]
            · refine Ev.step (f := fun k => graftbedref01_Valid.l1 k l (i : Int) 0) (fun k => by simp only [graftbedref01_Valid.j2, Bool.false_eq_true, if_false]) ?_
              exact ref_valid_in l hl i hi (hsz _ (List.getElem_mem hi)) _ (ih (i + 1) (by omega) (by omega)) _ 0 (Nat.zero_le _) rfl

theorem ref_valid (s : ByteArray) (hs : s.size ≤ 1099511627776) : Ev (fun k => graftbedref01_Valid.f k s) (valid s) := by
  unfold graftbedref01_Valid.f
  by_cases g1 : (s.size : Int) < 1
  · simp only [if_pos g1]
    rw [valid_empty (by rw [toList_L]; exact List.length_eq_zero_iff.1 (by rw [L_length]; omega))]
    exact Ev.step (f := fun _ => some false) (fun k => by simp only [graftbedref01_Valid.j0, if_true]) (Ev.now _)
  · simp only [if_neg g1]
    by_cases g2 : (s.size : Int) > 60
    · simp only [decide_eq_true g2]
      rw [valid_long (by omega)]
      exact Ev.step (f := fun _ => some false) (fun k => by simp only [graftbedref01_Valid.j0, if_true]) (Ev.now _)
    · simp only [decide_eq_false g2]
      have hne : ¬ s.toList = [] := by
        intro h
        rw [toList_L] at h
        have := L_length s
        rw [h] at this; simp at this; omega
      rw [valid_in hne (by omega)]
      have hll := elems_length s
      have h := ref_valid_loop (elems s) (by omega) (fun x hx => by have := elems_size s x hx; omega) _ 0 (Nat.zero_le _) rfl
      rw [List.drop_zero] at h
      refine Ev.step (f := fun k => (graftbedref01_Elems.f k s).bind fun t => graftbedref01_Valid.l0 k t 0) (fun k => by simp only [graftbedref01_Valid.j0, Bool.false_eq_true, if_false]) ?_
      exact Ev.bind (ref_elems s hs) h

/-- What a path that may be has: it is not empty, and each element is neither empty nor a point. -/
theorem valid_tells {s : ByteArray} (h : valid s = true) : L s ≠ [] ∧ s.size ≤ 60 ∧ ∀ e ∈ elemsL (L s), e ≠ [] ∧ e ≠ [46] ∧ e ≠ [46, 46] := by
  have h1 : ¬ s.toList = [] := fun e => by rw [valid_empty e] at h; cases h
  have h2 : (s.size : Int) ≤ 60 := by
    by_cases g : (s.size : Int) ≤ 60
    · exact g
    · rw [valid_long g] at h; cases h
  rw [valid_in h1 h2, List.all_eq_true] at h
  refine ⟨by rw [← toList_L]; exact h1, by omega, ?_⟩
  intro e he
  have hm : ofL e ∈ elems s := by rw [elems_list]; exact List.mem_map.2 ⟨e, he, rfl⟩
  have := h _ hm
  unfold okE at this
  rw [toList_L, L_ofL] at this
  simp only [Bool.and_eq_true, Bool.not_eq_true', List.isEmpty_eq_false_iff, beq_eq_false_iff_ne] at this
  exact ⟨this.1.1.1.1, this.1.1.2, this.1.2⟩

theorem valid_not_here {s : ByteArray} (h : valid s = true) : L s ≠ [] ∧ L s ≠ [46] := by
  obtain ⟨h1, _, h3⟩ := valid_tells h
  refine ⟨h1, fun e => ?_⟩
  have := (h3 [46] (by rw [e]; decide +kernel)).2.1
  exact this rfl

theorem valid_a : valid ⟨#[97]⟩ = true := by
  rw [valid_in (by rw [toList_L]; decide) (by decide), elems_list]
  decide +kernel

end Go.Proofs.Ythiecbkkbiejjaa.Pure
namespace Go.Proofs.Ythiecbkkbiejjaa.Pure
open Go.RowKit Go.Proofs.Ythiecbkkbiejjaa.PAll Go.Proofs.YthiecbkkbiejjaaW.PrintWords Go.Proofs.YthiecbkkbiejjaaW.PrintLast
open Go.Proofs.Ythiecbkkbiejjaa.BytesLib Go.Proofs.Ythiecbkkbiejjaa.SplitLib Go.Proofs.Ythiecbkkbiejjaa.OrderLib Go.Proofs.Ythiecbkkbiejjaa.Elems Go.Proofs.Ythiecbkkbiejjaa.Valid
set_option linter.unusedVariables false

def here (l : List UInt8) : Prop := l = [] ∨ l = [46]
theorem here_f (s : ByteArray) : paths_here.f s = some (decide (L s = [] ∨ L s = [46])) := by
  unfold paths_here.f
  rw [toList_L]
  by_cases h1 : L s = []
  · rw [if_pos h1]; simp [h1]
  · rw [if_neg h1]
    by_cases h2 : L s = [46]
    · simp [h2]
    · rw [beq_eq_false_iff_ne.2 h2]; simp [h1, h2]

/-- The join of two, where neither is no directory of its own. -/
def slash (a b : ByteArray) : ByteArray := (a ++ (⟨#[47]⟩ : ByteArray)) ++ b
theorem L_slash2 (a b : ByteArray) : L (slash a b) = L a ++ 47 :: L b := by
  unfold slash
  rw [L_append, L_append, List.append_assoc]; rfl
theorem size_slash2 (a b : ByteArray) : (slash a b).size = a.size + 1 + b.size := by
  unfold slash
  rw [size_append, size_append]; rfl
theorem slash_not_here (a b : ByteArray) : L (slash a b) ≠ [] ∧ L (slash a b) ≠ [46] := by
  rw [L_slash2]
  refine ⟨by simp, fun e => ?_⟩
  have : (47 : UInt8) ∈ ([46] : List UInt8) := by rw [← e]; simp
  exact absurd this (by decide)

theorem join_f (a b : ByteArray) (ha : a.size ≤ 1099511627776) (hb : b.size ≤ 1099511627776) :
    paths_Join.f a b = some (if L a = [] ∨ L a = [46] then b else if L b = [] ∨ L b = [46] then a else slash a b) := by
  unfold paths_Join.f
  rw [here_f, here_f]
  simp only [Option.bind_some]
  by_cases h1 : L a = [] ∨ L a = [46]
  · rw [decide_eq_true h1, if_pos rfl, if_pos h1]
  · rw [decide_eq_false h1, if_neg (by decide), if_neg h1]
    by_cases h2 : L b = [] ∨ L b = [46]
    · rw [decide_eq_true h2, if_pos rfl, if_pos h2]
    · have s1 : (a ++ (⟨#[47]⟩ : ByteArray)).size = a.size + 1 := size_append _ _
      rw [decide_eq_false h2, if_neg (by decide), if_neg h2, if_pos (by omega), if_pos (by omega)]; rfl

theorem within_f (s d : ByteArray) (hd : d.size ≤ 1099511627776) :
    paths_Within.f s d = some (if L d = [] ∨ L d = [46] then (s, true) else if L s = L d then ((⟨#[]⟩ : ByteArray), true)
      else if L d ++ [47] <+: L s then (s.extract (d.size + 1) s.size, true) else ((⟨#[]⟩ : ByteArray), false)) := by
  unfold paths_Within.f
  rw [here_f]
  simp only [Option.bind_some]
  by_cases h1 : L d = [] ∨ L d = [46]
  · rw [decide_eq_true h1, if_pos rfl, if_pos h1]
  · rw [decide_eq_false h1, if_neg (by decide), if_neg h1, toList_L, toList_L]
    by_cases h2 : L s = L d
    · rw [if_pos h2, if_pos h2]
    · have s1 : (d ++ (⟨#[47]⟩ : ByteArray)).size = d.size + 1 := size_append _ _
      rw [if_neg h2, if_neg h2, if_pos (by omega)]
      unfold strings_CutPrefix.f stringslite_CutPrefix.f stringslite_HasPrefix.f
      rw [s1]
      by_cases h3 : L d ++ [47] <+: L s
      · have hl := h3.length_le
        rw [List.length_append, L_length, L_length, List.length_singleton] at hl
        rw [if_pos h3, if_pos (by omega), if_pos (by omega), if_pos (by omega), toList_L, toList_L, L_head, L_append]
        rw [show ((L s).take (((d.size + 1 : Nat) : Int)).toNat == L d ++ L (⟨#[47]⟩ : ByteArray)) = true from by
          rw [beq_iff_eq, Int.toNat_natCast]
          have := List.prefix_iff_eq_take.1 h3
          rw [List.length_append, L_length, List.length_singleton] at this
          exact this.symm]
        simp only [Option.bind_some, if_true]
        rw [if_pos (by omega), if_pos (by omega)]; rfl
      · rw [if_neg h3]
        by_cases h4 : (s.size : Int) ≥ ((d.size + 1 : Nat) : Int)
        · rw [if_pos h4, if_pos (by omega), if_pos (by omega), toList_L, toList_L, L_head, L_append]
          rw [show ((L s).take (((d.size + 1 : Nat) : Int)).toNat == L d ++ L (⟨#[47]⟩ : ByteArray)) = false from by
            rw [beq_eq_false_iff_ne, Int.toNat_natCast]
            intro e
            apply h3
            rw [show L d ++ [47] = (L s).take (d.size + 1) from e.symm]
            exact List.take_prefix _ _]
          simp
        · rw [if_neg h4]; simp

end Go.Proofs.Ythiecbkkbiejjaa.Pure
