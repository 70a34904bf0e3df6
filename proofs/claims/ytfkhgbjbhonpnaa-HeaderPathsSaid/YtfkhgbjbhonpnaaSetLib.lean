/- Lists of texts that rise, each text once: what slices.Sort and slices.Compact leave, and what one is put into. -/
import Derived.Test.YtfkhgbjbhonpnaaSortLib
import Derived.Test.YtfkhgbjbhonpnaaBytesLib
import Derived.Lib.SlicesCompact
namespace Go.Proofs.Ytfkhgbjbhonpnaa.SetLib
open Go.RowKit Go.Lib Go.Proofs.YtfkhgbjbhonpnaaW.PrintWords Go.Proofs.Ytfkhgbjbhonpnaa.BytesLib Go.Proofs.Ytfkhgbjbhonpnaa.SortLib
set_option linter.unusedVariables false

theorem lt_irr (a : List UInt8) : ¬ a < a := by
  induction a with
  | nil => exact fun h => nomatch h
  | cons x a ih => rw [List.cons_lt_cons_iff]; rintro (h | ⟨_, h⟩); exact UInt8.lt_irrefl _ h; exact ih h

theorem lt_tri : ∀ (a b : List UInt8), a < b ∨ a = b ∨ b < a
  | [], [] => .inr (.inl rfl)
  | [], _ :: _ => .inl (List.nil_lt_cons _ _)
  | _ :: _, [] => .inr (.inr (List.nil_lt_cons _ _))
  | x :: a, y :: b => by
    rw [List.cons_lt_cons_iff, List.cons_lt_cons_iff]
    by_cases h1 : x < y
    · exact .inl (.inl h1)
    · by_cases h2 : y < x
      · exact .inr (.inr (.inl h2))
      · obtain rfl : x = y := by
          rw [UInt8.lt_iff_toNat_lt] at h1 h2
          exact UInt8.toNat_inj.1 (by omega)
        rcases lt_tri a b with h | h | h
        · exact .inl (.inr ⟨rfl, h⟩)
        · exact .inr (.inl (by rw [h]))
        · exact .inr (.inr (.inr ⟨rfl, h⟩))

theorem lt_tr : ∀ {a b c : List UInt8}, a < b → b < c → a < c
  | [], [], _, h, _ => nomatch h
  | _ :: _, [], _, h, _ => nomatch h
  | _, _ :: _, [], _, h => nomatch h
  | [], _ :: _, _ :: _, _, _ => List.nil_lt_cons _ _
  | x :: a, y :: b, z :: c, h, k => by
    rw [List.cons_lt_cons_iff] at h k ⊢
    rcases h with h | ⟨rfl, h⟩
    · rcases k with k | ⟨rfl, k⟩
      · exact .inl (UInt8.lt_trans h k)
      · exact .inl h
    · rcases k with k | ⟨rfl, k⟩
      · exact .inl k
      · exact .inr ⟨rfl, lt_tr h k⟩

theorem lt_asy {a b : List UInt8} (h : a < b) : ¬ b < a := fun k => lt_irr a (lt_tr h k)

theorem le_iff {a b : List UInt8} : a ≤ b ↔ a < b ∨ a = b := by
  rw [← List.not_lt]
  constructor
  · intro h
    rcases lt_tri a b with h1 | h1 | h1
    · exact .inl h1
    · exact .inr h1
    · exact absurd h1 h
  · rintro (h | rfl)
    · exact lt_asy h
    · exact lt_irr a
theorem le_tr {a b c : List UInt8} (h : a ≤ b) (k : b ≤ c) : a ≤ c := by
  rw [le_iff] at h k ⊢
  rcases h with h | rfl
  · rcases k with k | rfl
    · exact .inl (lt_tr h k)
    · exact .inl h
  · exact k

/-- What slices.Compact keeps of a list that rises: it rises strictly, and nothing is lost. -/
theorem up_inv (Z : List (List UInt8)) (hs : Z.Pairwise (· ≤ ·)) : ∀ m, m ≤ Z.length → (compactUpTo Z.toArray m).Pairwise (· < ·) ∧ ∀ x, x ∈ compactUpTo Z.toArray m ↔ x ∈ Z.take m
  | 0, _ => ⟨by simp [compactUpTo], fun x => by simp [compactUpTo]⟩
  | m + 1, hm => by
    obtain ⟨h1, h2⟩ := up_inv Z hs m (by omega)
    have hlt : m < Z.length := by omega
    have hg : Z.toArray[m]! = Z[m] := by simp [getElem!_pos, hlt]
    rw [compactUpTo_succ]
    rw [List.take_succ_eq_append_getElem hlt]
    by_cases hk : keeps Z.toArray m = true
    · rw [if_pos hk, hg]
      refine ⟨List.pairwise_append.2 ⟨h1, by simp, fun x hx y hy => ?_⟩, fun x => by rw [List.mem_append, List.mem_append, h2]⟩
      rw [List.mem_singleton.1 hy]
      have hx2 := (h2 x).1 hx
      obtain ⟨j, hj, hj2⟩ := List.mem_iff_getElem.1 hx2
      rw [List.length_take] at hj
      rw [List.getElem_take] at hj2
      have hm0 : m ≠ 0 := by omega
      have hne : Z[m] ≠ Z[m - 1] := by
        intro e
        have : keeps Z.toArray m = false := keeps_neg (by omega) (by rw [hg, getElem!_pos _ _ (by simp; omega)]; simpa using e)
        rw [this] at hk; cases hk
      have l1 : x ≤ Z[m - 1] := by
        rw [← hj2]
        by_cases hjm : j = m - 1
        · subst hjm; exact le_iff.2 (.inr rfl)
        · exact List.pairwise_iff_getElem.1 hs j (m - 1) (by omega) (by omega) (by omega)
      have l2 : Z[m - 1] ≤ Z[m] := List.pairwise_iff_getElem.1 hs (m - 1) m (by omega) hlt (by omega)
      rw [le_iff] at l1 l2
      have l3 : Z[m - 1] < Z[m] := l2.resolve_right (fun e => hne e.symm)
      rcases l1 with l1 | l1
      · exact lt_tr l1 l3
      · rw [l1]; exact l3
    · have hk2 : keeps Z.toArray m = false := by simpa using hk
      rw [if_neg hk, List.append_nil]
      refine ⟨h1, fun x => ?_⟩
      rw [List.mem_append, h2]
      refine ⟨.inl, fun h => h.elim id fun h => ?_⟩
      have hm0 : m ≠ 0 := by
        rintro rfl
        rw [keeps_lt_one _ 0 (by omega)] at hk2; cases hk2
      have e : Z[m] = Z[m - 1] := by
        rcases Decidable.em (Z[m] = Z[m - 1]) with e | e
        · exact e
        · have : keeps Z.toArray m = true := keeps_pos (by rw [hg, getElem!_pos _ _ (by simp; omega)]; simpa using e)
          rw [this] at hk2; cases hk2
      rw [List.mem_singleton.1 h, e]
      exact List.mem_iff_getElem.2 ⟨m - 1, by rw [List.length_take]; omega, by rw [List.getElem_take]⟩

/-- A list of texts that rises strictly. -/
def Rises (l : List ByteArray) : Prop := (l.map L).Pairwise (· < ·)

theorem rises_cons {x : ByteArray} {l : List ByteArray} : Rises (x :: l) ↔ (∀ y ∈ l, L x < L y) ∧ Rises l := by
  unfold Rises
  rw [List.map_cons, List.pairwise_cons]
  simp

theorem set_inv (l : List ByteArray) : Rises (compacted (sorted l)) ∧ ∀ x, x ∈ compacted (sorted l) ↔ x ∈ l := by
  have e1 : (sorted l).map (·.data.toList) = (l.map (·.data.toList)).mergeSort fun x y => decide (x ≤ y) := by unfold sorted; exact map_back _
  have hs : ((l.map (·.data.toList)).mergeSort fun x y => decide (x ≤ y)).Pairwise (· ≤ ·) := by
    have := List.pairwise_mergeSort (le := fun x y : List UInt8 => decide (x ≤ y)) (fun a b c h k => by
      rw [decide_eq_true_eq] at h k ⊢; exact le_tr h k) (fun a b => by
      rw [Bool.or_eq_true, decide_eq_true_eq, decide_eq_true_eq, le_iff, le_iff]
      rcases lt_tri a b with h | h | h
      · exact .inl (.inl h)
      · exact .inl (.inr h)
      · exact .inr (.inl h)) (l.map (·.data.toList))
    exact this.imp (fun h => by rwa [decide_eq_true_eq] at h)
  obtain ⟨h1, h2⟩ := up_inv _ hs _ (Nat.le_refl _)
  have e2 : (compacted (sorted l)).map L = Lib.compact ((l.map (·.data.toList)).mergeSort fun x y => decide (x ≤ y)) := by
    unfold compacted
    rw [e1]
    exact map_back _
  refine ⟨by unfold Rises; rw [e2]; exact h1, fun x => ?_⟩
  have h3 : ∀ z : List UInt8, z ∈ (compacted (sorted l)).map L ↔ z ∈ l.map L := fun z => by
    rw [e2]
    refine (h2 z).trans ?_
    rw [List.take_length, List.mem_mergeSort]
    rfl
  have h4 : ∀ (l : List ByteArray), L x ∈ l.map L ↔ x ∈ l := fun l => by
    constructor
    · intro h
      obtain ⟨y, hy, e⟩ := List.mem_map.1 h
      rw [← L_inj e]; exact hy
    · exact fun h => List.mem_map_of_mem h
  rw [← h4, h3, h4]

/-- Two that rise, and have the same texts, are one. -/
theorem rises_ext : ∀ {a b : List ByteArray}, Rises a → Rises b → (∀ x, x ∈ a ↔ x ∈ b) → a = b
  | [], [], _, _, _ => rfl
  | [], y :: b, _, _, h => absurd ((h y).2 List.mem_cons_self) (by simp)
  | x :: a, [], _, _, h => absurd ((h x).1 List.mem_cons_self) (by simp)
  | x :: a, y :: b, ha, hb, h => by
    obtain ⟨a1, a2⟩ := rises_cons.1 ha
    obtain ⟨b1, b2⟩ := rises_cons.1 hb
    have e : x = y := by
      rcases List.mem_cons.1 ((h x).1 List.mem_cons_self) with h1 | h1
      · exact h1
      · rcases List.mem_cons.1 ((h y).2 List.mem_cons_self) with h2 | h2
        · exact h2.symm
        · exact absurd (lt_tr (b1 x h1) (a1 y h2)) (lt_irr _)
    subst e
    rw [rises_ext a2 b2 fun z => ?_]
    constructor
    · intro hz
      rcases List.mem_cons.1 ((h z).1 (List.mem_cons_of_mem _ hz)) with h1 | h1
      · subst h1; exact absurd (a1 z hz) (lt_irr _)
      · exact h1
    · intro hz
      rcases List.mem_cons.1 ((h z).2 (List.mem_cons_of_mem _ hz)) with h1 | h1
      · subst h1; exact absurd (b1 z hz) (lt_irr _)
      · exact h1

/-- A text put into a list that rises. -/
def ins (p : ByteArray) : List ByteArray → List ByteArray
  | [] => [p]
  | y :: r => if L y < L p then y :: ins p r else if p = y then y :: r else p :: y :: r
theorem mem_ins {p x : ByteArray} : ∀ {l : List ByteArray}, x ∈ ins p l ↔ x = p ∨ x ∈ l
  | [] => by unfold ins; simp
  | y :: r => by
    unfold ins
    split
    · rw [List.mem_cons, mem_ins, List.mem_cons]
      exact ⟨fun h => by rcases h with h | h | h <;> simp [h], fun h => by rcases h with h | h | h <;> simp [h]⟩
    · split
      · rename_i h; subst h; simp
      · simp
theorem rises_ins {p : ByteArray} : ∀ {l : List ByteArray}, Rises l → Rises (ins p l)
  | [], _ => rises_cons.2 ⟨by simp, by unfold Rises; simp⟩
  | y :: r, h => by
    obtain ⟨h1, h2⟩ := rises_cons.1 h
    unfold ins
    split
    · rename_i hy
      refine rises_cons.2 ⟨fun z hz => ?_, rises_ins h2⟩
      rcases mem_ins.1 hz with rfl | hz
      · exact hy
      · exact h1 z hz
    · split
      · exact h
      · rename_i hy hp
        have hlt : L p < L y := by
          rcases lt_tri (L p) (L y) with h | h | h
          · exact h
          · exact absurd (L_inj h) hp
          · exact absurd h hy
        refine rises_cons.2 ⟨fun z hz => ?_, h⟩
        rcases List.mem_cons.1 hz with rfl | hz
        · exact hlt
        · exact lt_tr hlt (h1 z hz)
theorem ins_len (p : ByteArray) : ∀ l : List ByteArray, (ins p l).length ≤ l.length + 1
  | [] => Nat.le_refl _
  | y :: r => by
    have := ins_len p r
    unfold ins
    split
    · simp; omega
    · split <;> simp
end Go.Proofs.Ytfkhgbjbhonpnaa.SetLib
