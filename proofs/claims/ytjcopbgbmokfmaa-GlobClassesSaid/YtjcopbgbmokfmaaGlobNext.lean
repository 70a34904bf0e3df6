/- A pattern's reader: the next byte. The walk. -/
import Derived.Test.YtjcopbgbmokfmaaGlobMatch
import Derived.RangeFuncBox
namespace Go.Proofs.Ytjcopbgbmokfmaa.GlobNext
open Go.RowKit Go.Shelf Go.Proofs.Ytjcopbgbmokfmaa.GlobLib Go.Proofs.Ytjcopbgbmokfmaa.BytesLib Go.Proofs.Ytjcopbgbmokfmaa.GlobMatch Go.Proofs.YtjcopbgbmokfmaaW.PrintWords
set_option linter.unusedVariables false
set_option linter.unusedSimpArgs false
attribute [local go_sem] Oper.semAt_some

/-- The next byte of a pattern, and what is left: a backslash says the byte behind it. -/
def nextB (barred : List UInt8) : List UInt8 → Option (UInt8 × List UInt8)
  | [] => none
  | c :: l => if c ∈ barred then none else if c = 92 then (match l with | [] => none | d :: l' => some (d, l')) else some (c, l)

/-- The reader's one word was turned, and nothing else. -/
def Turned (R : Nat) (w w' : World) (t : ByteArray) : Prop := Boxed w' R 43 (.string t) ∧ w.grownBy w' (some R) ∧ w'.heap.size = w.heap.size

theorem index_bar (b : ByteArray) (x : UInt8) : (0 ≤ Lib.indexByte b.data.toList ((x.toNat : Int).toNat.toUInt8)) ↔ x ∈ L b := by
  have e : (x.toNat : Int).toNat.toUInt8 = x := by simp
  rw [e]
  constructor
  · intro h
    obtain ⟨o, ho⟩ : ∃ o : Nat, Lib.indexByte b.data.toList x = o := ⟨(Lib.indexByte b.data.toList x).toNat, by omega⟩
    exact List.mem_of_getElem? (Lib.indexByte_some ho).1
  · intro hm
    by_cases h : 0 ≤ Lib.indexByte b.data.toList x
    · exact h
    · obtain ⟨k, hk, hk2⟩ := List.mem_iff_getElem.1 hm
      have h0 := Lib.indexByte_ge b.data.toList x
      exact absurd (by rw [List.getElem?_eq_some_iff]; exact ⟨hk, hk2⟩) (Lib.indexByte_none (by omega : Lib.indexByte b.data.toList x = -1) k)

set_option maxRecDepth 100000 in
set_option maxHeartbeats 4000000 in
theorem next_calls (barred t : ByteArray) (R : Nat) (w : World) (hR : Boxed w R 43 (.string t)) :
    Calls Try.prog 23 #[.pointer (some ⟨R, 0, none⟩), .string barred] w fun e w' =>
      ∃ t', Turned R w w' t' ∧ (match nextB (L barred) (L t) with
        | none => e = .returned (.tuple #[.int .u8 0, .bool false])
        | some (c, l) => e = .returned (.tuple #[.int .u8 c.toNat, .bool true]) ∧ L t' = l) := by
  have hc := hR.cell
  have hf := hR.frozen
  by_cases h0 : t.toList = []
  · have b1 : (t.toList == []) = true := beq_iff_eq.2 h0
    have b1b : t.toList.isEmpty = true := by rw [h0]; rfl
    have e0 : nextB (L barred) (L t) = none := by rw [← toList_L t, h0]; rfl
    rw [e0]
    have HR := Aside0.mk hR
    clear h0 e0 hR
    go_enter Try.func23, Try.ntmps23
    go_wp2
    go_ret2
    exact ⟨t, ⟨HR.out, World.grownBy.refl _ _, rfl⟩, rfl⟩
  · have hsz : 0 < t.size := by
      rw [toList_L] at h0
      have := List.length_pos_iff.2 h0
      rwa [L_length] at this
    have b1 : (t.toList == []) = false := beq_eq_false_iff_ne.2 h0
    have b1b : t.toList.isEmpty = false := by simpa using h0
    have hLt : L t = t[0] :: L (t.extract 1 t.size) := by
      have h := List.drop_eq_getElem_cons (i := 0) (l := L t) (by rw [L_length]; exact hsz)
      rw [List.drop_zero] at h
      rw [L_tail]; exact h
    have hidx := index_bar barred t[0]
    have hI := Try.strings_IndexByte barred (t[0].toNat : Int)
    generalize Lib.indexByte barred.data.toList ((t[0].toNat : Int).toNat.toUInt8) = ix at hidx hI
    by_cases hb : t[0] ∈ L barred
    · have hix : decide (ix ≥ 0) = true := decide_eq_true (hidx.2 hb)
      have hix2 : decide (0 ≤ ix) = true := decide_eq_true (hidx.2 hb)
      have e0 : nextB (L barred) (L t) = none := by rw [hLt]; exact if_pos hb
      rw [e0]
      have HR := Aside0.mk hR
      clear h0 e0 hR hLt hidx hb
      go_enter Try.func23, Try.ntmps23
      go_wp2_with (first | (go_at_call 32; refine (hI _).mono ?_; rintro e w' ⟨rfl, rfl⟩))
      go_ret2
      exact ⟨t, ⟨HR.out, World.grownBy.refl _ _, rfl⟩, rfl⟩
    · have hix : decide (ix ≥ 0) = false := decide_eq_false (fun h => hb (hidx.1 h))
      have hix2 : decide (0 ≤ ix) = false := decide_eq_false (fun h => hb (hidx.1 h))
      have hT : Turned R w (w.setCell ⟨R, 0, none⟩ (.string (t.extract 1 t.size))) (t.extract 1 t.size) := ⟨hR.set _, grownBy_setCell' w R _, by simp⟩
      have hc1 := hT.1.cell
      have hf1 := hT.1.frozen
      by_cases h92 : t[0] = 92
      · have e92 : ((t[0].toNat : Int) == 92) = true := by rw [h92]; rfl
        have sT := Aside0.mk hT
        by_cases h1 : (t.extract 1 t.size).toList = []
        · have c1 : ((t.extract 1 t.size).toList == []) = true := beq_iff_eq.2 h1
          have c1b : (t.extract 1 t.size).toList.isEmpty = true := by rw [h1]; rfl
          have e0 : nextB (L barred) (L t) = none := by
            rw [hLt]
            show (if t[0] ∈ L barred then none else if t[0] = 92 then _ else _) = none
            rw [if_neg hb, if_pos h92, ← toList_L, h1]
          rw [e0]
          clear h0 e0 hR hLt hidx hb h1 h92 hT
          go_enter Try.func23, Try.ntmps23
          go_wp2_with (first | (go_at_call 32; refine (hI _).mono ?_; rintro e w' ⟨rfl, rfl⟩))
          go_ret2
          exact ⟨_, sT.out, rfl⟩
        · have c1 : ((t.extract 1 t.size).toList == []) = false := beq_eq_false_iff_ne.2 h1
          have c1b : (t.extract 1 t.size).toList.isEmpty = false := by simpa using h1
          obtain ⟨t1, ht1⟩ : ∃ t1, t.extract 1 t.size = t1 := ⟨_, rfl⟩
          have hsz1 : 0 < t1.size := by
            rw [ht1, toList_L] at h1
            have := List.length_pos_iff.2 h1
            rwa [L_length] at this
          have hLt1 : L t1 = t1[0] :: L (t1.extract 1 t1.size) := by
            have h := List.drop_eq_getElem_cons (i := 0) (l := L t1) (by rw [L_length]; exact hsz1)
            rw [List.drop_zero] at h
            rw [L_tail]; exact h
          have e0 : nextB (L barred) (L t) = some (t1[0], L (t1.extract 1 t1.size)) := by
            rw [hLt, ht1]
            show (if t[0] ∈ L barred then none else if t[0] = 92 then _ else _) = _
            rw [if_neg hb, if_pos h92, hLt1]
          rw [e0]
          rw [ht1] at sT hc1 hf1 c1 c1b hT
          have hT2 : Turned R w ((w.setCell ⟨R, 0, none⟩ (.string t1)).setCell ⟨R, 0, none⟩ (.string (t1.extract 1 t1.size))) (t1.extract 1 t1.size) := ⟨hT.1.set _, hT.2.1.trans (grownBy_setCell' _ R _), by simp⟩
          have sT2 := Aside0.mk hT2
          clear h0 e0 hR hLt hidx hb h1 h92 hT hT2 hLt1
          go_enter Try.func23, Try.ntmps23
          go_wp2_with (first | (go_at_call 32; refine (hI _).mono ?_; rintro e w' ⟨rfl, rfl⟩))
          go_ret2
          exact ⟨_, sT2.out, rfl, rfl⟩
      · have e92 : ((t[0].toNat : Int) == 92) = false := (int_eq t[0] 92).trans (beq_eq_false_iff_ne.2 h92)
        have e0 : nextB (L barred) (L t) = some (t[0], L (t.extract 1 t.size)) := by
          rw [hLt]
          show (if t[0] ∈ L barred then none else if t[0] = 92 then _ else _) = _
          rw [if_neg hb, if_neg h92]
        rw [e0]
        have sT := Aside0.mk hT
        clear h0 e0 hR hLt hidx hb h92 hT
        go_enter Try.func23, Try.ntmps23
        go_wp2_with (first | (go_at_call 32; refine (hI _).mono ?_; rintro e w' ⟨rfl, rfl⟩))
        go_ret2
        exact ⟨_, sT.out, rfl, rfl⟩

end Go.Proofs.Ytjcopbgbmokfmaa.GlobNext
