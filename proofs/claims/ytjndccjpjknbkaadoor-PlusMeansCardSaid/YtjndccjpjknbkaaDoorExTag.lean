/- A tag's letters: expr.letter and expr.Tag in plain words. -/
import Derived.Test.YtjndccjpjknbkaaDoorMba
import Derived.Test.YtjndccjpjknbkaaDoorBytesLib
namespace Go.Proofs.YtjndccjpjknbkaaDoor.ExTag
open Go Go.Proofs Go.RowKit Go.Proofs.YtjndccjpjknbkaaDoorW.PrintWords Go.Proofs.YtjndccjpjknbkaaDoor.BytesLib Go.Proofs.YtjndccjpjknbkaaDoor.BTag
set_option linter.unusedVariables false

/-- Is a byte a tag's letter? -/
def letB (c : UInt8) : Bool := (decide (97 ≤ (c ||| 32).toNat) && decide ((c ||| 32).toNat ≤ 122)) || (decide (48 ≤ c.toNat) && decide (c.toNat ≤ 57)) || c.toNat == 95 || c.toNat == 46
theorem letter_all : ∀ n : Fin 256, expr_letter.f (n.val : Int) = some (letB (UInt8.ofNat n.val)) := by decide +kernel
theorem letter_eq (c : UInt8) : expr_letter.f (c.toNat : Int) = some (letB c) := by
  have h := letter_all ⟨c.toNat, c.toNat_lt⟩
  simpa using h
/-- Is a text a tag? -/
def tagL (l : List UInt8) : Bool := l.all letB && !l.isEmpty && decide (l.length ≤ 60)
def tagOk (s : ByteArray) : Bool := tagL (L s)

theorem tag_loop (s : ByteArray) (hs : s.size ≤ 4611686018427387904) : ∀ (d i : Nat), s.size - i = d → i ≤ s.size → ((L s).take i).all letB = true → Ev (fun k => expr_Tag.l0 k s s.size i) (tagOk s)
  | 0, i, hd, hi, ha => by
    obtain rfl : i = s.size := by omega
    rw [← L_length, List.take_length] at ha
    refine Ev.step (f := fun _ => some (tagOk s)) (fun k => ?_) (Ev.now _)
    rw [expr_Tag.l0, if_neg (by omega)]
    unfold tagOk tagL
    rw [ha, toList_L, L_length]
    by_cases h : L s = []
    · rw [if_pos h, h]; rfl
    · rw [if_neg h]
      have : (L s).isEmpty = false := by simpa using h
      rw [this]
      simp
      omega
  | d + 1, i, hd, hi, ha => by
    have hlt : i < (L s).length := by rw [L_length]; omega
    have hb : bt s (i : Int) = (((L s)[i]).toNat : Int) := bt_nat hlt
    by_cases hl : letB (L s)[i] = true
    · refine Ev.step (fun k => ?_) (tag_loop s hs d (i + 1) (by omega) (by omega) (by rw [List.take_succ_eq_append_getElem hlt, List.all_append, ha]; simp [hl]))
      rw [expr_Tag.l0, if_pos (by omega), if_pos (by omega), if_pos (by omega), hb, letter_eq, w64 (by omega) (by omega)]
      simp only [Option.bind_some]
      rw [if_pos hl]; rfl
    · refine Ev.step (f := fun _ => some false) (fun k => ?_) ?_
      · rw [expr_Tag.l0, if_pos (by omega), if_pos (by omega), if_pos (by omega), hb, letter_eq]
        simp only [Option.bind_some]
        rw [if_neg hl]
      · have : tagOk s = false := by
          unfold tagOk tagL
          have : (L s).all letB = false := by
            rw [Bool.eq_false_iff]
            intro h
            exact hl (List.all_eq_true.1 h _ (List.getElem_mem hlt))
          rw [this]; rfl
        rw [this]; exact Ev.now _
theorem Tag_calls (s : ByteArray) (hs : s.size ≤ 4611686018427387904) (w : World) : Calls Tryd.prog 35 #[.string s] w fun e w' => e = .returned (.bool (tagOk s)) ∧ Drawn0 w w' := by
  obtain ⟨k, hk⟩ := Ev.rounds (tag_loop s hs _ 0 rfl (Nat.zero_le _) (by simp))
  exact expr_Tag.calls k s _ w hk
end Go.Proofs.YtjndccjpjknbkaaDoor.ExTag

