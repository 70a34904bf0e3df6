/- Parts of a version's parse: cuts, identifiers one by one, texts of digits, numbers: the walks. -/
import Derived.Test.YtaddonafdllciaaDoorIter
import Derived.Test.YtaddonafdllciaaDoorMba
import Derived.Test.YtaddonafdllciaaDoorShelf
import Derived.Test.YtaddonafdllciaaDoorBytesLib
import Derived.Outline
import Derived.Deep.QuietTactic
import Derived.BigQuiet
import Derived.WalkSpells
namespace Go.Proofs.YtaddonafdllciaaDoor.SemParts
open Go.RowKit Go.Shelf Go.Proofs.YtaddonafdllciaaDoor.Iter Go.Proofs.YtaddonafdllciaaDoor.BytesLib Go.Proofs.YtaddonafdllciaaDoorW.PrintWords
set_option linter.unusedVariables false
set_option linter.unusedSimpArgs false
attribute [local go_sem] Oper.semAt_some

def cutI (c : UInt8) (s : ByteArray) : Int := Lib.indexByte s.data.toList c
def cutF (c : UInt8) (s : ByteArray) : Bool := decide (0 ≤ cutI c s)
def cutA (c : UInt8) (s : ByteArray) : ByteArray := if 0 ≤ cutI c s then s.extract 0 (cutI c s).toNat else s
def cutB (c : UInt8) (s : ByteArray) : ByteArray := if 0 ≤ cutI c s then s.extract ((cutI c s) + 1).toNat s.size else ⟨#[]⟩

theorem cutI_lt (c : UInt8) (s : ByteArray) : cutI c s < s.size := by
  unfold cutI
  by_cases h : Lib.indexByte s.data.toList c = -1
  · rw [h]; omega
  · have h0 := Lib.indexByte_ge s.data.toList c
    obtain ⟨o, ho⟩ : ∃ o : Nat, Lib.indexByte s.data.toList c = o := ⟨(Lib.indexByte s.data.toList c).toNat, by omega⟩
    have := (Lib.indexByte_some ho).1
    have h2 : o < s.data.toList.length := by
      by_cases h3 : o < s.data.toList.length
      · exact h3
      · rw [List.getElem?_eq_none (by omega)] at this; cases this
    rw [ho]
    have := data_length s
    omega

theorem cutB_lt {c : UInt8} {s : ByteArray} (h : cutF c s = true) : (cutB c s).size < s.size := by
  have h0 : 0 ≤ cutI c s := of_decide_eq_true h
  have h1 := cutI_lt c s
  unfold cutB
  rw [if_pos h0, ByteArray.size_extract]
  omega

theorem cutB_le (c : UInt8) (s : ByteArray) : (cutB c s).size ≤ s.size := by
  unfold cutB
  split
  · rw [ByteArray.size_extract]; omega
  · exact Nat.zero_le _

def split (c : UInt8) (s : ByteArray) : List ByteArray := cutA c s :: (if h : cutF c s = true then split c (cutB c s) else [])
termination_by s.size
decreasing_by exact cutB_lt h

theorem split_eq (c : UInt8) (s : ByteArray) : split c s = cutA c s :: (if cutF c s = true then split c (cutB c s) else []) := by
  rw [split]
  by_cases h : cutF c s = true
  · rw [dif_pos h, if_pos h]
  · rw [dif_neg h, if_neg h]

/-- The identifiers that are still to come. -/
def rest : Bool → ByteArray → List ByteArray
  | true, c => split 46 c
  | false, _ => []
theorem rest_eq (m : Bool) (c : ByteArray) : rest m c = if m = true then split 46 c else [] := by cases m <;> rfl

theorem cut_calls (c : UInt8) (s : ByteArray) (hs : s.size ≤ 140737488351232) (w : World) :
    Calls Tryd.prog 30 #[.string s, .string ⟨#[c]⟩] w fun e w' => e = .returned (.tuple #[.string (cutA c s), .string (cutB c s), .bool (cutF c s)]) ∧ Drawn0 w w' := by
  have h1 := cutI_lt c s
  refine BFns.strings_Cut.calls s ⟨#[c]⟩ _ _ _ w ?_
  unfold BFns.strings_Cut.f BFns.stringslite_Cut.f BFns.stringslite_Index.f
  rw [if_pos (show (⟨#[c]⟩ : ByteArray).size = 1 from rfl)]
  simp only [Option.bind_some]
  rw [show Lib.indexByte s.data.toList ((⟨#[c]⟩ : ByteArray).data.toList.headD 0) = cutI c s from rfl]
  rw [show (((⟨#[c]⟩ : ByteArray).size : Nat) : Int) = 1 from rfl]
  by_cases h : cutI c s ≥ 0
  · have hw : wrap64 (cutI c s + 1) = cutI c s + 1 := by unfold wrap64; omega
    rw [if_pos h, if_pos h, if_pos (by omega), hw, if_pos (by omega), if_pos (by omega)]
    simp only [Option.bind_some]
    unfold cutA cutB cutF
    rw [if_pos h, if_pos h, decide_eq_true h]
  · rw [if_neg h]
    simp only [Option.bind_some]
    unfold cutA cutB cutF
    rw [if_neg h, if_neg h, decide_eq_false h]

theorem box_cell {W : World} {B : Nat} {t : TypeId} {v : Value} (h : W.heap[B]? = some (.cells #[v] t (0, 0))) : W.cell? ⟨B, 0, none⟩ = some v ∧ W.frozen? ⟨B, 0, none⟩ = false := by
  constructor <;> simp [World.cell?, World.frozen?, h]

theorem grown_set (W : World) (nd B : Nat) (v : Value) : W.grownBy ((W.drewN nd).setCell ⟨B, 0, none⟩ v) (some B) := by
  have h := grownBy_setCell' (W.drewN nd) B v
  exact ⟨h.os, h.tape, h.output, h.size, h.block⟩
theorem box_set {W : World} {B : Nat} {t : TypeId} {v : Value} (h : W.heap[B]? = some (.cells #[v] t (0, 0))) (nd : Nat) (v' : Value) : ((W.drewN nd).setCell ⟨B, 0, none⟩ v').heap[B]? = some (.cells #[v'] t (0, 0)) :=
  Boxed.set (W := W.drewN nd) v' h


def left (B : Nat) (m : Value) (W : World) : Nat := match m, W.cell? ⟨B, 0, none⟩ with
  | .bool true, some (.string c) => c.size + 1
  | _, _ => 0

set_option maxRecDepth 100000 in
set_option maxHeartbeats 2000000 in
theorem idents1 (n : Nat) (hn : 1 ≤ n) (B : Nat) (s : ByteArray) (hs : s.size ≤ 140737488351232) (w0 : World) (hB : w0.heap[B]? = some (.cells #[.string s] 9 (0, 0))) :
    SeqC Fence.wide n Tryd.prog 60 #[.pointer (some ⟨B, 0, none⟩)] (fun x : ByteArray => #[Value.string x]) (split 46 s) B w0 := by
  intro l J Jx W hW hJ hJx hY h0
  have hBW : W.heap[B]? = some (.cells #[.string s] 9 (0, 0)) := (hW.block B (Array.getElem?_eq_some_iff.1 hB).1).trans hB
  obtain ⟨hc, hf⟩ := box_cell hBW
  refine callsIn_of_wp Tryd.func60 rfl trivial ?_ rfl
  simp only [Tryd.ntmps60, List.size_toArray, List.length_cons, List.length_nil, Nat.reduceAdd, Nat.reduceSub, Array.replicate_succ, Array.replicate_zero, List.push_toArray, List.append_toArray, List.nil_append, List.cons_append]
  gi_wp2
  gi_loopw [3, 4] (fun m e wr => ∃ (pre : List ByteArray) (more : Bool) (cur : ByteArray), m = .bool more ∧ split 46 s = pre ++ rest more cur ∧ wr.heap[B]? = some (.cells #[.string cur] 9 (0, 0)) ∧ cur.size ≤ s.size ∧ J pre wr)
    (fun m _ wr => left B m wr)
  case atStart => exact ⟨[], true, s, rfl, rfl, hBW, Nat.le_refl _, h0⟩
  case round =>
    obtain ⟨pre, more, cur, rfl, hT, hbw, hcs, hJs⟩ := hrel
    obtain ⟨hcw, hfw⟩ := box_cell hbw
    have hblt : B < wr.heap.size := (Array.getElem?_eq_some_iff.1 hbw).1
    cases more with
    | false =>
      have HT := Aside0.mk hT
      clear hY hT hcw hfw hbw hc hf hBW
      gi_wp2
      go_end0
      exact ⟨⟨_, rfl⟩, .inl (by rw [HT.out]; simpa [rest] using hJs)⟩
    | true =>
      clear hc hf hBW
      have HY := Aside0.mk hY
      have HT := Aside0.mk hT
      clear hY hT
      gi_wp2_with (first | (refine ⟨trivial, ?_⟩; gi_at_call 30; refine (callsIn_wide.2 (cut_calls 46 cur (by omega) _)).mono ?_; rintro e w' ⟨rfl, ⟨nd, rfl⟩⟩))
      have hJ2 : J pre ((wr.drewN nd).setCell ⟨B, 0, none⟩ (.string (cutB 46 cur))) := hJ _ _ _ hJs (grown_set wr nd B _)
      have hb2 : ((wr.drewN nd).setCell ⟨B, 0, none⟩ (.string (cutB 46 cur))).heap[B]? = some (.cells #[.string (cutB 46 cur)] 9 (0, 0)) := box_set hbw nd _
      have hT' : split 46 s = (pre ++ [cutA 46 cur]) ++ rest (cutF 46 cur) (cutB 46 cur) := by
        rw [HT.out, rest, split_eq, List.append_assoc, rest_eq]; rfl
      obtain ⟨fn, tmps, assign, body, hy, hR⟩ := HY.out pre (cutA 46 cur) _ hJ2 ⟨_, hT'.symm⟩
      have HT' := Aside0.mk hT'
      clear hT'
      rw [hy]
      gi_wp2
      refine hR.mono ?_
      rintro e W3 (⟨rfl, hJ3, hk3⟩ | ⟨rfl, hJx3⟩)
      · have hb3 := hk3.trans hb2
        obtain ⟨hc3, hf3⟩ := box_cell hb3
        gi_wp2
        go_roundw
        case rel => exact ⟨pre ++ [cutA 46 cur], cutF 46 cur, cutB 46 cur, rfl, HT'.out, hb3, Nat.le_trans (cutB_le 46 cur) hcs, hJ3⟩
        case measure =>
          show left B (.bool (cutF 46 cur)) W3 < left B (.bool true) wr
          unfold left
          rw [hc3, hcw]
          cases hF : cutF 46 cur with
          | false => simp
          | true => have := cutB_lt hF; simp; omega
      · gi_wp2
        refine bodyPost_ret (results_none rfl _ _ _) rfl ?_
        exact ⟨⟨_, rfl⟩, .inr ⟨pre ++ [cutA 46 cur], ⟨_, HT'.out.symm⟩, hJx3⟩⟩

set_option maxHeartbeats 1000000 in
theorem idents_calls (s : ByteArray) (w : World) :
    Calls Tryd.prog 32 #[.string s] w fun e w' => e = .returned (.func (.func 60) #[] #[.pointer (some ⟨w.heap.size, 0, none⟩)]) ∧ w' = w.alloc (.cells #[.string s] 9) := by
  go_enter Tryd.func32, Tryd.ntmps32
  go_wp2
  go_ret
  exact ⟨rfl, rfl⟩

/-- A digit; a letter, a digit or '-'; a digit to a base of 16. -/
def digB (c : UInt8) : Bool := decide (48 ≤ c.toNat) && decide (c.toNat ≤ 57)
def signB (c : UInt8) : Bool := digB c || (decide (97 ≤ (c ||| 32).toNat) && decide ((c ||| 32).toNat ≤ 122)) || c == 45
/-- Each byte as wished, and at least one. -/
def everyB (p : UInt8 → Bool) (s : ByteArray) : Bool := (L s).all p && !(L s).isEmpty

theorem digit_f (c : UInt8) : BFns.semver_digit.f (c.toNat : Int) = some (digB c) := by
  unfold BFns.semver_digit.f digB
  by_cases h : 48 ≤ c.toNat
  · rw [if_pos (by omega), decide_eq_true h, Bool.true_and]
    congr 1
    by_cases h2 : c.toNat ≤ 57
    · rw [decide_eq_true h2, decide_eq_true (by omega)]
    · rw [decide_eq_false h2, decide_eq_false (by omega)]
  · rw [if_neg (by omega), decide_eq_false h, Bool.false_and]
theorem digit_calls (c : UInt8) (w : World) : Calls Tryd.prog 43 #[.int .u8 c.toNat] w fun e w' => e = .returned (.bool (digB c)) ∧ Drawn0 w w' :=
  BFns.semver_digit.calls _ _ w (digit_f c)
theorem bits_or (c : UInt8) : Go.bits .or .u8 (c.toNat : Int) 32 = ((c ||| 32).toNat : Int) := by
  have h : ∀ n : Fin 256, Go.bits .or .u8 ((n.val : Nat) : Int) 32 = ((UInt8.ofNat n.val ||| 32).toNat : Int) := by decide +kernel
  have := h ⟨c.toNat, c.toNat_lt⟩
  simpa using this
theorem int_eqb (c d : UInt8) : ((c.toNat : Int) == (d.toNat : Int)) = (c == d) := by
  by_cases h : c = d
  · subst h; simp
  · rw [beq_eq_false_iff_ne.2 h, beq_eq_false_iff_ne]
    intro e
    exact h (UInt8.toNat_inj.1 (by omega))
theorem sign_f (c : UInt8) : BFns.semver_sign.f (c.toNat : Int) = some (signB c) := by
  unfold BFns.semver_sign.f signB
  rw [digit_f, bits_or]
  simp only [Option.bind_some]
  have e45 : ((c.toNat : Int) == 45) = (c == 45) := int_eqb c 45
  cases digB c with
  | true => rw [if_pos rfl]; rfl
  | false =>
    rw [if_neg (by decide), e45]
    by_cases h : 97 ≤ (c ||| 32).toNat
    · rw [if_pos (by omega), decide_eq_true h]
      by_cases h2 : (c ||| 32).toNat ≤ 122
      · rw [if_pos (by omega), decide_eq_true h2]; rfl
      · rw [if_neg (by omega), decide_eq_false h2]; rfl
    · rw [if_neg (by omega), decide_eq_false h]; rfl
theorem sign_calls (c : UInt8) (w : World) : Calls Tryd.prog 35 #[.int .u8 c.toNat] w fun e w' => e = .returned (.bool (signB c)) ∧ Drawn0 w w' :=
  BFns.semver_sign.calls _ _ w (sign_f c)

set_option maxRecDepth 100000 in
set_option maxHeartbeats 2000000 in
theorem every_digit (s : ByteArray) (hs : s.size ≤ 140737488351232) (w : World) :
    Calls Tryd.prog 34 #[.string s, .func (.func 43) #[] #[]] w fun e w' => e = .returned (.bool (everyB digB s)) ∧ Drawn0 w w' := by
  go_enter Tryd.func34, Tryd.ntmps34
  go_wp2_with fail
  go_loopw [8] (fun vi wr => ∃ i m : Nat, vi = .int .i64 i ∧ wr = w.drewN m ∧ i ≤ s.size ∧ Aside0 ((L s).all digB = ((L s).drop i).all digB)) (fun vi _ => s.size - (intOf vi).toNat)
  case atStart => exact ⟨0, 0, rfl, rfl, Nat.zero_le _, ⟨by rw [List.drop_zero]⟩⟩
  case round =>
    obtain ⟨i, m, rfl, rfl, hi, HA⟩ := hrel
    by_cases hlt : i < s.size
    · have hd : (L s).drop i = s[i] :: (L s).drop (i + 1) := List.drop_eq_getElem_cons (by rw [L_length]; exact hlt)
      have HC := Aside0.mk (digit_calls s[i] (w.drewN m))
      cases hp : digB s[i] with
      | true =>
        have HP := Aside0.mk hp
        have HD := Aside0.mk hd
        clear hp hd
        go_wp2_with fail
        refine HC.out.mono ?_
        rintro e w' ⟨he, ⟨nd, rfl⟩⟩
        rw [HP.out] at he
        subst he
        go_wp2_with fail
        go_roundw
        case rel => exact ⟨i + 1, m + nd, by go_num, rfl, by omega, ⟨by rw [HA.out, HD.out, List.all_cons, HP.out, Bool.true_and]⟩⟩
        case measure => simp [intOf]; omega
      | false =>
        have hf : everyB digB s = false := by unfold everyB; rw [HA.out, hd, List.all_cons, hp, Bool.false_and, Bool.false_and]
        have HP := Aside0.mk hp
        have HF := Aside0.mk hf
        clear hp hd hf
        go_wp2_with fail
        refine HC.out.mono ?_
        rintro e w' ⟨he, ⟨nd, rfl⟩⟩
        rw [HP.out] at he
        subst he
        go_wp2_with fail
        go_ret
        exact ⟨by rw [HF.out]; rfl, ⟨m + nd, rfl⟩⟩
    · obtain rfl : i = s.size := by omega
      have hE : everyB digB s = (s.toList != []) := by
        unfold everyB
        rw [HA.out, List.drop_of_length_le (by rw [L_length]; exact Nat.le_refl _), toList_L]
        cases L s <;> rfl
      have HE := Aside0.mk hE
      clear hE
      go_wp2_with fail
      go_ret
      exact ⟨by rw [HE.out]; first | rfl | (cases s.toList <;> rfl), ⟨m, rfl⟩⟩

set_option maxRecDepth 100000 in
set_option maxHeartbeats 2000000 in
theorem every_sign (s : ByteArray) (hs : s.size ≤ 140737488351232) (w : World) :
    Calls Tryd.prog 34 #[.string s, .func (.func 35) #[] #[]] w fun e w' => e = .returned (.bool (everyB signB s)) ∧ Drawn0 w w' := by
  go_enter Tryd.func34, Tryd.ntmps34
  go_wp2_with fail
  go_loopw [8] (fun vi wr => ∃ i m : Nat, vi = .int .i64 i ∧ wr = w.drewN m ∧ i ≤ s.size ∧ Aside0 ((L s).all signB = ((L s).drop i).all signB)) (fun vi _ => s.size - (intOf vi).toNat)
  case atStart => exact ⟨0, 0, rfl, rfl, Nat.zero_le _, ⟨by rw [List.drop_zero]⟩⟩
  case round =>
    obtain ⟨i, m, rfl, rfl, hi, HA⟩ := hrel
    by_cases hlt : i < s.size
    · have hd : (L s).drop i = s[i] :: (L s).drop (i + 1) := List.drop_eq_getElem_cons (by rw [L_length]; exact hlt)
      have HC := Aside0.mk (sign_calls s[i] (w.drewN m))
      cases hp : signB s[i] with
      | true =>
        have HP := Aside0.mk hp
        have HD := Aside0.mk hd
        clear hp hd
        go_wp2_with fail
        refine HC.out.mono ?_
        rintro e w' ⟨he, ⟨nd, rfl⟩⟩
        rw [HP.out] at he
        subst he
        go_wp2_with fail
        go_roundw
        case rel => exact ⟨i + 1, m + nd, by go_num, rfl, by omega, ⟨by rw [HA.out, HD.out, List.all_cons, HP.out, Bool.true_and]⟩⟩
        case measure => simp [intOf]; omega
      | false =>
        have hf : everyB signB s = false := by unfold everyB; rw [HA.out, hd, List.all_cons, hp, Bool.false_and, Bool.false_and]
        have HP := Aside0.mk hp
        have HF := Aside0.mk hf
        clear hp hd hf
        go_wp2_with fail
        refine HC.out.mono ?_
        rintro e w' ⟨he, ⟨nd, rfl⟩⟩
        rw [HP.out] at he
        subst he
        go_wp2_with fail
        go_ret
        exact ⟨by rw [HF.out]; rfl, ⟨m + nd, rfl⟩⟩
    · obtain rfl : i = s.size := by omega
      have hE : everyB signB s = (s.toList != []) := by
        unfold everyB
        rw [HA.out, List.drop_of_length_le (by rw [L_length]; exact Nat.le_refl _), toList_L]
        cases L s <;> rfl
      have HE := Aside0.mk hE
      clear hE
      go_wp2_with fail
      go_ret
      exact ⟨by rw [HE.out]; first | rfl | (cases s.toList <;> rfl), ⟨m, rfl⟩⟩

/-- A nought ahead of other digits. -/
def noughtB (s : ByteArray) : Bool := decide (1 < s.size) && ((L s).head? == some 48) && everyB digB s

set_option maxRecDepth 100000 in
set_option maxHeartbeats 2000000 in
theorem nought_calls (s : ByteArray) (hs : s.size ≤ 140737488351232) (w : World) :
    Calls Tryd.prog 36 #[.string s] w fun e w' => e = .returned (.bool (noughtB s)) ∧ Drawn0 w w' := by
  have HC := Aside0.mk (every_digit s hs w)
  by_cases h1 : 1 < s.size
  · have hL : (L s).head? = some s[0] := by
      rw [List.head?_eq_getElem?, List.getElem?_eq_getElem (by rw [L_length]; omega)]; rfl
    by_cases h2 : s[0] = 48
    · have hN : noughtB s = everyB digB s := by unfold noughtB; rw [decide_eq_true h1, hL, h2]; simp
      have h2b : ((s[0].toNat : Int) == 48) = true := by rw [h2]; rfl
      have HN := Aside0.mk hN
      clear hL h2 hN
      go_enter Tryd.func36, Tryd.ntmps36
      go_wp2_with fail
      refine HC.out.mono ?_
      rintro e w' ⟨rfl, ⟨nd, rfl⟩⟩
      go_wp2_with fail
      go_ret
      exact ⟨by rw [HN.out]; rfl, ⟨nd, rfl⟩⟩
    · have hN : noughtB s = false := by unfold noughtB; rw [hL]; simp [h2]
      have h2b : ((s[0].toNat : Int) == 48) = false := by rw [beq_eq_false_iff_ne]; intro e; exact h2 (UInt8.toNat_inj.1 (by simpa using Int.ofNat_inj.1 e))
      have HN := Aside0.mk hN
      clear hL h2 hN
      go_enter Tryd.func36, Tryd.ntmps36
      go_wp2_with fail
      go_ret
      exact ⟨by rw [HN.out]; rfl, Drawn0.refl _⟩
  · have hN : noughtB s = false := by unfold noughtB; rw [decide_eq_false h1]; rfl
    have HN := Aside0.mk hN
    clear hN
    go_enter Tryd.func36, Tryd.ntmps36
    go_wp2_with fail
    go_ret
    exact ⟨by rw [HN.out]; rfl, Drawn0.refl _⟩

end Go.Proofs.YtaddonafdllciaaDoor.SemParts

