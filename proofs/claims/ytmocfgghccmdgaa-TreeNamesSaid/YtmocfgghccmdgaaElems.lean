/- The iterator of a path's elements, and the list of them. -/
import Derived.Test.YtmocfgghccmdgaaIter
import Derived.Test.YtmocfgghccmdgaaMba
import Derived.Outline
namespace Go.Proofs.Ytmocfgghccmdgaa.Elems
open Go.RowKit Go.Shelf Go.Proofs.Ytmocfgghccmdgaa.Iter Go.Proofs.YtmocfgghccmdgaaW.PrintWords
set_option linter.unusedVariables false
set_option linter.unusedSimpArgs false
attribute [local go_sem] Oper.semAt_some

def cutI (c : UInt8) (s : ByteArray) : Int := Lib.indexByte s.data.toList c
def cutF (c : UInt8) (s : ByteArray) : Bool := decide (0 ≤ cutI c s)
def cutA (c : UInt8) (s : ByteArray) : ByteArray := if 0 ≤ cutI c s then s.extract 0 (cutI c s).toNat else s
def cutB (c : UInt8) (s : ByteArray) : ByteArray := if 0 ≤ cutI c s then s.extract ((cutI c s) + 1).toNat s.size else ⟨#[]⟩

theorem cutI_lt (c : UInt8) (s : ByteArray) : cutI c s < s.size := by
  unfold cutI
  by_cases h : Lib.indexByte s.data.toList c = -1
  · rw [h]; omega
  · have h0 := Lib.indexByte_ge s.data.toList c
    obtain ⟨o, ho⟩ : ∃ o : Nat, Lib.indexByte s.data.toList c = o := ⟨(Lib.indexByte s.data.toList c).toNat, by omega⟩
    have := (Lib.indexByte_some ho).1
    have h2 : o < s.data.toList.length := by
      by_cases h3 : o < s.data.toList.length
      · exact h3
      · rw [List.getElem?_eq_none (by omega)] at this; cases this
    rw [ho]
    have := data_length s
    omega

theorem cutB_lt {c : UInt8} {s : ByteArray} (h : cutF c s = true) : (cutB c s).size < s.size := by
  have h0 : 0 ≤ cutI c s := of_decide_eq_true h
  have h1 := cutI_lt c s
  unfold cutB
  rw [if_pos h0, ByteArray.size_extract]
  omega

theorem cutB_le (c : UInt8) (s : ByteArray) : (cutB c s).size ≤ s.size := by
  unfold cutB
  split
  · rw [ByteArray.size_extract]; omega
  · exact Nat.zero_le _

def split (c : UInt8) (s : ByteArray) : List ByteArray := cutA c s :: (if h : cutF c s = true then split c (cutB c s) else [])
termination_by s.size
decreasing_by exact cutB_lt h

theorem split_eq (c : UInt8) (s : ByteArray) : split c s = cutA c s :: (if cutF c s = true then split c (cutB c s) else []) := by
  rw [split]
  by_cases h : cutF c s = true
  · rw [dif_pos h, if_pos h]
  · rw [dif_neg h, if_neg h]

def rest : Bool → ByteArray → List ByteArray
  | true, c => split 47 c
  | false, _ => []
theorem rest_eq (m : Bool) (c : ByteArray) : rest m c = if m = true then split 47 c else [] := by cases m <;> rfl

def elems (s : ByteArray) : List ByteArray := if s.toList = [] then [] else split 47 s

theorem cut_calls (c : UInt8) (s : ByteArray) (hs : s.size ≤ 140737488351232) (w : World) :
    Calls Try.prog 55 #[.string s, .string ⟨#[c]⟩] w fun e w' => e = .returned (.tuple #[.string (cutA c s), .string (cutB c s), .bool (cutF c s)]) ∧ Drawn0 w w' := by
  have h1 := cutI_lt c s
  refine BCut.strings_Cut.calls s ⟨#[c]⟩ _ _ _ w ?_
  unfold BCut.strings_Cut.f BCut.stringslite_Cut.f BCut.stringslite_Index.f
  rw [if_pos (show (⟨#[c]⟩ : ByteArray).size = 1 from rfl)]
  simp only [Option.bind_some]
  rw [show Lib.indexByte s.data.toList ((⟨#[c]⟩ : ByteArray).data.toList.headD 0) = cutI c s from rfl]
  rw [show (((⟨#[c]⟩ : ByteArray).size : Nat) : Int) = 1 from rfl]
  by_cases h : cutI c s ≥ 0
  · have hw : wrap64 (cutI c s + 1) = cutI c s + 1 := by unfold wrap64; omega
    rw [if_pos h, if_pos h, if_pos (by omega), hw, if_pos (by omega), if_pos (by omega)]
    simp only [Option.bind_some]
    unfold cutA cutB cutF
    rw [if_pos h, if_pos h, decide_eq_true h]
  · rw [if_neg h]
    simp only [Option.bind_some]
    unfold cutA cutB cutF
    rw [if_neg h, if_neg h, decide_eq_false h]

theorem box_cell {W : World} {B : Nat} {t : TypeId} {v : Value} (h : W.heap[B]? = some (.cells #[v] t (0, 0))) : W.cell? ⟨B, 0, none⟩ = some v ∧ W.frozen? ⟨B, 0, none⟩ = false := by
  constructor <;> simp [World.cell?, World.frozen?, h]

theorem grown_set (W : World) (nd B : Nat) (v : Value) : W.grownBy ((W.drewN nd).setCell ⟨B, 0, none⟩ v) (some B) := by
  have h := grownBy_setCell' (W.drewN nd) B v
  exact ⟨h.os, h.tape, h.output, h.size, h.block⟩
theorem box_set {W : World} {B : Nat} {t : TypeId} {v : Value} (h : W.heap[B]? = some (.cells #[v] t (0, 0))) (nd : Nat) (v' : Value) : ((W.drewN nd).setCell ⟨B, 0, none⟩ v').heap[B]? = some (.cells #[v'] t (0, 0)) :=
  Boxed.set (W := W.drewN nd) v' h

def left (B : Nat) (m : Value) (W : World) : Nat := match m, W.cell? ⟨B, 0, none⟩ with
  | .bool true, some (.string c) => c.size + 1
  | _, _ => 0

set_option maxRecDepth 100000 in
set_option maxHeartbeats 2000000 in
theorem elems1 (n : Nat) (hn : 1 ≤ n) (B : Nat) (s : ByteArray) (hs : s.size ≤ 140737488351232) (w0 : World) (hB : w0.heap[B]? = some (.cells #[.string s] 9 (0, 0))) :
    SeqC Fence.wide n Try.prog 98 #[.pointer (some ⟨B, 0, none⟩)] (fun x : ByteArray => #[Value.string x]) (elems s) B w0 := by
  intro l J Jx W hW hJ hJx hY h0
  have hBW : W.heap[B]? = some (.cells #[.string s] 9 (0, 0)) := (hW.block B (Array.getElem?_eq_some_iff.1 hB).1).trans hB
  obtain ⟨hc, hf⟩ := box_cell hBW
  refine callsIn_of_wp Try.func98 rfl trivial ?_ rfl
  simp only [Try.ntmps98, List.size_toArray, List.length_cons, List.length_nil, Nat.reduceAdd, Nat.reduceSub, Array.replicate_succ, Array.replicate_zero, List.push_toArray, List.append_toArray, List.nil_append, List.cons_append]
  gi_wp2
  gi_loopw [3, 4] (fun m e wr => ∃ (pre : List ByteArray) (more : Bool) (cur : ByteArray), m = .bool more ∧ elems s = pre ++ rest more cur ∧ wr.heap[B]? = some (.cells #[.string cur] 9 (0, 0)) ∧ cur.size ≤ s.size ∧ J pre wr)
    (fun m _ wr => left B m wr)
  case atStart =>
    refine ⟨[], !s.toList.isEmpty, s, rfl, ?_, hBW, Nat.le_refl _, h0⟩
    unfold elems
    by_cases h : s.toList = []
    · rw [if_pos h, h]; rfl
    · rw [if_neg h, show (!s.toList.isEmpty) = true from by simpa using h]; rfl
  case round =>
    obtain ⟨pre, more, cur, rfl, hT, hbw, hcs, hJs⟩ := hrel
    obtain ⟨hcw, hfw⟩ := box_cell hbw
    have hblt : B < wr.heap.size := (Array.getElem?_eq_some_iff.1 hbw).1
    cases more with
    | false =>
      have HT := Aside0.mk hT
      clear hY hT hcw hfw hbw hc hf hBW
      gi_wp2
      go_end0
      exact ⟨⟨_, rfl⟩, .inl (by rw [HT.out]; simpa [rest] using hJs)⟩
    | true =>
      clear hc hf hBW
      have HY := Aside0.mk hY
      have HT := Aside0.mk hT
      clear hY hT
      gi_wp2_with (first | (refine ⟨trivial, ?_⟩; gi_at_call 55; refine (callsIn_wide.2 (cut_calls 47 cur (by omega) _)).mono ?_; rintro e w' ⟨rfl, ⟨nd, rfl⟩⟩))
      have hJ2 : J pre ((wr.drewN nd).setCell ⟨B, 0, none⟩ (.string (cutB 47 cur))) := hJ _ _ _ hJs (grown_set wr nd B _)
      have hb2 : ((wr.drewN nd).setCell ⟨B, 0, none⟩ (.string (cutB 47 cur))).heap[B]? = some (.cells #[.string (cutB 47 cur)] 9 (0, 0)) := box_set hbw nd _
      have hT' : elems s = (pre ++ [cutA 47 cur]) ++ rest (cutF 47 cur) (cutB 47 cur) := by
        rw [HT.out, rest, split_eq, List.append_assoc, rest_eq]; rfl
      obtain ⟨fn, tmps, assign, body, hy, hR⟩ := HY.out pre (cutA 47 cur) _ hJ2 ⟨_, hT'.symm⟩
      have HT' := Aside0.mk hT'
      clear hT'
      rw [hy]
      gi_wp2
      refine hR.mono ?_
      rintro e W3 (⟨rfl, hJ3, hk3⟩ | ⟨rfl, hJx3⟩)
      · have hb3 := hk3.trans hb2
        obtain ⟨hc3, hf3⟩ := box_cell hb3
        gi_wp2
        go_roundw
        case rel => exact ⟨pre ++ [cutA 47 cur], cutF 47 cur, cutB 47 cur, rfl, HT'.out, hb3, Nat.le_trans (cutB_le 47 cur) hcs, hJ3⟩
        case measure =>
          show left B (.bool (cutF 47 cur)) W3 < left B (.bool true) wr
          unfold left
          rw [hc3, hcw]
          cases hF : cutF 47 cur with
          | false => simp
          | true => have := cutB_lt hF; simp; omega
      · gi_wp2
        refine bodyPost_ret (results_none rfl _ _ _) rfl ?_
        exact ⟨⟨_, rfl⟩, .inr ⟨pre ++ [cutA 47 cur], ⟨_, HT'.out.symm⟩, hJx3⟩⟩

set_option maxHeartbeats 1000000 in
theorem elems_calls (s : ByteArray) (w : World) :
    Calls Try.prog 82 #[.string s] w fun e w' => e = .returned (.func (.func 98) #[] #[.pointer (some ⟨w.heap.size, 0, none⟩)]) ∧ w' = w.alloc (.cells #[.string s] 9) := by
  go_enter Try.func82, Try.ntmps82
  go_wp2
  go_ret
  exact ⟨rfl, rfl⟩

theorem split_length (c : UInt8) (s : ByteArray) : (split c s).length ≤ s.size + 1 := by
  induction h : s.size using Nat.strongRecOn generalizing s with
  | _ k ih =>
    rw [split_eq]
    by_cases hF : cutF c s = true
    · have hl := cutB_lt hF
      have := ih (cutB c s).size (by omega) (cutB c s) rfl
      rw [if_pos hF, List.length_cons]
      omega
    · rw [if_neg hF]
      simp

theorem elems_length (s : ByteArray) : (elems s).length ≤ s.size + 1 := by
  unfold elems
  split
  · simp
  · exact split_length 47 s

theorem info9 : (Try.prog.info? 9).map (fun i => (i.zero, i.size, i.bytes)) = some (some (.string ⟨#[]⟩), 1, 16) := by kernel_rfl

theorem bears_rows (B Bs : Nat) (h : B < Bs) (w0 : World) (hw : B ≤ w0.heap.size) : Bears B (fun (pre : List ByteArray) W => (∃ v, Boxed W Bs 42 v ∧ W.ownsRow (B + 1) 9 1 v pre.length (pre.map Value.string)) ∧ Below B w0 W) := by
  rintro s A A' ⟨⟨v, hv, hr⟩, hB⟩ hg
  refine ⟨⟨v, hv.kept hg (by simp; omega), hr.kept hg ?_⟩, ⟨hg.os.trans hB.os, hg.tape.trans hB.tape, hg.output.trans hB.output, Nat.le_trans hB.size hg.size, fun k hk => ?_⟩⟩
  · rcases hr.2 with ⟨rfl, _⟩ | ⟨g, cap, cur, rfl, hb, _, _⟩
    · exact .inl rfl
    · refine .inr fun e' => ?_
      have : g = B := by simpa [Value.ownBlock] using e'
      omega
  · exact (hg.block k (by have := hB.size; omega) (by simp; omega)).trans (hB.block k hk)

set_option maxRecDepth 100000 in
set_option maxHeartbeats 2000000 in
theorem appendSeq_calls (B : Nat) (s : ByteArray) (hs : s.size ≤ 8796093022206) (w : World) (hB : w.heap[B]? = some (.cells #[.string s] 9 (0, 0))) :
    Calls Try.prog 103 #[.slice none 0 0, .func (.func 98) #[] #[.pointer (some ⟨B, 0, none⟩)]] w fun e w' => ∃ v, e = .returned v ∧ w'.ownsRow (B + 1) 9 1 v (elems s).length ((elems s).map Value.string) ∧ Below B w w' := by
  obtain ⟨i0, hi, hz0, hz1, hz2⟩ := info_parts info9
  have hBl : B < w.heap.size := (Array.getElem?_eq_some_iff.1 hB).1
  have hEl := elems_length s
  refine (callsIn_wide (n := 3)).1 ?_
  refine callsIn_of_wp_marks Try.func103 rfl trivial ?_ rfl
  simp only [Try.ntmps103, List.size_toArray, List.length_cons, List.length_nil, Nat.reduceAdd, Nat.reduceSub, Array.replicate_succ, Array.replicate_zero, List.push_toArray, List.append_toArray, List.nil_append, List.cons_append]
  gi_wp2
  have bO := Boxed.new w 42 (.slice none 0 0)
  have hB1 : (w.alloc (.cells #[.slice none 0 0] 42)).heap[B]? = some (.cells #[.string s] 9 (0, 0)) := blk_alloc hB _
  have hB0 : Below B w (w.alloc (.cells #[.slice none 0 0] 42)) := (Below.refl B w).alloc (Nat.le_of_lt hBl) _
  refine wpIn_rangeFunc_ownC rfl (by omega) (gf := 98) (lb := #[.pointer (some ⟨B, 0, none⟩)]) rfl trivial (enters_of Try.func98 (by kernel_rfl) rfl)
    (elems1 (3 - 1) (by omega) B s (by omega) _ hB1) (by simp; omega) (Below.refl _ _) (fun _ => rfl)
    (fun pre W => (∃ v, Boxed W w.heap.size 42 v ∧ W.ownsRow (B + 1) 9 1 v pre.length (pre.map Value.string)) ∧ Below B w W)
    (fun _ _ _ => False)
    (OwnFrom.and (fun s' A A' row hs' hg hr => by
      obtain ⟨v, hv, ho, _⟩ := (holdsRow_own (B + 1) w.heap.size 42 9 1 (fun pre : List ByteArray => pre.length) (fun pre => pre.map Value.string) (fun _ _ => True)) s' A A' row (by obtain ⟨v, h1, h2⟩ := hs'; exact ⟨v, h1, h2, trivial⟩) hg (fun r e => (hr r e).2)
      exact ⟨v, hv, ho⟩) (ownFrom_below (Nat.le_of_lt hBl) (by simp; omega)))
    (fun _ _ _ _ _ hs' _ _ => hs')
    (bears_rows B w.heap.size hBl w (Nat.le_of_lt hBl))
    (fun _ _ _ _ hs' _ => hs')
    ⟨⟨_, bO, World.ownsRow_nil _ _ _ _⟩, hB0⟩
    (fun x => { tmps := #[.slice none 0 0, .func (.func 98) #[] #[.pointer (some ⟨B, 0, none⟩)], .pointer (some ⟨w.heap.size, 0, none⟩), undef, .slice none 0 0, .string x, .func (.func 98) #[] #[.pointer (some ⟨B, 0, none⟩)], .string x, undef, undef, undef, undef, undef], defers := [] }) ?assign ?body ?done ?stop
  case assign =>
    intro l x W K hK
    gi_wp2
    exact hK
  case body =>
    rintro l pre x W ⟨⟨v, hv, hrow⟩, hBw⟩ hlt
    have hc := hv.cell
    have hpl : pre.length + 1 ≤ s.size + 1 := by
      obtain ⟨q, hq⟩ := hlt
      have := congrArg List.length hq
      simp at this
      omega
    have hW1 : B + 1 ≤ W.heap.size := by have := hBw.size; omega
    gi_wp2_with (gi_at_builtin; refine wpListIn_append_own _ rfl _ _ 42 rfl (B + 1) 9 i0 (.string ⟨#[]⟩) 1 16 Try.underlying42 hi hz0 hz1 hz2 rfl (by decide) _ _ _ rfl (hrow.alloc _) ⟨W.heap.size, 0, none⟩ 1 1 [.string x] rfl rfl (cell_one_new _ _ _) (by simp [Value.oneCell']) (by unfold maxLen; omega) (by omega) (by simp; omega) ?_; intro v' w1 hown' hgrow _; obtain ⟨g', cap', rfl⟩ := ownsRow_succ hown'; obtain ⟨hv1, hv2, hr2, hk2, hb2⟩ := hv.appended (by decide) hrow hW1 (by omega) hown' hgrow; have hc1 := hv1.cell; have hf1 := hv1.frozen)
    exact ⟨hk2, hb2.block B (by omega), ⟨_, hv2, by simpa using hr2⟩, hBw.trans (hb2.mono (by omega))⟩
  case done =>
    rintro D W hD ⟨⟨v, hv, hrow⟩, hBw⟩ hK
    have hc := hv.cell
    gi_wp2
    refine ⟨by simp, .inl ⟨_, _, rfl, run_takeDeferred hK, ?_⟩⟩
    exact ⟨_, results_tmp rfl _ _ _, v, rfl, ownsRow_putObj hrow _ hK rfl, hBw.trans (belowK_b (w := w) (Nat.le_of_lt hBl) W D _ _ (by simp at hD; omega) hK rfl rfl)⟩
  case stop =>
    rintro D c pre W _ _ h _
    exact h.elim

theorem collect_calls (B : Nat) (s : ByteArray) (hs : s.size ≤ 8796093022206) (w : World) (hB : w.heap[B]? = some (.cells #[.string s] 9 (0, 0))) :
    Calls Try.prog 88 #[.func (.func 98) #[] #[.pointer (some ⟨B, 0, none⟩)]] w fun e w' => ∃ v, e = .returned v ∧ w'.ownsRow (B + 1) 9 1 v (elems s).length ((elems s).map Value.string) ∧ Below B w w' := by
  go_enter Try.func88, Try.ntmps88
  go_wp2_with (first | (go_at_call 103; refine (appendSeq_calls B s hs _ hB).mono ?_; rintro e w' ⟨v, rfl, ho, hb⟩))
  go_ret
  exact ⟨v, rfl, ho, hb⟩

theorem reps_strings (l : List ByteArray) : Reps (fun (x : ByteArray) cs => cs = [Value.string x]) 1 l (l.map Value.string) := by
  refine ⟨by simp, fun j p h => ?_⟩
  have hj : j < l.length := by
    by_cases h3 : j < l.length
    · exact h3
    · rw [List.getElem?_eq_none (by omega)] at h; cases h
  have hp : l[j] = p := (List.getElem?_eq_some_iff.1 h).2
  have e : (l.map Value.string).drop j = Value.string p :: (l.map Value.string).drop (j + 1) := by
    rw [List.drop_eq_getElem_cons (by simpa using hj)]
    simp [hp]
  simp [e]

theorem R_of_own {W : World} {base : Nat} {v : Value} {l : List ByteArray} (h : W.ownsRow base 9 1 v l.length (l.map Value.string)) : Kd.R Kd.string 9 W base (fun _ => True) v l :=
  ⟨fun _ _ => trivial, _, h, reps_strings l⟩

theorem Elems_calls (s : ByteArray) (hs : s.size ≤ 8796093022206) (w : World) :
    Calls Try.prog 72 #[.string s] w fun e w' => ∃ v, e = .returned v ∧ Kd.R Kd.string 9 w' w.heap.size (fun _ => True) v (elems s) ∧ Below w.heap.size w w' := by
  go_enter Try.func72, Try.ntmps72
  go_wp2_with (first | (go_at_call 82; refine (elems_calls s _).mono ?_; rintro e w' ⟨rfl, rfl⟩) | (go_at_call 88; refine (collect_calls w.heap.size s hs _ (blk_new _ _)).mono ?_; rintro e w' ⟨v, rfl, ho, hb⟩))
  go_ret
  exact ⟨v, rfl, Kd.R_lower (R_of_own ho) (Nat.le_succ _), ((Below.refl _ w).alloc (Nat.le_refl _) _).trans hb⟩

end Go.Proofs.Ytmocfgghccmdgaa.Elems
