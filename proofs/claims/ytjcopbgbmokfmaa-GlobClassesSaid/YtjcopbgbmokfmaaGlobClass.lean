/- A pattern's reader: a class. The walk. -/
import Derived.Test.YtjcopbgbmokfmaaGlobNext
import Derived.Deep.DeepCutAuto
namespace Go.Proofs.Ytjcopbgbmokfmaa.GlobClass
open Go.RowKit Go.Shelf Go.Proofs.Ytjcopbgbmokfmaa.GlobLib Go.Proofs.Ytjcopbgbmokfmaa.BytesLib Go.Proofs.Ytjcopbgbmokfmaa.GlobMatch Go.Proofs.Ytjcopbgbmokfmaa.GlobNext Go.Proofs.YtjcopbgbmokfmaaW.PrintWords
set_option linter.unusedVariables false
set_option linter.unusedSimpArgs false
attribute [local go_sem] Oper.semAt_some

/-- The bytes lo to hi are in, too. -/
def setR (tab : Nat → Bool) (lo hi : Nat) : Nat → Bool := fun j => tab j || (decide (lo ≤ j) && decide (j ≤ hi))

/-- The ranges of a class, up to its bracket. -/
def rng : Nat → Bool → (Nat → Bool) → List UInt8 → Option ((Nat → Bool) × List UInt8)
  | 0, _, _, _ => none
  | n + 1, many, tab, l =>
    if many = true ∧ l.head? = some 93 then some (tab, l.tail) else
    match nextB [45, 93] l with
    | none => none
    | some (lo, l1) =>
      if l1.head? = some 45 then
        match nextB [45, 93] l1.tail with
        | none => none
        | some (hi, l2) => if hi < lo then none else rng n true (setR tab lo.toNat hi.toNat) l2
      else rng n true (setR tab lo.toNat lo.toNat) l1

/-- A class behind its bracket: the piece, and what is left. -/
def classL (l : List UInt8) : Option (Pc × List UInt8) :=
  match rng ((if l.head? = some 94 then l.tail else l).length + 1) false (fun _ => false) (if l.head? = some 94 then l.tail else l) with
  | none => none
  | some (tab, l') => some (.cls tab (decide (l.head? = some 94)), l')

theorem cut_head (t : ByteArray) (c : UInt8) (w : World) :
    Calls Try.prog 30 #[.string t, .string ⟨#[c]⟩] w fun e w' => e = .returned (.tuple #[.string (if (L t).head? = some c then t.extract 1 t.size else t), .bool (decide ((L t).head? = some c))]) ∧ Drawn0 w w' := by
  refine BFns.strings_CutPrefix.calls t ⟨#[c]⟩ _ _ w ?_
  unfold BFns.strings_CutPrefix.f BFns.stringslite_CutPrefix.f BFns.stringslite_HasPrefix.f
  have e1 : ((⟨#[c]⟩ : ByteArray).size : Int) = 1 := rfl
  have e2 : ((⟨#[c]⟩ : ByteArray)).toList = [c] := (toList_L _).trans rfl
  rw [e1, e2]
  have hl := L_length t
  by_cases h : (t.size : Int) ≥ 1
  · have e3 : ((t.extract 0 (1 : Int).toNat).toList == [c]) = decide ((L t).head? = some c) := by
      rw [toList_L, L_head, show (1 : Int).toNat = 1 from rfl]
      cases hL : L t with
      | nil => rw [hL] at hl; simp at hl; omega
      | cons x l => simp; rfl
    rw [if_pos h, if_pos (by omega), if_pos (by omega), e3]
    by_cases hh : (L t).head? = some c
    · rw [decide_eq_true hh, if_pos hh]; simp only [Option.bind_some, if_true]; rw [if_pos (by omega), if_pos (by omega)]; rfl
    · rw [decide_eq_false hh, if_neg hh]; rfl
  · have hh : ¬ (L t).head? = some c := by
      intro hh
      cases hL : L t with
      | nil => rw [hL] at hh; cases hh
      | cons x l => rw [hL] at hl; simp at hl; omega
    rw [if_neg h]
    simp [hh]

def tabC (tab : Nat → Bool) : Array Value := Array.ofFn (n := 256) fun j => .bool (tab j)
theorem tab_zero : Try.zeroCells73 = tabC (fun _ => false) := by kernel_rfl
theorem tab_at (tab : Nat → Bool) (j : Nat) (h : j < 256) : (tabC tab)[j]? = some (.bool (tab j)) := by
  unfold tabC
  rw [Array.getElem?_ofFn, dif_pos h]
theorem tab_set (tab : Nat → Bool) (c : Nat) (h : c < 256) : (tabC tab).setIfInBounds c (.bool true) = tabC (fun j => tab j || j == c) := by
  apply Array.ext_getElem?
  intro j
  have hsz : ∀ tab, (tabC tab).size = 256 := fun tab => by simp [tabC]
  rw [Array.getElem?_setIfInBounds, hsz]
  by_cases hj : j < 256
  · rw [tab_at _ j hj, tab_at _ j hj]
    by_cases e : c = j
    · subst e; simp [h]
    · have e2 : (j == c) = false := beq_eq_false_iff_ne.2 (fun x => e x.symm)
      rw [if_neg e, e2, Bool.or_false]
  · rw [if_neg (by omega), Array.getElem?_eq_none (by rw [hsz]; omega), Array.getElem?_eq_none (by rw [hsz]; omega)]

/-- The world within a class: the reader's word, the table, the sign. -/
def In (w : World) (R : Nat) (no : Bool) (tab : Nat → Bool) (t : ByteArray) (W : World) : Prop :=
  Boxed W R 43 (.string t) ∧ W.heap[w.heap.size]? = some (.cells (tabC tab) 73 (0, 0)) ∧ Boxed W (w.heap.size + 1) 4 (.bool no) ∧ w.grownBy W (some R) ∧ W.heap.size = w.heap.size + 2

theorem In.cell {w W : World} {R : Nat} {no : Bool} {tab : Nat → Bool} {t : ByteArray} (h : In w R no tab t W) (j : Nat) (hj : j < 256) : W.cell? ⟨w.heap.size, j, none⟩ = some (.bool (tab j)) := by
  simp [World.cell?, h.2.1, tab_at tab j hj]
theorem In.frozen {w W : World} {R : Nat} {no : Bool} {tab : Nat → Bool} {t : ByteArray} (h : In w R no tab t W) (j : Nat) : W.frozen? ⟨w.heap.size, j, none⟩ = false := by
  simp [World.frozen?, h.2.1]

theorem In.turn {w W W' : World} {R : Nat} {no : Bool} {tab : Nat → Bool} {t t2 : ByteArray} (h : In w R no tab t W) (hR : R < w.heap.size) (hT : Turned R W W' t2) : In w R no tab t2 W' := by
  obtain ⟨h1, h2, h3, h4, h5⟩ := h
  obtain ⟨g1, g2, g3⟩ := hT
  exact ⟨g1, (g2.block _ (by omega) (by simp; omega)).trans h2, h3.kept g2 (by simp; omega), h4.trans g2, g3.trans h5⟩
theorem turned_set {W : World} {R : Nat} {t : ByteArray} (h : Boxed W R 43 (.string t)) (nd : Nat) (t2 : ByteArray) : Turned R W ((W.drewN nd).setCell ⟨R, 0, none⟩ (.string t2)) t2 := by
  have g0 : W.grownBy (W.drewN nd) (some R) := ⟨rfl, rfl, rfl, Nat.le_refl _, fun _ _ _ => rfl⟩
  exact ⟨Boxed.set (W := W.drewN nd) _ h, g0.trans (grownBy_setCell' (W.drewN nd) R _), by simp⟩

theorem grown_drew (W : World) (n : Nat) (r : Option Nat) : W.grownBy (W.drewN n) r := ⟨rfl, rfl, rfl, Nat.le_refl _, fun _ _ _ => rfl⟩

theorem nextB_len {b l : List UInt8} {c : UInt8} {l' : List UInt8} (h : nextB b l = some (c, l')) : l'.length < l.length := by
  cases l with
  | nil => cases h
  | cons x l =>
    have h : (if x ∈ b then none else if x = 92 then (match l with | [] => none | d :: l' => some (d, l')) else some (x, l)) = some (c, l') := h
    by_cases h1 : x ∈ b
    · rw [if_pos h1] at h; cases h
    · rw [if_neg h1] at h
      by_cases h2 : x = 92
      · rw [if_pos h2] at h
        cases l with
        | nil => cases h
        | cons d l => cases h; simp; omega
      · rw [if_neg h2] at h; cases h; simp

/-- The bytes lo to k (without k) are in, too. -/
def setLt (tab : Nat → Bool) (lo k : Nat) : Nat → Bool := fun j => tab j || (decide (lo ≤ j) && decide (j < k))
theorem setLt_start (tab : Nat → Bool) (lo : Nat) : setLt tab lo lo = tab := by
  funext j
  unfold setLt
  by_cases h1 : lo ≤ j
  · rw [decide_eq_false (show ¬ j < lo by omega)]; simp
  · rw [decide_eq_false h1]; simp
theorem setLt_end (tab : Nat → Bool) (lo hi : Nat) : setLt tab lo (hi + 1) = setR tab lo hi := by
  funext j
  unfold setLt setR
  by_cases h1 : j ≤ hi
  · rw [decide_eq_true h1, decide_eq_true (show j < hi + 1 by omega)]
  · rw [decide_eq_false h1, decide_eq_false (show ¬ j < hi + 1 by omega)]
theorem setLt_step (tab : Nat → Bool) (lo k : Nat) (h : lo ≤ k) : (fun j => setLt tab lo k j || j == k) = setLt tab lo (k + 1) := by
  funext j
  unfold setLt
  by_cases h1 : j = k
  · subst h1
    rw [decide_eq_true h, decide_eq_true (show j < j + 1 by omega)]; simp
  · rw [show (j == k) = false from beq_eq_false_iff_ne.2 h1]
    by_cases h2 : j < k
    · rw [decide_eq_true h2, decide_eq_true (show j < k + 1 by omega)]; simp
    · rw [decide_eq_false h2, decide_eq_false (show ¬ j < k + 1 by omega)]; simp

theorem In.put {w W : World} {R : Nat} {no : Bool} {tab : Nat → Bool} {t : ByteArray} (h : In w R no tab t W) (hR : R < w.heap.size) (k : Nat) (hk : k < 256) :
    In w R no (fun j => tab j || j == k) t (W.setCell ⟨w.heap.size, k, none⟩ (.bool true)) := by
  obtain ⟨h1, h2, h3, h4, h5⟩ := h
  refine ⟨?_, ?_, ?_, ?_, ?_⟩
  · exact (Below.heap_setCell W ⟨w.heap.size, k, none⟩ _ R (by simp; omega)).trans h1
  · rw [← tab_set tab k hk]
    have hs : w.heap.size < W.heap.size := by omega
    have e : (W.heap[w.heap.size]'hs) = .cells (tabC tab) 73 (0, 0) := by have := h2; rw [Array.getElem?_eq_getElem hs] at this; exact Option.some.inj this
    rw [Array.getElem?_eq_getElem (by simpa using hs)]
    simp [World.setCell, Array.getElem_modify, e]
  · exact (Below.heap_setCell W ⟨w.heap.size, k, none⟩ _ (w.heap.size + 1) (by simp)).trans h3
  · refine ⟨h4.os, h4.tape, h4.output, by simpa using h4.size, fun j hj hr => ?_⟩
    exact (Below.heap_setCell W ⟨w.heap.size, k, none⟩ _ j (by simp; omega)).trans (h4.block j hj hr)
  · simpa using h5

/-- The rest of a range behind its first byte. -/
def range2 (lo : UInt8) (l1 : List UInt8) : Option (UInt8 × List UInt8) := if l1.head? = some 45 then nextB [45, 93] l1.tail else some (lo, l1)
/-- What the reader has then: the byte at the end of the range, and what is left. -/
def Got (R : Nat) (w wx : World) (vhi vis : Value) : Option (UInt8 × List UInt8) → Prop
  | none => (vhi = .int .u8 0 ∧ vis = .bool false) ∧ ∃ tx, Turned R w wx tx
  | some (hi, l2) => (vhi = .int .u8 hi.toNat ∧ vis = .bool true) ∧ ∃ tx, Turned R w wx tx ∧ L tx = l2
theorem Turned.trans {R : Nat} {w w1 w2 : World} {t1 t2 : ByteArray} (h1 : Turned R w w1 t1) (h2 : Turned R w1 w2 t2) : Turned R w w2 t2 := ⟨h2.1, h1.2.1.trans h2.2.1, h2.2.2.trans h1.2.2⟩
theorem Turned.drew {R : Nat} {w w1 : World} {t1 : ByteArray} (n : Nat) (h1 : Turned R w w1 t1) : Turned R w (w1.drewN n) t1 := ⟨h1.1, h1.2.1.trans (grown_drew _ _ _), h1.2.2⟩
theorem Turned.drew0 {R : Nat} {w w1 : World} {t1 : ByteArray} {n : Nat} (h1 : Turned R (w.drewN n) w1 t1) : Turned R w w1 t1 := ⟨h1.1, (grown_drew _ _ _).trans h1.2.1, h1.2.2⟩

theorem cut_any (t : ByteArray) (c : UInt8) : ∃ (cd : Bool) (td : ByteArray), ∀ W, Calls Try.prog 30 #[.string t, .string ⟨#[c]⟩] W fun e w' => e = .returned (.tuple #[.string td, .bool cd]) ∧ Drawn0 W w' := ⟨_, _, cut_head t c⟩
theorem cut_yes {t : ByteArray} {c : UInt8} (h : (L t).head? = some c) (W : World) : Calls Try.prog 30 #[.string t, .string ⟨#[c]⟩] W fun e w' => e = .returned (.tuple #[.string (t.extract 1 t.size), .bool true]) ∧ Drawn0 W w' := by
  have := cut_head t c W
  rw [if_pos h, decide_eq_true h] at this
  exact this
theorem cut_no {t : ByteArray} {c : UInt8} (h : ¬ (L t).head? = some c) (W : World) : Calls Try.prog 30 #[.string t, .string ⟨#[c]⟩] W fun e w' => e = .returned (.tuple #[.string t, .bool false]) ∧ Drawn0 W w' := by
  have := cut_head t c W
  rw [if_neg h, decide_eq_false h] at this
  exact this

/-- What a class tells. -/
def ClassPost (w : World) (R : Nat) (t : ByteArray) (e : Ending) (w' : World) : Prop :=
  ∃ t2, match classL (L t) with
    | none => e = .returned (.tuple #[.nilFunc, .bool false]) ∧ Boxed w' R 43 (.string t2) ∧ w.grownBy w' (some R)
    | some (p, l) => ∃ tab no, p = .cls tab no ∧ e = .returned (.tuple #[.func (.func 31) #[] #[.pointer (some ⟨w.heap.size, 0, none⟩), .pointer (some ⟨w.heap.size + 1, 0, none⟩)], .bool true]) ∧ In w R no tab t2 w' ∧ L t2 = l

set_option maxRecDepth 100000 in
set_option maxHeartbeats 8000000 in
theorem class_calls (t : ByteArray) (R : Nat) (w : World) (hR : Boxed w R 43 (.string t)) (ht : t.size ≤ 140737488351232) :
    Calls Try.prog 22 #[.pointer (some ⟨R, 0, none⟩)] w (ClassPost w R t) := by
  have hRl := hR.lt
  have hRa := hR.alloc (.cells Try.zeroCells73 73)
  obtain ⟨wa, hwa⟩ : ∃ wa, w.alloc (.cells Try.zeroCells73 73) = wa := ⟨_, rfl⟩
  have hsa : wa.heap.size = w.heap.size + 1 := by rw [← hwa]; simp
  have hI : wa.heap[w.heap.size]? = some (.cells Try.zeroCells73 73 (0, 0)) := by rw [← hwa]; exact World.alloc_heap_new _ _
  rw [hwa] at hRa
  have hc := hRa.cell
  obtain ⟨no, hno⟩ : ∃ no, decide ((L t).head? = some 94) = no := ⟨_, rfl⟩
  obtain ⟨t0, ht0⟩ : ∃ t0, (if (L t).head? = some 94 then t.extract 1 t.size else t) = t0 := ⟨_, rfl⟩
  have hcl : classL (L t) = match rng (t0.size + 1) false (fun _ => false) (L t0) with
      | none => none
      | some (tab, l') => some (.cls tab no, l') := by
    have hL0 : (if (L t).head? = some 94 then (L t).tail else L t) = L t0 := by
      rw [← ht0]
      by_cases h : (L t).head? = some 94
      · rw [if_pos h, if_pos h, L_tail, List.drop_one]
      · rw [if_neg h, if_neg h]
    unfold classL
    rw [hL0, L_length, hno]
  have ht0s : t0.size ≤ 140737488351232 := by
    rw [← ht0]
    split
    · rw [ByteArray.size_extract]; omega
    · exact ht
  have hcut := cut_head t 94
  rw [hno, ht0] at hcut
  have hN : ∀ nd, Boxed ((wa.drewN nd).alloc (.cells #[.bool false] 4)) (w.heap.size + 1) 4 (.bool false) := fun nd => by
    have := Boxed.new (wa.drewN nd) 4 (.bool false)
    rwa [show (wa.drewN nd).heap.size = w.heap.size + 1 from hsa] at this
  have hR3 : ∀ nd, Boxed ((wa.drewN nd).alloc (.cells #[.bool no] 4)) R 43 (.string t) := fun nd => Boxed.alloc (W := wa.drewN nd) hRa _
  have hcN := fun nd => (hN nd).cell
  have hfN := fun nd => (hN nd).frozen
  have hc3 := fun nd => (hR3 nd).cell
  have hf3 := fun nd => (hR3 nd).frozen
  go_enter Try.func22, Try.ntmps22
  go_wp2_with (first | (go_at_call 30; refine (hcut _).mono ?_; rintro e w' ⟨rfl, ⟨nd, rfl⟩⟩; have hcN' := hcN nd; have hfN' := hfN nd; have hc3' := hc3 nd; have hf3' := hf3 nd) | (rw [hwa]))
  have hIn0 : In w R no (fun _ => false) t0 (((wa.drewN nd).setCell ⟨R, 0, none⟩ (.string t0)).alloc (.cells #[.bool no] 4)) := by
    have g1 : w.grownBy wa (some R) := by rw [← hwa]; exact World.grownBy_alloc w _ _
    have g2 : wa.grownBy ((wa.drewN nd).setCell ⟨R, 0, none⟩ (.string t0)) (some R) := by
      have g0 : wa.grownBy (wa.drewN nd) (some R) := ⟨rfl, rfl, rfl, Nat.le_refl _, fun _ _ _ => rfl⟩
      exact g0.trans (grownBy_setCell' (wa.drewN nd) R (.string t0))
    refine ⟨?_, ?_, ?_, ?_, ?_⟩
    · exact (Boxed.set (W := wa.drewN nd) _ hRa).alloc _
    · have h1 : ((wa.drewN nd).setCell ⟨R, 0, none⟩ (.string t0)).heap[w.heap.size]? = some (.cells Try.zeroCells73 73 (0, 0)) := (Below.heap_setCell _ _ _ _ (by simp; omega)).trans hI
      rw [← tab_zero]
      exact (Below.heap_alloc _ _ _ (Array.getElem?_eq_some_iff.1 h1).1).trans h1
    · have := Boxed.new ((wa.drewN nd).setCell ⟨R, 0, none⟩ (.string t0)) 4 (.bool no)
      rwa [show ((wa.drewN nd).setCell ⟨R, 0, none⟩ (.string t0)).heap.size = w.heap.size + 1 from by simp [hsa]] at this
    · exact (g1.trans g2).trans (World.grownBy_alloc _ _ _)
    · simp [hsa]
  clear hcN hfN hc3 hf3 hcN' hfN' hc3' hf3' hN hR3 hcut hI hRa hc
  go_loopw [7] (fun vm wr => ∃ (m n : Nat) (tab : Nat → Bool) (t' : ByteArray), vm = .int .i64 m ∧ m + t'.size ≤ t0.size ∧ t'.size < n ∧ Aside0 (In w R no tab t' wr) ∧ Aside0 (rng (t0.size + 1) false (fun _ => false) (L t0) = rng n (decide (0 < m)) tab (L t'))) (fun vm _ => t0.size - (intOf vm).toNat)
  case atStart => exact ⟨0, t0.size + 1, _, t0, rfl, by omega, by omega, ⟨hIn0⟩, ⟨rfl⟩⟩
  case round =>
    obtain ⟨m, n, tab, t', rfl, hmt, hn, HI, HE⟩ := hrel
    obtain ⟨n, rfl⟩ : ∃ n', n = n' + 1 := ⟨n - 1, by omega⟩
    have hc := HI.out.1.cell
    have hf := HI.out.1.frozen
    have hcutA := cut_head t' 93
    by_cases h93 : (L t').head? = some 93 ∧ 0 < m
    · rw [decide_eq_true h93.1, if_pos h93.1] at hcutA
      have hm : (m : Int) > 0 := by omega
      have HT := Aside0.mk h93.1
      clear h93
      go_wp2_with (first | (go_at_call 30; refine (hcutA _).mono ?_; rintro e w' ⟨rfl, ⟨nd2, rfl⟩⟩))
      go_ret2
      have e1 : rng (n + 1) (decide (0 < m)) tab (L t') = some (tab, (L t').tail) := by
        unfold rng
        rw [if_pos ⟨decide_eq_true (by omega), HT.out⟩]
      have e2 : classL (L t) = some (.cls tab no, (L t').tail) := by rw [hcl, HE.out, e1]
      refine ⟨t'.extract 1 t'.size, ?_⟩
      rw [e2]
      exact ⟨tab, no, rfl, rfl, HI.out.turn hRl (turned_set HI.out.1 nd2 _), by rw [L_tail, List.drop_one]⟩
    · have hbr : ∃ (b : Bool) (t1 : ByteArray), (∀ W, Calls Try.prog 30 #[.string t', .string ⟨#[93]⟩] W fun e w' => e = .returned (.tuple #[.string t1, .bool b]) ∧ Drawn0 W w') ∧ (b && decide ((m : Int) > 0)) = false := by
        refine ⟨_, _, hcutA, ?_⟩
        by_cases h1 : (L t').head? = some 93
        · rw [decide_eq_true h1, Bool.true_and]
          exact decide_eq_false (fun h => h93 ⟨h1, by omega⟩)
        · rw [decide_eq_false h1]; rfl
      obtain ⟨b, t1, hcutB, hbm⟩ := hbr
      clear hcutA
      have hnx := next_calls ⟨#[45, 93]⟩ t' R
      have hbar : L (⟨#[45, 93]⟩ : ByteArray) = [45, 93] := rfl
      rw [hbar] at hnx
      have hrw : rng (n + 1) (decide (0 < m)) tab (L t') = (match nextB [45, 93] (L t') with
          | none => none
          | some (lo, l1) =>
            if l1.head? = some 45 then
              match nextB [45, 93] l1.tail with
              | none => none
              | some (hi, l2) => if hi < lo then none else rng n true (setR tab lo.toNat hi.toNat) l2
            else rng n true (setR tab lo.toNat lo.toNat) l1) := by
        conv => lhs; unfold rng
        rw [if_neg (fun h => h93 ⟨h.2, of_decide_eq_true h.1⟩)]
      cases hN : nextB [45, 93] (L t') with
      | none =>
        rw [hN] at hnx hrw
        have e2 : classL (L t) = none := by rw [hcl, HE.out, hrw]
        have H2 := Aside0.mk e2
        have HB := HI.out.1
        have HH := Aside0.mk hcutB
        have HM := Aside0.mk hbm
        have HX := Aside0.mk hnx
        clear e2 hrw hN hcl h93 hbar hno ht0 hcutB hbm hnx
        go_upto_region 7 with fail
        refine (HH.out _).mono ?_
        rintro e w' ⟨rfl, ⟨nd2, rfl⟩⟩
        go_upto_region 7 with fail
        go_cut [42] (fun v wx => v = .bool false ∧ wx = wr.drewN nd2)
        case first =>
          cases b with
          | true =>
            have hbm : decide (0 < m) = false := by have := HM.out; simpa using this
            have HM2 := Aside0.mk hbm
            clear hbm
            go_wp2
            go_meet
            exact ⟨by rw [HM2.out], rfl⟩
          | false =>
            go_wp2
            go_meet
            exact ⟨rfl, rfl⟩
        case rest =>
          obtain ⟨rfl, rfl⟩ := hcut
          go_wp2_with fail
          refine (HX.out (wr.drewN nd2) HB).mono ?_
          rintro e w' ⟨t2, hT, rfl⟩
          have hcw := hT.1.cell
          obtain ⟨cd, td, hcd⟩ := cut_any t2 45
          have HD := Aside0.mk hcd
          clear hcd
          go_wp2_with fail
          refine (HD.out _).mono ?_
          rintro e w' ⟨rfl, ⟨nd3, rfl⟩⟩
          go_wp2_with fail
          go_ret2
          refine ⟨t2, ?_⟩
          rw [H2.out]
          exact ⟨rfl, hT.1, HI.out.2.2.2.1.trans ((Turned.drew0 hT).2.1.trans (grown_drew _ _ _))⟩
      | some q =>
        obtain ⟨lo, l1⟩ := q
        rw [hN] at hnx hrw
        have hlen := nextB_len hN
        rw [L_length] at hlen
        have hrw2 : rng (n + 1) (decide (0 < m)) tab (L t') = (match range2 lo l1 with
            | none => none
            | some (hi, l2) => if hi < lo then none else rng n true (setR tab lo.toNat hi.toNat) l2) := by
          rw [hrw]
          unfold range2
          by_cases h45 : l1.head? = some 45
          · rw [if_pos h45]
            dsimp only
            rw [if_pos h45]
          · rw [if_neg h45]
            dsimp only
            rw [if_neg h45, if_neg (by simp)]
        have hlen2 : ∀ hi l2, range2 lo l1 = some (hi, l2) → l2.length < t'.size := by
          intro hi l2 h
          unfold range2 at h
          by_cases h45 : l1.head? = some 45
          · rw [if_pos h45] at h
            have := nextB_len h
            have h3 : l1.tail.length ≤ l1.length := by simp
            omega
          · rw [if_neg h45] at h
            cases h
            exact hlen
        have HB := HI.out.1
        have HH := Aside0.mk hcutB
        have HM := Aside0.mk hbm
        have HX := Aside0.mk hnx
        have HR := Aside0.mk hrw2
        have HL := Aside0.mk hlen2
        have HC := Aside0.mk hcl
        clear hrw hrw2 hlen2 hN hcl h93 hbar hno ht0 hcutB hbm hnx hlen
        go_upto_region 7 with fail
        refine (HH.out _).mono ?_
        rintro e w' ⟨rfl, ⟨nd2, rfl⟩⟩
        go_upto_region 7 with fail
        go_cut [42] (fun v wx => v = .bool false ∧ wx = wr.drewN nd2)
        case first =>
          cases b with
          | true =>
            have hbm : decide (0 < m) = false := by have := HM.out; simpa using this
            have HM2 := Aside0.mk hbm
            clear hbm
            go_wp2
            go_meet
            exact ⟨by rw [HM2.out], rfl⟩
          | false =>
            go_wp2
            go_meet
            exact ⟨rfl, rfl⟩
        case rest =>
          obtain ⟨rfl, rfl⟩ := hcut
          go_upto_if 64 with fail
          refine (HX.out (wr.drewN nd2) HB).mono ?_
          rintro e w' ⟨t2, hT, rfl, hLt2⟩
          obtain ⟨w2, hw2⟩ : ∃ w2, w2 = w' := ⟨_, rfl⟩
          subst hw2
          have hcw := hT.1.cell
          have hfw := hT.1.frozen
          have hTw := Aside0.mk hT
          have HLL := Aside0.mk hLt2
          clear hT hLt2
          have hyes := fun h => cut_yes (t := t2) (c := 45) h
          have hno2 := fun h => cut_no (t := t2) (c := 45) h
          rw [HLL.out] at hyes hno2
          obtain ⟨rr, hrr⟩ : ∃ rr, range2 lo l1 = rr := ⟨_, rfl⟩
          rw [hrr] at HR HL
          unfold range2 at hrr
          have hlo := lo.toNat_lt
          by_cases h45 : l1.head? = some 45
          · rw [if_pos h45] at hrr
            have HD := Aside0.mk (hyes h45)
            have hx2 := next_calls ⟨#[45, 93]⟩ (t2.extract 1 t2.size) R
            rw [show L (⟨#[45, 93]⟩ : ByteArray) = [45, 93] from rfl, show L (t2.extract 1 t2.size) = l1.tail from by rw [L_tail, List.drop_one, HLL.out], hrr] at hx2
            have hT3 : ∀ nd3, Turned R w2 ((w2.drewN nd3).setCell ⟨R, 0, none⟩ (.string (t2.extract 1 t2.size))) (t2.extract 1 t2.size) := fun nd3 => turned_set hTw.out.1 nd3 _
            have HT3 := Aside0.mk hT3
            clear h45 hyes hno2 hT3
            cases rr with
            | none =>
              have e2 : classL (L t) = none := by rw [HC.out, HE.out, HR.out]
              have H2 := Aside0.mk e2
              have HX2 := Aside0.mk hx2
              clear e2 hx2 hrr
              go_upto_if 64 with fail
              refine (HD.out _).mono ?_
              rintro e w' ⟨rfl, ⟨nd3, rfl⟩⟩
              go_wp2_with fail
              refine (HX2.out _ (HT3.out nd3).1).mono ?_
              rintro e w' ⟨t3, hT, rfl⟩
              have HTT := Aside0.mk hT
              clear hT
              go_wp2_with fail
              go_ret2
              refine ⟨t3, ?_⟩
              rw [H2.out]
              exact ⟨rfl, HTT.out.1, HI.out.2.2.2.1.trans ((Turned.drew0 hTw.out).2.1.trans ((HT3.out nd3).2.1.trans HTT.out.2.1))⟩

            | some q2 =>
              obtain ⟨hi, l2⟩ := q2
              have HX2 := Aside0.mk hx2
              clear hx2 hrr
              by_cases hlt : hi < lo
              · have e2 : classL (L t) = none := by
                  rw [HC.out, HE.out, HR.out]
                  dsimp only
                  rw [if_pos hlt]
                have H2 := Aside0.mk e2
                have hb1 : decide ((hi.toNat : Int) < (lo.toNat : Int)) = true := decide_eq_true (by rw [UInt8.lt_iff_toNat_lt] at hlt; omega)
                have hb2 : decide (hi.toNat < lo.toNat) = true := decide_eq_true (by rw [UInt8.lt_iff_toNat_lt] at hlt; omega)
                clear e2 hlt
                go_upto_if 64 with fail
                refine (HD.out _).mono ?_
                rintro e w' ⟨rfl, ⟨nd3, rfl⟩⟩
                go_wp2_with fail
                refine (HX2.out _ (HT3.out nd3).1).mono ?_
                rintro e w' ⟨t3, hT, rfl, hL3⟩
                have HTT := Aside0.mk hT
                clear hT hL3
                go_wp2_with fail
                go_ret2
                refine ⟨t3, ?_⟩
                rw [H2.out]
                exact ⟨rfl, HTT.out.1, HI.out.2.2.2.1.trans ((Turned.drew0 hTw.out).2.1.trans ((HT3.out nd3).2.1.trans HTT.out.2.1))⟩

              · have hb1 : decide ((hi.toNat : Int) < (lo.toNat : Int)) = false := decide_eq_false (by rw [UInt8.lt_iff_toNat_lt] at hlt; omega)
                have hb2 : decide (hi.toNat < lo.toNat) = false := decide_eq_false (by rw [UInt8.lt_iff_toNat_lt] at hlt; omega)
                have HNL := Aside0.mk hlt
                clear hlt
                go_upto_if 64 with fail
                refine (HD.out _).mono ?_
                rintro e w' ⟨rfl, ⟨nd3, rfl⟩⟩
                go_wp2_with fail
                refine (HX2.out _ (HT3.out nd3).1).mono ?_
                rintro e w3 ⟨t3, hT, rfl, hL3⟩
                have HTT := Aside0.mk hT
                have HL3 := Aside0.mk hL3
                clear hT hL3
                go_wp2_with fail
                have hIn3 : In w R no tab t3 w3 := HI.out.turn hRl (Turned.trans (Turned.drew0 hTw.out) (Turned.trans (HT3.out nd3) HTT.out))
                have hh := hi.toNat_lt
                have hlsz : (t3).size < t'.size := by have h1 := HL.out _ _ rfl; rw [← HL3.out, L_length] at h1; exact h1
                have hEE : rng (t0.size + 1) false (fun _ => false) (L t0) = rng n true (setR tab lo.toNat hi.toNat) (L (t3)) := by
                  rw [HE.out, HR.out, HL3.out]
                  exact if_neg HNL.out
                have HEE := Aside0.mk hEE
                have HI3 := Aside0.mk hIn3
                clear hEE hIn3
                go_loopw [15] (fun c wi => ∃ k : Nat, c = .int .i64 k ∧ lo.toNat ≤ k ∧ k ≤ hi.toNat + 1 ∧ Aside0 (In w R no (setLt tab lo.toNat k) (t3) wi)) (fun c _ => 256 - (intOf c).toNat)
                case atStart => exact ⟨lo.toNat, rfl, Nat.le_refl _, by have := HNL.out; rw [UInt8.lt_iff_toNat_lt] at this; omega, ⟨by rw [setLt_start]; exact HI3.out⟩⟩
                case round =>
                  obtain ⟨k, rfl, hk1, hk2, HI4⟩ := hrel
                  by_cases hkh : k ≤ hi.toNat
                  · have hck := HI4.out.cell k (by omega)
                    have hfk := HI4.out.frozen k
                    go_wp2_with fail
                    go_roundw
                    case rel => exact ⟨k + 1, by go_num, by omega, by omega, ⟨by rw [← setLt_step _ _ _ hk1]; exact HI4.out.put hRl k (by omega)⟩⟩
                    case measure => simp [intOf]; omega
                  · obtain rfl : k = hi.toNat + 1 := by omega
                    go_wp2_with fail
                    go_roundw
                    case rel => exact ⟨m + 1, n, setR tab lo.toNat hi.toNat, t3, by go_num, by omega, by omega, ⟨by rw [← setLt_end]; exact HI4.out⟩, ⟨by rw [HEE.out, decide_eq_true (by omega)]⟩⟩
                    case measure => simp [intOf]; omega

          · rw [if_neg h45] at hrr
            subst hrr
            have HD := Aside0.mk (hno2 h45)
            have hTd : ∀ nd3, Turned R w2 (w2.drewN nd3) t2 := fun nd3 => Turned.drew nd3 ⟨hTw.out.1, World.grownBy.refl _ _, rfl⟩
            have HTd := Aside0.mk hTd
            have HNL := Aside0.mk (show ¬ lo < lo by rw [UInt8.lt_iff_toNat_lt]; omega)
            clear h45 hyes hno2 hTd
            go_upto_if 64 with fail
            refine (HD.out _).mono ?_
            rintro e w' ⟨rfl, ⟨nd3, rfl⟩⟩
            go_wp2_with fail
            have hIn3 : In w R no tab t2 (w2.drewN nd3) := HI.out.turn hRl (Turned.trans (Turned.drew0 hTw.out) (HTd.out nd3))
            have hh := lo.toNat_lt
            have hlsz : (t2).size < t'.size := by have h1 := HL.out _ _ rfl; rw [← HLL.out, L_length] at h1; exact h1
            have hEE : rng (t0.size + 1) false (fun _ => false) (L t0) = rng n true (setR tab lo.toNat lo.toNat) (L (t2)) := by
              rw [HE.out, HR.out, HLL.out]
              exact if_neg HNL.out
            have HEE := Aside0.mk hEE
            have HI3 := Aside0.mk hIn3
            clear hEE hIn3
            go_loopw [15] (fun c wi => ∃ k : Nat, c = .int .i64 k ∧ lo.toNat ≤ k ∧ k ≤ lo.toNat + 1 ∧ Aside0 (In w R no (setLt tab lo.toNat k) (t2) wi)) (fun c _ => 256 - (intOf c).toNat)
            case atStart => exact ⟨lo.toNat, rfl, Nat.le_refl _, by have := HNL.out; rw [UInt8.lt_iff_toNat_lt] at this; omega, ⟨by rw [setLt_start]; exact HI3.out⟩⟩
            case round =>
              obtain ⟨k, rfl, hk1, hk2, HI4⟩ := hrel
              by_cases hkh : k ≤ lo.toNat
              · have hck := HI4.out.cell k (by omega)
                have hfk := HI4.out.frozen k
                go_wp2_with fail
                go_roundw
                case rel => exact ⟨k + 1, by go_num, by omega, by omega, ⟨by rw [← setLt_step _ _ _ hk1]; exact HI4.out.put hRl k (by omega)⟩⟩
                case measure => simp [intOf]; omega
              · obtain rfl : k = lo.toNat + 1 := by omega
                go_wp2_with fail
                go_roundw
                case rel => exact ⟨m + 1, n, setR tab lo.toNat lo.toNat, t2, by go_num, by omega, by omega, ⟨by rw [← setLt_end]; exact HI4.out⟩, ⟨by rw [HEE.out, decide_eq_true (by omega)]⟩⟩
                case measure => simp [intOf]; omega

end Go.Proofs.Ytjcopbgbmokfmaa.GlobClass
