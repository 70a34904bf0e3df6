/- plus.option, Line, Lines: the walk. The conditions: the machine's sizes. -/
import Derived.Test.YtjndccjpjknbkaaDoorPlJoin
import Derived.Test.YtjndccjpjknbkaaDoorSplitW
namespace Go.Proofs.YtjndccjpjknbkaaDoor.PlLine
open Go Go.Proofs Go.RowKit Go.Proofs.YtjndccjpjknbkaaDoorW.PrintWords Go.Proofs.YtjndccjpjknbkaaDoor.BytesLib Go.Proofs.YtjndccjpjknbkaaDoor.ExLib Go.Proofs.YtjndccjpjknbkaaDoor.RowsLib Go.Proofs.YtjndccjpjknbkaaDoor.ExNode Go.Proofs.YtjndccjpjknbkaaDoor.ExTag Go.Proofs.YtjndccjpjknbkaaDoor.ExRun Go.Proofs.YtjndccjpjknbkaaDoor.ExBoth Go.Proofs.YtjndccjpjknbkaaDoor.ExPar Go.Proofs.YtjndccjpjknbkaaDoor.PlJoin
open Go.Proofs.YtjndccjpjknbkaaDoor.ExCheck (checkF Check_calls)
set_option linter.unusedVariables false
set_option linter.unusedSimpArgs false

/-- The options of a line, the terms of an option. -/
def termsOf (s : ByteArray) : List ByteArray := SplitW.splitF s 44
def optF (s : ByteArray) : List Nd := joinF termF 2 (termsOf s)
theorem term_len (s : ByteArray) : (termF s).length ≤ 2 := by
  unfold termF
  split
  · split
    · unfold notN'; simp
    · simp
  · simp
/-- A function's lists are bounded. -/
theorem joinL_len {one : ByteArray → List Nd} {k : Int} {M1 : Nat} : ∀ (ls : List ByteArray) (acc : List Nd), (∀ s ∈ ls, (one s).length ≤ M1) → (joinL one k ls acc).length ≤ acc.length + ls.length * (M1 + 1)
  | [], acc, h => by simp [joinL]
  | s :: r, acc, h => by
    unfold joinL
    split
    · simp
    · have h1 := joinL_len (k := k) r (bothN k acc (one s)) (fun x hx => h x (List.mem_cons_of_mem _ hx))
      have h2 := h s List.mem_cons_self
      rw [bothN_len] at h1
      rw [List.length_cons, Nat.add_mul, Nat.one_mul]
      omega
theorem joinF_len {one : ByteArray → List Nd} {k : Int} {M1 : Nat} (ls : List ByteArray) (h : ∀ s ∈ ls, (one s).length ≤ M1) : (joinF one k ls).length ≤ ls.length * (M1 + 1) := by
  cases ls with
  | nil => simp [joinF]
  | cons s r =>
    show (if one s = [] then [] else joinL one k r (one s)).length ≤ _
    by_cases hs : one s = []
    · rw [if_pos hs]; simp
    · rw [if_neg hs]
      have h1 := joinL_len (k := k) r (one s) (fun x hx => h x (List.mem_cons_of_mem _ hx))
      have h2 := h s List.mem_cons_self
      rw [List.length_cons, Nat.add_mul, Nat.one_mul]
      omega
theorem terms_len (s : ByteArray) : (termsOf s).length ≤ s.size + 1 := by
  unfold termsOf
  rw [SplitW.splitF_len]
  have := Lib.countB_le (SplitW.one 44) (Nat.le_refl 1) s.size s (Nat.le_refl _)
  omega
theorem splitB_size (sep : ByteArray) (save : Nat) : ∀ (k : Nat) (s t : ByteArray), t ∈ Lib.splitB sep save k s → t.size ≤ s.size
  | 0, s, t, h => by
    rw [Lib.splitB_zero, List.mem_singleton] at h
    subst h; exact Nat.le_refl _
  | k + 1, s, t, h => by
    unfold Lib.splitB at h
    split at h
    · rw [List.mem_singleton] at h
      subst h; exact Nat.le_refl _
    · rcases List.mem_cons.1 h with h1 | h1
      · subst h1; rw [ByteArray.size_extract]; omega
      · have := splitB_size sep save k _ t h1
        rw [ByteArray.size_extract] at this
        omega
theorem terms_size {s t : ByteArray} (h : t ∈ termsOf s) : t.size ≤ s.size := splitB_size _ _ _ s t h

set_option maxRecDepth 100000 in
set_option maxHeartbeats 4000000 in
theorem option_calls (s : ByteArray) (hs : s.size ≤ 100000) (w0 : World) : One 51 optF w0 s := by
  intro w _
  have hsp := SplitW.Split_calls s 44 w (by omega)
  have HSP := Aside0.mk hsp
  have hl := terms_len s
  have HJ := Aside0.mk (fun (A : Option Addr) (c : Nat) (W : World) (hC : Kd.C Kd.string W A (termsOf s).length (termsOf s)) =>
    join_calls (g := 70) (h := 20) (enters_of Tryd.func70 (by kernel_rfl) rfl) (enters_of Tryd.func20 (by kernel_rfl) rfl) (one := termF) (kd := 2) A c (termsOf s) W hC
      (fun t ht => term_calls t (by have := terms_size ht; omega) W) And_two 2 (fun t _ => term_len t) (by omega))
  have HF := Aside0.mk (show optF s = joinF termF 2 (termsOf s) from rfl)
  obtain ⟨F, hF⟩ : ∃ F, optF s = F := ⟨_, rfl⟩
  rw [hF] at HF ⊢
  rw [← HF.out] at HJ
  clear hsp hF HF
  go_enter Tryd.func51, Tryd.ntmps51
  go_wp2_with fail
  refine HSP.out.mono ?_
  rintro e w1 ⟨v, rfl, hr, hb⟩
  obtain ⟨A, c, rfl, hc, hC⟩ := Kd.R_reads hr
  have HJ2 := Aside0.mk (HJ.out A c w1 hC)
  have HB := Aside0.mk hb
  have hlen : (termsOf s).length = (SplitW.splitF s 44).length := rfl
  clear hr hC hb HSP HJ
  rw [← hlen]
  clear hlen
  go_wp2_with fail
  refine HJ2.out.mono ?_
  rintro e w2 ⟨v2, rfl, hO, hb2⟩
  have HO := Aside0.mk (hO.lower HB.out.size)
  have HB2 := Aside0.mk (HB.out.trans (hb2.mono HB.out.size))
  clear hO hb2 HJ2
  go_wp2_with fail
  go_ret
  exact ⟨v2, rfl, HO.out, HB2.out⟩

/-! ### Line -/
def fieldsOf (s : ByteArray) : List ByteArray := Lib.goFieldsP blankR s
def lineJ (s : ByteArray) : List Nd := joinF optF 3 (fieldsOf s)
def lineF (s : ByteArray) : List Nd × Int := checkedF (lineJ s)
theorem fields_size {s t : ByteArray} (h : t ∈ fieldsOf s) : t.size ≤ s.size := by
  unfold fieldsOf Lib.goFieldsP at h
  obtain ⟨x, _, rfl⟩ := List.mem_map.1 h
  rw [ByteArray.size_extract]
  omega
theorem spans_len (p : Nat → Bool) (s : ByteArray) : ∀ (f pos : Nat) (st : Option Nat) (acc : List (Nat × Nat)), (Lib.spansFromP p s f pos st acc).1.length ≤ acc.length + f
  | 0, pos, st, acc => Nat.le_refl _
  | f + 1, pos, st, acc => by
    unfold Lib.spansFromP
    split
    · split
      · cases st with
        | some a =>
          have := spans_len p s f (pos + (Utf8.decode s pos).2) none (acc ++ [(a, pos)])
          simp at this ⊢
          omega
        | none =>
          have := spans_len p s f (pos + (Utf8.decode s pos).2) none acc
          simp at this ⊢
          omega
      · cases st with
        | some a =>
          have := spans_len p s f (pos + (Utf8.decode s pos).2) (some a) acc
          simp at this ⊢
          omega
        | none =>
          have := spans_len p s f (pos + (Utf8.decode s pos).2) (some pos) acc
          simp at this ⊢
          omega
    · simp
theorem fields_len (s : ByteArray) : (fieldsOf s).length ≤ s.size + 1 := by
  unfold fieldsOf Lib.goFieldsP Lib.spansOfP
  rw [List.length_map]
  have := spans_len blankR s s.size 0 none []
  unfold Lib.closeSpans
  split
  · simp at this ⊢; omega
  · simp at this ⊢; omega
theorem opt_len (s : ByteArray) : (optF s).length ≤ (s.size + 1) * 3 := by
  have h1 := joinF_len (one := termF) (k := 2) (M1 := 2) (termsOf s) (fun t _ => term_len t)
  have h2 := terms_len s
  have h3 : (termsOf s).length * (2 + 1) ≤ (s.size + 1) * 3 := Nat.mul_le_mul_right _ h2
  show (joinF termF 2 (termsOf s)).length ≤ _
  omega
theorem small_both {k : Int} {a b : List Nd} (ha : smallT a) (hb : smallT b) : smallT (bothN k a b) := by
  intro n hn
  unfold bothN at hn
  rcases List.mem_append.1 hn with h | h
  · rcases List.mem_append.1 h with h | h
    · exact ha n h
    · obtain ⟨m, hm, rfl⟩ := List.mem_map.1 h
      exact hb m hm
  · rw [List.mem_singleton] at h
    subst h
    show (⟨#[]⟩ : ByteArray).size ≤ _
    decide
theorem joinL_small {one : ByteArray → List Nd} {k : Int} : ∀ (ls : List ByteArray) (acc : List Nd), smallT acc → (∀ s ∈ ls, smallT (one s)) → smallT (joinL one k ls acc)
  | [], acc, h, _ => h
  | s :: r, acc, h, hs => by
    unfold joinL
    split
    · intro n hn; cases hn
    · exact joinL_small r _ (small_both h (hs s List.mem_cons_self)) (fun x hx => hs x (List.mem_cons_of_mem _ hx))
theorem joinF_small {one : ByteArray → List Nd} {k : Int} (ls : List ByteArray) (hs : ∀ s ∈ ls, smallT (one s)) : smallT (joinF one k ls) := by
  cases ls with
  | nil => intro n hn; cases hn
  | cons s r =>
    show smallT (if one s = [] then [] else joinL one k r (one s))
    by_cases h : one s = []
    · rw [if_pos h]; intro n hn; cases hn
    · rw [if_neg h]
      exact joinL_small r _ (hs s List.mem_cons_self) (fun x hx => hs x (List.mem_cons_of_mem _ hx))
theorem term_small {s : ByteArray} (hs : s.size ≤ 1000000) : smallT (termF s) := by
  have hc := ExParse.cutP_size s bangB
  have hc2 : (cutP s bangB).size ≤ 4611686018427387904 := by split at hc <;> omega
  intro n hn
  unfold termF at hn
  split at hn
  · split at hn
    · unfold notN' at hn
      rcases List.mem_append.1 hn with h | h
      · rw [List.mem_singleton] at h; subst h; exact hc2
      · rw [List.mem_singleton] at h; subst h; show (⟨#[]⟩ : ByteArray).size ≤ _; decide
    · rw [List.mem_singleton] at hn; subst hn; exact hc2
  · cases hn
theorem opt_small {s : ByteArray} (hs : s.size ≤ 1000000) : smallT (optF s) := joinF_small _ fun t ht => term_small (by have := terms_size ht; omega)
theorem line_small {s : ByteArray} (hs : s.size ≤ 1000000) : smallT (lineJ s) := joinF_small _ fun t ht => opt_small (by have := fields_size ht; omega)
theorem checked_len (l : List Nd) : (checkedF l).1.length ≤ 60 := by
  unfold checkedF
  split
  · rename_i h
    have := (ExSem.check_ref h.2).2.1
    exact this
  · exact Nat.zero_le _
theorem checked_small {l : List Nd} (h : smallT l) : smallT (checkedF l).1 := by
  unfold checkedF
  split
  · exact h
  · intro n hn; cases hn
theorem sq_bd {n : Nat} (h : n ≤ 512) : (n + 1) * ((n + 1) * 3 + 1) ≤ 1000000 := by
  have h1 : (n + 1) * ((n + 1) * 3 + 1) ≤ 513 * (513 * 3 + 1) := Nat.mul_le_mul (by omega) (by omega)
  omega

set_option maxRecDepth 100000 in
set_option maxHeartbeats 4000000 in
theorem Line_calls (s : ByteArray) (hs : s.size ≤ 512) (w : World) : Calls Tryd.prog 29 #[.string s] w fun e w' => ∃ v, e = .returned (.tuple #[v, .int .i64 (lineF s).2]) ∧ Ow w' w.heap.size v (lineF s).1 ∧ Below w.heap.size w w' := by
  have hff := Tryd.strings_FieldsFunc_runes 49 #[] (enters_of Tryd.func49 (by kernel_rfl) rfl) blankR s w (by omega) (fun W x hx hb => by
    refine (blank_calls (x : Int) W).mono ?_
    rintro e w' ⟨rfl, rfl⟩
    refine ⟨?_, 0, rfl⟩
    unfold blankR
    have e1 : ((x : Int) == 32) = (x == 32) := by
      by_cases h : x = 32
      · subst h; rfl
      · rw [beq_eq_false_iff_ne.2 h, beq_eq_false_iff_ne.2 (by omega)]
    have e2 : ((x : Int) == 9) = (x == 9) := by
      by_cases h : x = 9
      · subst h; rfl
      · rw [beq_eq_false_iff_ne.2 h, beq_eq_false_iff_ne.2 (by omega)]
    rw [e1, e2])
  have HFF := Aside0.mk hff
  have hl := fields_len s
  have hbig : (fieldsOf s).length * ((s.size + 1) * 3 + 1) ≤ 1000000 := Nat.le_trans (Nat.mul_le_mul_right _ hl) (sq_bd hs)
  have HJ := Aside0.mk (fun (A : Option Addr) (c : Nat) (W : World) (hC : Kd.C Kd.string W A (fieldsOf s).length (fieldsOf s)) =>
    join_calls (g := 51) (h := 21) (enters_of Tryd.func51 (by kernel_rfl) rfl) (enters_of Tryd.func21 (by kernel_rfl) rfl) (one := optF) (kd := 3) A c (fieldsOf s) W hC
      (fun t ht => option_calls t (by have := fields_size ht; omega) W) Or_two ((s.size + 1) * 3) (fun t ht => Nat.le_trans (opt_len t) (Nat.mul_le_mul_right _ (by have := fields_size ht; omega))) hbig)
  have HK := Aside0.mk (fun (v : Value) (W : World) (h : Ow W w.heap.size v (lineJ s)) => checked_calls w.heap.size v (lineJ s) W h (line_small (by omega)))
  have HD : lineF s = checkedF (lineJ s) := rfl
  rw [HD]
  have HJJ : joinF optF 3 (fieldsOf s) = lineJ s := rfl
  rw [HJJ] at HJ
  obtain ⟨J, hJ⟩ : ∃ J, lineJ s = J := ⟨_, rfl⟩
  rw [hJ] at HJ HK ⊢
  obtain ⟨R, hR⟩ : ∃ R, checkedF J = R := ⟨_, rfl⟩
  rw [hR] at HK ⊢
  have hfo : Lib.goFieldsP blankR s = fieldsOf s := rfl
  rw [hfo] at HFF
  clear hff hbig HD HJJ hJ hR hfo
  go_enter Tryd.func29, Tryd.ntmps29
  go_wp2_with fail
  refine HFF.out.mono ?_
  rintro e w1 ⟨A, rfl, hA, hown, hb⟩
  have hR1 : Kd.R Kd.string 9 w1 w.heap.size (fun _ => True) (.slice (some ⟨A, 0, none⟩) (fieldsOf s).length (fieldsOf s).length) (fieldsOf s) := by
    refine R_of (d := Kd.string) (f := fun x => [Value.string x]) (n := 1) (fun _ => rfl) rfl (fun ok x => rfl) ?_ (Nat.le_refl _)
    have e1 : cellsL (fun x => [Value.string x]) (fieldsOf s) = (fieldsOf s).map Value.string := by
      unfold cellsL
      induction fieldsOf s with
      | nil => rfl
      | cons a r ih => rw [List.flatMap_cons, List.map_cons, ih]; rfl
    rw [e1]
    exact hown
  have hC := (Kd.R_reads' hR1).2.2
  have HJ2 := Aside0.mk (HJ.out (some ⟨A, 0, none⟩) (fieldsOf s).length w1 hC)
  have HB := Aside0.mk hb
  clear hR1 hC hb hown hA HFF HJ
  go_wp2_with fail
  refine HJ2.out.mono ?_
  rintro e w2 ⟨v2, rfl, hO, hb2⟩
  have HO := Aside0.mk (HK.out v2 w2 (hO.lower HB.out.size))
  have HB2 := Aside0.mk (HB.out.trans (hb2.mono HB.out.size))
  clear hO hb2 HJ2 HK
  go_wp2_with fail
  refine HO.out.mono ?_
  rintro e w3 ⟨v3, rfl, hO3, hb3⟩
  have HO3 := Aside0.mk hO3
  have HB3 := Aside0.mk (HB2.out.trans (hb3.mono HB2.out.size))
  clear hO3 hb3 HO
  go_wp2_with fail
  go_ret2
  exact ⟨v3, rfl, HO3.out, HB3.out⟩

/-! ### Lines -/
def line1 (s : ByteArray) : List Nd := (lineF s).1
def linesJ (l : List ByteArray) : List Nd := joinF line1 2 l
def linesF (l : List ByteArray) : List Nd × Int := checkedF (linesJ l)
set_option maxRecDepth 100000 in
set_option maxHeartbeats 4000000 in
theorem line1_calls (s : ByteArray) (hs : s.size ≤ 512) (w0 : World) : One 48 line1 w0 s := by
  intro w _
  have HL := Aside0.mk (Line_calls s hs w)
  have HD : line1 s = (lineF s).1 := rfl
  rw [HD]
  obtain ⟨R, hR⟩ : ∃ R, lineF s = R := ⟨_, rfl⟩
  rw [hR] at HL ⊢
  clear HD hR
  go_enter Tryd.func48, Tryd.ntmps48
  go_wp2_with fail
  refine HL.out.mono ?_
  rintro e w1 ⟨v, rfl, hO, hb⟩
  have HO := Aside0.mk hO
  have HB := Aside0.mk hb
  clear hO hb HL
  go_wp2_with fail
  go_ret
  exact ⟨v, rfl, HO.out, HB.out⟩
theorem lines_small {l : List ByteArray} (h : ∀ s ∈ l, s.size ≤ 512) : smallT (linesJ l) := joinF_small _ fun s hs => checked_small (line_small (by have := h s hs; omega))
set_option maxRecDepth 100000 in
set_option maxHeartbeats 4000000 in
theorem Lines_calls (A : Option Addr) (c : Nat) (l : List ByteArray) (w : World) (hr : Kd.C Kd.string w A l.length l) (hs : ∀ s ∈ l, s.size ≤ 512) (hl : l.length ≤ 2000) :
    Calls Tryd.prog 27 #[.slice A l.length c] w fun e w' => ∃ v, e = .returned (.tuple #[v, .int .i64 (linesF l).2]) ∧ Ow w' w.heap.size v (linesF l).1 ∧ Below w.heap.size w w' := by
  have HJ := Aside0.mk (join_calls (g := 48) (h := 20) (enters_of Tryd.func48 (by kernel_rfl) rfl) (enters_of Tryd.func20 (by kernel_rfl) rfl) (one := line1) (kd := 2) A c l w hr
      (fun t ht => line1_calls t (hs t ht) w) And_two 60 (fun t _ => checked_len _) (by omega))
  have HK := Aside0.mk (fun (v : Value) (W : World) (h : Ow W w.heap.size v (linesJ l)) => checked_calls w.heap.size v (linesJ l) W h (lines_small hs))
  have HD : linesF l = checkedF (linesJ l) := rfl
  rw [HD]
  have HJJ : joinF line1 2 l = linesJ l := rfl
  rw [HJJ] at HJ
  obtain ⟨J, hJ⟩ : ∃ J, linesJ l = J := ⟨_, rfl⟩
  rw [hJ] at HJ HK ⊢
  obtain ⟨R, hR⟩ : ∃ R, checkedF J = R := ⟨_, rfl⟩
  rw [hR] at HK ⊢
  clear hr hs HD HJJ hJ hR
  go_enter Tryd.func27, Tryd.ntmps27
  go_wp2_with fail
  refine HJ.out.mono ?_
  rintro e w2 ⟨v2, rfl, hO, hb2⟩
  have HO := Aside0.mk (HK.out v2 w2 hO)
  have HB2 := Aside0.mk hb2
  clear hO hb2 HJ HK
  go_wp2_with fail
  refine HO.out.mono ?_
  rintro e w3 ⟨v3, rfl, hO3, hb3⟩
  have HO3 := Aside0.mk hO3
  have HB3 := Aside0.mk (HB2.out.trans (hb3.mono HB2.out.size))
  clear hO3 hb3 HO
  go_wp2_with fail
  go_ret2
  exact ⟨v3, rfl, HO3.out, HB3.out⟩
end Go.Proofs.YtjndccjpjknbkaaDoor.PlLine
