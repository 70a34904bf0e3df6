/- Whether a text may be a path: the walk. -/
import Derived.Test.YtmocfgghccmdgaaElems
import Derived.Test.YtmocfgghccmdgaaMba
import Derived.Test.YtmocfgghccmdgaaBytesLib
namespace Go.Proofs.Ytmocfgghccmdgaa.Valid
open Go.RowKit Go.Shelf Go.Proofs.Ytmocfgghccmdgaa.Iter Go.Proofs.Ytmocfgghccmdgaa.Elems Go.Proofs.Ytmocfgghccmdgaa.BytesLib Go.Proofs.YtmocfgghccmdgaaW.PrintWords
set_option linter.unusedVariables false
set_option linter.unusedSimpArgs false
attribute [local go_sem] Oper.semAt_some

def fineI (c : Int) : Bool := decide (c > 32) && decide (c < 127) && decide (Lib.indexByte [34, 42, 58, 60, 62, 63, 92, 124, 96] c.toNat.toUInt8 < 0)

theorem fine_calls (c : Int) (w : World) : Calls Try.prog 83 #[.int .u8 c] w fun e w' => e = .returned (.bool (fineI c)) ∧ Drawn0 w w' := by
  refine BFine.paths_fine.calls c (fineI c) w ?_
  unfold BFine.paths_fine.f BFine.strings_IndexByte.f BFine.stringslite_IndexByte.f fineI
  by_cases h1 : c > 32
  · by_cases h2 : c < 127
    · rw [if_pos h1, if_pos h2, decide_eq_true h1, decide_eq_true h2]; rfl
    · rw [if_pos h1, if_neg h2, decide_eq_true h1, decide_eq_false h2]; rfl
  · rw [if_neg h1, decide_eq_false h1]; rfl

/-- Each byte from i on is fine. -/
def fineFrom (e : ByteArray) (i : Nat) : Bool := ((L e).drop i).all fun c => fineI (c.toNat : Int)
theorem keeps_draw (W : World) (m : Nat) : KeepsOthers W (W.drewN m) := ⟨Nat.le_refl _, fun _ _ h _ => h⟩
theorem keeps_draw_set (W : World) (m : Nat) (p : Addr) (v : Value) : KeepsOthers W ((W.drewN m).setCell p v) := (keeps_draw W m).trans (KeepsOthers.setCell _ _ _)
theorem below_draw_set {n₀ : Nat} {w W : World} (h : Below n₀ w W) (m : Nat) {b : Nat} (hb : n₀ ≤ b) (v : Value) : Below n₀ w ((W.drewN m).setCell ⟨b, 0, none⟩ v) := (h.trans (pw_below_drewN (Below.refl _ _) _)).setCell (p := ⟨b, 0, none⟩) hb _
theorem fine_step (e : ByteArray) (k : Nat) (h : k < e.size) : fineI (e[k].toNat : Int) = true → fineFrom e k = fineFrom e (k + 1) := by
  intro hf
  unfold fineFrom
  rw [List.drop_eq_getElem_cons (by rw [L_length]; exact h), List.all_cons]
  rw [show ((L e)[k]'(by rw [L_length]; exact h)) = e[k] from rfl, hf, Bool.true_and]
theorem fine_stop (e : ByteArray) (k : Nat) (h : k < e.size) : fineI (e[k].toNat : Int) = false → fineFrom e k = false := by
  intro hf
  unfold fineFrom
  rw [List.drop_eq_getElem_cons (by rw [L_length]; exact h), List.all_cons]
  rw [show ((L e)[k]'(by rw [L_length]; exact h)) = e[k] from rfl, hf, Bool.false_and]
theorem fine_end (e : ByteArray) : fineFrom e e.size = true := by
  unfold fineFrom
  rw [List.drop_of_length_le (by rw [L_length]; exact Nat.le_refl _)]; rfl
def okE (e : ByteArray) : Bool := !e.toList.isEmpty && decide ((e.size : Int) ≤ 30) && !(e.toList == [46]) && !(e.toList == [46, 46]) && fineFrom e 0
def valid (s : ByteArray) : Bool := !s.toList.isEmpty && decide ((s.size : Int) ≤ 60) && (elems s).all okE

theorem cutA_le (c : UInt8) (s : ByteArray) : (cutA c s).size ≤ s.size := by
  unfold cutA
  split
  · rw [ByteArray.size_extract]; omega
  · exact Nat.le_refl _
theorem split_size (c : UInt8) (s : ByteArray) : ∀ x ∈ split c s, x.size ≤ s.size := by
  induction h : s.size using Nat.strongRecOn generalizing s with
  | _ k ih =>
    intro x hx
    rw [split_eq] at hx
    rcases List.mem_cons.1 hx with rfl | hx
    · rw [← h]; exact cutA_le c s
    · by_cases hF : cutF c s = true
      · rw [if_pos hF] at hx
        have hl := cutB_lt hF
        have := ih (cutB c s).size (by omega) (cutB c s) rfl x hx
        omega
      · rw [if_neg hF] at hx
        cases hx
theorem elems_size (s : ByteArray) : ∀ x ∈ elems s, x.size ≤ s.size := by
  intro x hx
  unfold elems at hx
  split at hx
  · cases hx
  · exact split_size 47 s x hx

theorem valid_empty {s : ByteArray} (h : s.toList = []) : valid s = false := by
  unfold valid; rw [h]; rfl
theorem valid_long {s : ByteArray} (h : ¬ (s.size : Int) ≤ 60) : valid s = false := by
  unfold valid; rw [decide_eq_false h]; simp
theorem valid_in {s : ByteArray} (h1 : ¬ s.toList = []) (h2 : (s.size : Int) ≤ 60) : valid s = (elems s).all okE := by
  unfold valid; rw [decide_eq_true h2, show s.toList.isEmpty = false from by simpa using h1]; simp

theorem bears_box (B Br : Nat) (h : B ≠ Br) (n₀ : Nat) (hn : n₀ ≤ B) (w0 : World) (hw : n₀ ≤ w0.heap.size) (t : TypeId) (v : Value) (G : List ByteArray → Prop) :
    Bears B (fun (pre : List ByteArray) W => (G pre ∧ Boxed W Br t v) ∧ Below n₀ w0 W) := by
  rintro s A A' ⟨⟨hG, hv⟩, hB⟩ hg
  refine ⟨⟨hG, hv.kept hg (by simpa using fun e => h e.symm)⟩, ⟨hg.os.trans hB.os, hg.tape.trans hB.tape, hg.output.trans hB.output, Nat.le_trans hB.size hg.size, fun k hk => ?_⟩⟩
  exact (hg.block k (by have := hB.size; omega) (by simp; omega)).trans (hB.block k hk)

theorem own_box (Br : Nat) (t : TypeId) (v : Value) (G : List ByteArray → Prop) : Own (fun (pre : List ByteArray) W => G pre ∧ Boxed W Br t v) := by
  rintro s A A' row ⟨hG, hv⟩ hg hr
  exact ⟨hG, hv.kept hg (fun e => by obtain ⟨o, ho, hc⟩ := hr Br e.symm; rw [show A.heap[Br]? = _ from hv] at ho; cases ho; cases hc)⟩

set_option maxRecDepth 100000 in
set_option maxHeartbeats 4000000 in
theorem Valid_calls (s : ByteArray) (hs : s.size ≤ 140737488351232) (w : World) :
    Calls Try.prog 65 #[.string s] w fun e w' => e = .returned (.bool (valid s)) ∧ Below w.heap.size w w' := by
  refine (callsIn_wide (n := 4)).1 ?_
  refine callsIn_of_wp_marks Try.func65 rfl trivial ?_ rfl
  simp only [Try.ntmps65, List.size_toArray, List.length_cons, List.length_nil, Nat.reduceAdd, Nat.reduceSub, Array.replicate_succ, Array.replicate_zero, List.push_toArray, List.append_toArray, List.nil_append, List.cons_append]
  have hbn := Boxed.new w 4 (.bool false)
  by_cases h1 : s.toList = []
  · have h1b : s.toList.isEmpty = true := by rw [h1]; rfl
    rw [valid_empty h1]
    have hc := hbn.cell
    have hf := hbn.frozen
    clear hbn h1
    gi_wp2
    refine ⟨.bool false, ?_, rfl, ?_⟩
    · simp [results, Try.f65, go_sem]
    · exact (Below.refl w.heap.size w).alloc (Nat.le_refl _) _
  · have h1b : s.toList.isEmpty = false := by simpa using h1
    by_cases h2 : (s.size : Int) ≤ 60
    · have h2b : decide ((60 : Int) < (s.size : Int)) = false := decide_eq_false (by omega)
      rw [valid_in h1 h2]
      clear h1 h2
      gi_wp2_with (first | (refine ⟨trivial, ?_⟩; gi_at_call 82; refine (callsIn_wide.2 (elems_calls s _)).mono ?_; rintro e w' ⟨rfl, rfl⟩))
      have hB1 : ((w.alloc (.cells #[.bool false] 4)).alloc (.cells #[.string s] 9)).heap[w.heap.size + 1]? = some (.cells #[.string s] 9 (0, 0)) := by
        have := blk_new (w.alloc (.cells #[.bool false] 4)) (.cells #[.string s] 9); rwa [World.size_alloc] at this
      have hB0 : Below w.heap.size w ((w.alloc (.cells #[.bool false] 4)).alloc (.cells #[.string s] 9)) := ((Below.refl _ w).alloc (Nat.le_refl _) _).alloc (by simp) _
      refine wpIn_rangeFunc_ownC rfl (by omega) (gf := 98) (lb := #[.pointer (some ⟨w.heap.size + 1, 0, none⟩)]) rfl trivial (enters_of Try.func98 (by kernel_rfl) rfl)
        (elems1 (4 - 1) (by omega) (w.heap.size + 1) s hs _ hB1) (by simp) (Below.refl _ _) (fun _ => rfl)
        (fun pre W => (pre.all okE = true ∧ Boxed W w.heap.size 4 (.bool false)) ∧ Below w.heap.size w W)
        (fun c pre W => ((c = .ret ∧ pre.all okE = false) ∧ Boxed W w.heap.size 4 (.bool false)) ∧ Below w.heap.size w W)
        (OwnFrom.and (Own.from (own_box _ _ _ _) _) (ownFrom_below (Nat.le_refl _) (by simp; omega)))
        (fun c => OwnFrom.and (Own.from (own_box _ _ _ _) _) (ownFrom_below (Nat.le_refl _) (by simp; omega)))
        (bears_box _ _ (by omega) _ (by omega) _ (Nat.le_refl _) _ _ _)
        (fun c => bears_box _ _ (by omega) _ (by omega) _ (Nat.le_refl _) _ _ _)
        ⟨⟨rfl, hbn.alloc _⟩, hB0⟩
        (fun x => { tmps := #[.string s, undef, .pointer (some ⟨w.heap.size, 0, none⟩), .string x, undef, .string s, .bool false, .bool false, .string s, .int .i64 s.size, .bool false, .bool false, .string s, .func (.func 98) #[] #[.pointer (some ⟨w.heap.size + 1, 0, none⟩)], .string x, undef, undef, undef, undef, undef, undef, undef, undef, undef, undef, undef, undef, undef, undef, undef, undef, undef, undef, undef, undef, undef, undef, undef, undef, undef, undef], defers := [] }) ?assign ?body ?done ?stop
      case assign =>
        intro l x W K hK
        gi_wp2
        exact hK
      case body =>
        rintro l pre x W ⟨⟨hall, hv⟩, hBw⟩ hlt
        have hxs : x.size ≤ s.size := elems_size s x (hlt.subset (List.mem_append.2 (.inr List.mem_cons_self)))
        have hc := hv.cell
        have hf := hv.frozen
        have HA := Aside0.mk hall
        have HV := Aside0.mk hv
        clear hall hbn hv
        have bad : okE x = false → (pre ++ [x]).all okE = false := fun h => by simp [h]
        have hst : ∀ v, (W.setCell ⟨w.heap.size, 0, none⟩ v).heap[w.heap.size + 1]? = W.heap[w.heap.size + 1]? := fun v => Below.heap_setCell W ⟨w.heap.size, 0, none⟩ v (w.heap.size + 1) (by simp)
        have Hst := Aside0.mk hst
        clear hst
        have HB := Aside0.mk bad
        clear bad
        by_cases e1 : x.toList = []
        · have e1b : x.toList.isEmpty = true := by rw [e1]; rfl
          have e0 : okE x = false := by unfold okE; rw [e1b]; rfl
          have E0 := Aside0.mk e0
          clear e0 e1
          gi_wp2
          exact ⟨KeepsOthers.setCell _ _ _, ⟨⟨rfl, HB.out E0.out⟩, HV.out.set _⟩, hBw.setCell (p := ⟨w.heap.size, 0, none⟩) (Nat.le_refl _) _⟩
        · have e1b : x.toList.isEmpty = false := by simpa using e1
          by_cases e2 : (x.size : Int) ≤ 30
          · have e2b : decide ((30 : Int) < (x.size : Int)) = false := decide_eq_false (by omega)
            by_cases e3 : x.toList = [46]
            · have e3b : (x.toList == [46]) = true := beq_iff_eq.2 e3
              have e0 : okE x = false := by unfold okE; rw [e3b]; simp
              have E0 := Aside0.mk e0
              clear e0 e1 e2 e3
              gi_wp2
              exact ⟨KeepsOthers.setCell _ _ _, ⟨⟨rfl, HB.out E0.out⟩, HV.out.set _⟩, hBw.setCell (p := ⟨w.heap.size, 0, none⟩) (Nat.le_refl _) _⟩
            · have e3b : (x.toList == [46]) = false := beq_eq_false_iff_ne.2 e3
              by_cases e4 : x.toList = [46, 46]
              · have e4b : (x.toList == [46, 46]) = true := beq_iff_eq.2 e4
                have e0 : okE x = false := by unfold okE; rw [e4b]; simp
                have E0 := Aside0.mk e0
                clear e0 e1 e2 e3 e4
                gi_wp2
                exact ⟨KeepsOthers.setCell _ _ _, ⟨⟨rfl, HB.out E0.out⟩, HV.out.set _⟩, hBw.setCell (p := ⟨w.heap.size, 0, none⟩) (Nat.le_refl _) _⟩
              · have e4b : (x.toList == [46, 46]) = false := beq_eq_false_iff_ne.2 e4
                have e0 : okE x = fineFrom x 0 := by unfold okE; rw [e1b, e3b, e4b, decide_eq_true e2]; rfl
                have E0 := Aside0.mk e0
                clear e0 e1 e2 e3 e4
                gi_wp2
                gi_loopw [32, 4] (fun c i wr => ∃ (k m : Nat), k ≤ x.size ∧ c = .int .i64 k ∧ wr = W.drewN m ∧ Aside0 (fineFrom x 0 = fineFrom x k)) (fun c _ _ => x.size - (intOf c).toNat)
                case atStart => exact ⟨0, 0, Nat.zero_le _, rfl, rfl, ⟨rfl⟩⟩
                case round =>
                  obtain ⟨k, m, hk, rfl, rfl, hF⟩ := hrel
                  by_cases hlt : k < x.size
                  · have hst := fine_step x k hlt
                    have hsn := fine_stop x k hlt
                    have HS := Aside0.mk hst
                    have HN := Aside0.mk hsn
                    clear hst hsn
                    by_cases hy : fineI (x[k].toNat : Int) = true
                    · gi_wp2_with (first | (refine ⟨trivial, ?_⟩; gi_at_call 83; refine (CallsIn.inRound l (callsIn_wide.2 (fine_calls _ _))).mono ?_; rintro e w' ⟨rfl, ⟨nd, rfl⟩⟩))
                      refine ⟨⟨k + 1, m + nd, by omega, by go_num, rfl, ⟨hF.out.trans (HS.out hy)⟩⟩, by simp [intOf]; omega⟩
                    · have hy' : fineI (x[k].toNat : Int) = false := by simpa using hy
                      clear hy
                      gi_wp2_with (first | (refine ⟨trivial, ?_⟩; gi_at_call 83; refine (CallsIn.inRound l (callsIn_wide.2 (fine_calls _ _))).mono ?_; rintro e w' ⟨rfl, ⟨nd, rfl⟩⟩))
                      have e9 : okE x = false := by rw [E0.out, hF.out]; exact HN.out hy'
                      exact ⟨keeps_draw_set _ _ _ _, ⟨⟨rfl, HB.out e9⟩, Boxed.set (W := W.drewN (m + nd)) _ HV.out⟩, below_draw_set hBw _ (Nat.le_refl _) _⟩
                  · obtain rfl : k = x.size := by omega
                    gi_wp2
                    have e9 : okE x = true := by rw [E0.out, hF.out]; exact fine_end x
                    exact ⟨keeps_draw _ _, rfl, ⟨by rw [List.all_append, HA.out]; simp [e9], HV.out⟩, hBw.trans (pw_below_drewN (Below.refl _ _) _)⟩
          · have e2b : decide ((30 : Int) < (x.size : Int)) = true := decide_eq_true (by omega)
            have e0 : okE x = false := by unfold okE; rw [decide_eq_false e2]; simp
            have E0 := Aside0.mk e0
            clear e0 e1 e2
            gi_wp2
            exact ⟨KeepsOthers.setCell _ _ _, ⟨⟨rfl, HB.out E0.out⟩, HV.out.set _⟩, hBw.setCell (p := ⟨w.heap.size, 0, none⟩) (Nat.le_refl _) _⟩
      case done =>
        rintro D W hD ⟨⟨hall, hv⟩, hBw⟩ hK
        have hc := hv.cell
        have hf := hv.frozen
        have HA := Aside0.mk hall
        clear hall
        gi_wp2
        have hK' := (KeepsOthers.setCell W ⟨w.heap.size, 0, none⟩ (.bool true)).same D _ hK rfl
        refine ⟨by simp, .inl ⟨_, _, rfl, run_takeDeferred hK', ?_⟩⟩
        have hc5 := cell_kept (World.cell?_setCell_same' W ⟨w.heap.size, 0, none⟩ (.bool true) (by rw [hc]; rfl)) (grownBy_putObj' _ D (.deferred none)) (fun r e => by cases e; exact ⟨_, hK', rfl⟩)
        refine ⟨.bool true, ?_, by rw [HA.out], (hBw.setCell (p := ⟨w.heap.size, 0, none⟩) (Nat.le_refl _) _).trans (belowK_b (w := w) (Nat.le_refl _) _ D _ _ (by simp at hD; omega) hK' rfl rfl)⟩
        simp [results, Try.f65, go_sem, hc5]
      case stop =>
        rintro D c pre W hD hpre ⟨⟨⟨rfl, hall⟩, hv⟩, hBw⟩ hK
        have hc := hv.cell
        have hE : (elems s).all okE = false := by
          rw [List.all_eq_false] at hall ⊢
          obtain ⟨x, hx, hx2⟩ := hall
          exact ⟨x, hpre.subset hx, hx2⟩
        have HA := Aside0.mk hE
        clear hall hE
        gi_wp2
        refine ⟨by simp, .inl ⟨_, _, rfl, run_takeDeferred hK, ?_⟩⟩
        have hc5 := cell_kept hc (grownBy_putObj' _ D (.deferred none)) (fun r e => by cases e; exact ⟨_, hK, rfl⟩)
        refine ⟨.bool false, ?_, by rw [HA.out], hBw.trans (belowK_b (w := w) (Nat.le_refl _) W D _ _ (by simp at hD; omega) hK rfl rfl)⟩
        simp [results, Try.f65, go_sem, hc5]
    · have h2b : decide ((60 : Int) < (s.size : Int)) = true := decide_eq_true (by omega)
      rw [valid_long h2]
      have hc := hbn.cell
      have hf := hbn.frozen
      clear hbn h1
      gi_wp2
      refine ⟨.bool false, ?_, rfl, ?_⟩
      · simp [results, Try.f65, go_sem]
      · exact (Below.refl w.heap.size w).alloc (Nat.le_refl _) _

end Go.Proofs.Ytmocfgghccmdgaa.Valid
