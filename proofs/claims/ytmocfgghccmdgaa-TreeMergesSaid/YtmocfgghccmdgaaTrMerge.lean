/- tree.Merge: the walk. -/
import Derived.Test.YtmocfgghccmdgaaTrOps
namespace Go.Proofs.Ytmocfgghccmdgaa.TrMerge
open Go Go.Proofs Go.RowKit Go.Proofs.YtmocfgghccmdgaaW.PrintWords Go.Proofs.Ytmocfgghccmdgaa.RowsLib Go.Proofs.Ytmocfgghccmdgaa.TrLib Go.Proofs.Ytmocfgghccmdgaa.PathBase Go.Proofs.Ytmocfgghccmdgaa.TrAt Go.Proofs.Ytmocfgghccmdgaa.TrCopy Go.Proofs.Ytmocfgghccmdgaa.TrPut Go.Proofs.Ytmocfgghccmdgaa.TrFits Go.Proofs.Ytmocfgghccmdgaa.TrOps
set_option linter.unusedVariables false
set_option linter.unusedSimpArgs false

/-- A file of b may not be merged. -/
def badF (s : List Fl) (x : Fl) : Bool := if (atF s x.1).2 = true ∧ ¬ (s.getD (atF s x.1).1 (⟨#[]⟩, ⟨#[]⟩)).2.toList = x.2.toList then true else !(fitsF s x.1)
def mergeL : List Fl → List Fl → Option (List Fl) × ByteArray
  | s, [] => (some s, ⟨#[]⟩)
  | s, x :: r => if badF s x = true then (none, x.1) else mergeL (putF s x) r
/-- The result: files, the fault's number, path. -/
def mergeT (a b : List Fl) : List Fl × Int × ByteArray := match mergeL a b with
  | (none, p) => ([], 4, p)
  | (some s, _) => if (s.length : Int) > max (a.length : Int) 60 then ([], 2, ⟨#[]⟩) else (s, 0, ⟨#[]⟩)
theorem putF_len (l : List Fl) (x : Fl) : (putF l x).length ≤ l.length + 1 := by
  unfold putF
  have hile := atI_le l x.1
  split
  · rw [List.length_set]; omega
  · simp only [List.length_append, List.length_take, List.length_cons, List.length_drop]
    omega
theorem putF_mem {l : List Fl} {x y : Fl} (h : y ∈ putF l x) : y = x ∨ y ∈ l := by
  unfold putF at h
  split at h
  · rcases List.mem_or_eq_of_mem_set h with h | h
    · exact .inr h
    · exact .inl h
  · rcases List.mem_append.1 h with h | h
    · exact .inr (List.mem_of_mem_take h)
    · rcases List.mem_cons.1 h with h | h
      · exact .inl h
      · exact .inr (List.mem_of_mem_drop h)

theorem fault_set {w wr : World} {n : Nat} {e0 p0 l0 : Value} (h : wr.heap[n]? = some (.cells #[e0, p0, l0] 37 (0, 0))) (hb : Below n w wr) (e p l : Value) :
    (((wr.setCell ⟨n, 0, none⟩ e).setCell ⟨n, 1, none⟩ p).setCell ⟨n, 2, none⟩ l).cell? ⟨n, 0, none⟩ = some e ∧ (((wr.setCell ⟨n, 0, none⟩ e).setCell ⟨n, 1, none⟩ p).setCell ⟨n, 2, none⟩ l).cell? ⟨n, 1, none⟩ = some p ∧
    (((wr.setCell ⟨n, 0, none⟩ e).setCell ⟨n, 1, none⟩ p).setCell ⟨n, 2, none⟩ l).cell? ⟨n, 2, none⟩ = some l ∧ Below n w (((wr.setCell ⟨n, 0, none⟩ e).setCell ⟨n, 1, none⟩ p).setCell ⟨n, 2, none⟩ l) := by
  have g0 := set_heap wr n 0 _ _ e h
  have g1 := set_heap _ n 1 _ _ p g0
  have g2 := set_heap _ n 2 _ _ l g1
  exact ⟨(box_cell (k := 0) g2 rfl).1, (box_cell (k := 1) g2 rfl).1, (box_cell (k := 2) g2 rfl).1, ((hb.setCell (p := ⟨n, 0, none⟩) (Nat.le_refl _) _).setCell (p := ⟨n, 1, none⟩) (Nat.le_refl _) _).setCell (p := ⟨n, 2, none⟩) (Nat.le_refl _) _⟩
theorem fault_own {wr : World} {n base : Nat} {v : Value} {s : List Fl} (h : wr.ownsRow base 24 2 v s.length (cellsF s)) (hn : n < base) (e p l : Value) :
    (((wr.setCell ⟨n, 0, none⟩ e).setCell ⟨n, 1, none⟩ p).setCell ⟨n, 2, none⟩ l).ownsRow base 24 2 v s.length (cellsF s) :=
  own_move h fun k hk => by
    have hk2 : k ≠ n := by have := own_ge h k hk; omega
    rw [Below.heap_setCell _ ⟨n, 2, none⟩ _ k hk2, Below.heap_setCell _ ⟨n, 1, none⟩ _ k hk2, Below.heap_setCell _ ⟨n, 0, none⟩ _ k hk2]

set_option maxRecDepth 100000 in
set_option maxHeartbeats 8000000 in
theorem Merge_calls (A1 : Option Addr) (c1 : Nat) (a : List Fl) (A2 : Option Addr) (c2 : Nat) (b : List Fl) (w : World) (hr1 : Kd.C kF w A1 a.length a) (hr2 : Kd.C kF w A2 b.length b) (hl1 : a.length ≤ 1000000) (hl2 : b.length ≤ 1000000) (hx1 : ∀ y ∈ a, y.1.size ≤ 1099511627776) (hx2 : ∀ y ∈ b, y.1.size ≤ 1099511627776) :
    Calls Try.prog 17 #[.slice A1 a.length c1, .slice A2 b.length c2] w
      fun e w' => ∃ v, e = .returned (.tuple #[v, .agg #[.int .i64 (mergeT a b).2.1, .string (mergeT a b).2.2, .int .i64 0]]) ∧ w'.ownsRow w.heap.size 24 2 v (mergeT a b).1.length (cellsF (mergeT a b).1) ∧ Below w.heap.size w w' := by
  have HF : Aside0 (mergeT a b = match mergeL a b with
    | (none, p) => ([], 4, p)
    | (some s, _) => if (s.length : Int) > max (a.length : Int) 60 then ([], 2, ⟨#[]⟩) else (s, 0, ⟨#[]⟩)) := ⟨rfl⟩
  obtain ⟨F, hF⟩ : ∃ F, mergeT a b = F := ⟨_, rfl⟩
  rw [hF] at HF ⊢
  have hmax := Kd.C_max hr2
  have hb0 : Below w.heap.size w (w.alloc (Obj.cells #[.int .i64 0, .string ⟨#[]⟩, .int .i64 0] 37)) := (Below.refl _ w).alloc (Nat.le_refl _) _
  have hfb0 : (w.alloc (Obj.cells #[.int .i64 0, .string ⟨#[]⟩, .int .i64 0] 37)).heap[w.heap.size]? = some (.cells #[.int .i64 0, .string ⟨#[]⟩, .int .i64 0] 37 (0, 0)) := heap_alloc_new w _
  obtain ⟨W, hW⟩ : ∃ W, w.alloc (Obj.cells #[.int .i64 0, .string ⟨#[]⟩, .int .i64 0] 37) = W := ⟨_, rfl⟩
  have HC2 := Aside0.mk (Kd.C_below hr2 hb0)
  have hWs : w.heap.size < W.heap.size := by rw [← hW]; simp
  have HFI := Aside0.mk (files_calls A1 c1 a W (by rw [← hW]; exact Kd.C_below hr1 hb0) (by omega))
  have HX1 := Aside0.mk hx1
  have HX2 := Aside0.mk hx2
  have HR2 := Aside0.mk hr2
  clear hr1 hr2 hx1 hx2 hF
  go_enter Try.func17, Try.ntmps17
  go_upto_region 1 with fail
  rw [hW] at hb0 hfb0 HC2
  try rw [hW]
  have HB0 := Aside0.mk hb0
  have HFB0 := Aside0.mk hfb0
  clear hb0 hfb0 hW
  go_wp2_with fail
  refine HFI.out.mono ?_
  rintro e w2 ⟨B, rfl, hS, hb2⟩
  have HB2 := Aside0.mk (HB0.out.trans (hb2.mono (by omega)))
  have HFB2 := Aside0.mk (block_later HFB0.out hb2)
  have HC2' := Aside0.mk (Kd.C_below HC2.out hb2)
  have HS := Aside0.mk hS
  have hs2 : W.heap.size ≤ w2.heap.size := hb2.size
  clear hb2 hS HFI HFB0 HC2 HB0
  go_wp2_with fail
  go_loopg [15] b.length (fun gg s15 wr => ∃ (k : Nat) (s : List Fl), k ≤ b.length ∧ b.length - k ≤ gg ∧ s15 = .int .i64 k ∧ s.length ≤ a.length + k ∧ Aside0 (∀ y ∈ s, y.1.size ≤ 1099511627776) ∧ Aside0 (mergeL s (b.drop k) = mergeL a b) ∧ Aside0 (Sf wr W.heap.size B s) ∧ Aside0 (Below w.heap.size w wr) ∧
    Aside0 (wr.heap[w.heap.size]? = some (.cells #[.int .i64 0, .string ⟨#[]⟩, .int .i64 0] 37 (0, 0))) ∧ Aside0 (Kd.C kF wr A2 b.length b) ∧ W.heap.size ≤ wr.heap.size)
  case atStart => exact ⟨0, a, Nat.zero_le _, by omega, rfl, by omega, HX1, ⟨rfl⟩, HS, HB2, HFB2, HC2', hs2⟩
  case round =>
    clear HS HB2 HFB2 HC2'
    obtain ⟨k, s, hk, hg, rfl, hsl, HXS, HM, HS, BW, HFB, HC, hsz⟩ := hrel
    by_cases hlt : k < b.length
    · obtain ⟨ad, hA, q0, q1⟩ := at_F HC.out hlt
      subst hA
      have hlt' : (k : Int) < (b.length : Int) := by omega
      have hM := HM.out
      rw [List.drop_eq_getElem_cons hlt, mergeL] at hM
      have hxk := HX2.out b[k] (List.getElem_mem hlt)
      obtain ⟨x, hx⟩ : ∃ x, b[k] = x := ⟨_, rfl⟩
      rw [hx] at q0 q1 hM hxk
      have HM1 := Aside0.mk hM
      clear hM hx HM
      go_upto_region 5 with fail
      obtain ⟨W4, hW4⟩ : ∃ W4, wr.alloc (Obj.cells #[Value.string x.1, Value.string x.2] 24) = W4 := ⟨_, rfl⟩
      have hb4 : Below wr.heap.size wr W4 := by rw [← hW4]; exact (Below.refl _ wr).alloc (Nat.le_refl _) _
      have hfx4 : W4.heap[wr.heap.size]? = some (.cells (encF x).toArray 24 (0, 0)) := by rw [← hW4]; exact heap_alloc_new wr _
      have hs4 : wr.heap.size < W4.heap.size := by rw [← hW4]; simp
      rw [hW4]
      have c3 : W4.cell? ⟨wr.heap.size, 0, none⟩ = some (.string x.1) := (box_cell (k := 0) hfx4 rfl).1
      have c4 : W4.cell? ⟨wr.heap.size, 1, none⟩ = some (.string x.2) := (box_cell (k := 1) hfx4 rfl).1
      have HS4 := Aside0.mk (HS.out.later hb4)
      have HB4 := Aside0.mk (BW.out.trans (hb4.mono (by omega)))
      have HFX4 := Aside0.mk hfx4
      have HFB4 := Aside0.mk (block_later HFB.out hb4)
      have HC4 := Aside0.mk (Kd.C_below HC.out hb4)
      have HAT := Aside0.mk (at_calls W.heap.size B s x.1 HXS.out hxk (by omega) W4 HS4.out)
      clear hW4 hb4 hfx4 HS BW HFB HC q0 q1
      go_wp2_with fail
      refine HAT.out.mono ?_
      rintro e w5 ⟨rfl, hb5⟩
      have HS5 := Aside0.mk (HS4.out.later hb5)
      have HB5 := Aside0.mk (HB4.out.trans (hb5.mono (by omega)))
      have hfx5 := block_later HFX4.out hb5
      have HFB5 := Aside0.mk (block_later HFB4.out hb5)
      have HC5 := Aside0.mk (Kd.C_below HC4.out hb5)
      have hs5 : wr.heap.size < w5.heap.size := by have := hb5.size; omega
      have d3 : w5.cell? ⟨wr.heap.size, 0, none⟩ = some (.string x.1) := (box_cell (k := 0) hfx5 rfl).1
      have d4 : w5.cell? ⟨wr.heap.size, 1, none⟩ = some (.string x.2) := (box_cell (k := 1) hfx5 rfl).1
      have HFX5 := Aside0.mk hfx5
      have HBAD : Aside0 (badF s x = if (atF s x.1).2 = true ∧ ¬ (s.getD (atF s x.1).1 (⟨#[]⟩, ⟨#[]⟩)).2.toList = x.2.toList then true else !(fitsF s x.1)) := ⟨rfl⟩
      have hilt : (atF s x.1).2 = true → (atF s x.1).1 < s.length := fun h2 => by
        have : (decide (atI s x.1 < s.length) && decide (cmpP (s.getD (atI s x.1) (⟨#[]⟩, ⟨#[]⟩)).1 x.1 = 0)) = true := h2
        rw [Bool.and_eq_true] at this
        exact of_decide_eq_true this.1
      have HFT := Aside0.mk (fun (W' : World) (hb : Below w5.heap.size w5 W') => (fits_calls W.heap.size B s x.1 HXS.out hxk (by omega) W' (HS5.out.later hb)).mono (fun e w' (h : e = .returned (.bool (fitsF s x.1)) ∧ Below W'.heap.size W' w') => (⟨h.1, hb.trans (h.2.mono hb.size)⟩ : e = .returned (.bool (fitsF s x.1)) ∧ Below w5.heap.size w5 w')))
      obtain ⟨r, hr⟩ : ∃ r, atF s x.1 = r := ⟨_, rfl⟩
      rw [hr] at HBAD hilt ⊢
      obtain ⟨i, is⟩ := r
      simp only at HBAD hilt ⊢
      obtain ⟨ft, hft⟩ : ∃ ft, fitsF s x.1 = ft := ⟨_, rfl⟩
      rw [hft] at HBAD HFT
      obtain ⟨bad, hbad⟩ : ∃ bad, badF s x = bad := ⟨_, rfl⟩
      rw [hbad] at HBAD HM1
      clear hb5 hfx5 HAT HS4 HB4 HFX4 HFB4 HC4 c3 c4 hr hft hbad
      go_upto_region 6 with fail
      go_cut [46] (fun v wx => v = .bool bad ∧ Aside0 (Below w5.heap.size w5 wx))
      case first =>
        have hlB := HS5.out.lt
        have hB : Below w5.heap.size w5 w5 := Below.refl _ _
        have hBd : Below w5.heap.size w5 w5.drew := hB.drew
        obtain ⟨v, hv, ho, hBb⟩ := HS5.out
        obtain ⟨A5, k5, rfl, hlc, hC5⟩ := own_C ho
        have m0 := (box_cell (k := 0) hv rfl).1
        cases is with
        | true =>
          have hi := hilt rfl
          have hii : (i : Int) < (s.length : Int) := by omega
          obtain ⟨ad5, hA5, p0, p1⟩ := at_F hC5 hi
          subst hA5
          have hgd : s.getD i (⟨#[]⟩, ⟨#[]⟩) = s[i] := by simp [List.getD, List.getElem?_eq_getElem hi]
          rw [hgd] at HBAD
          obtain ⟨y, hy⟩ : ∃ y, s[i] = y := ⟨_, rfl⟩
          rw [hy] at p0 p1 HBAD
          have lad : (ad5.add (i * 2)).block < w5.heap.size := World.block_lt_of_cell? w5 ⟨(ad5.add (i * 2)).block, (ad5.add (i * 2)).off + 1, none⟩ p1
          by_cases hq : y.2.toList = x.2.toList
          · have hq1 : (y.2.toList == x.2.toList) = true := beq_iff_eq.2 hq
            have hq2 : (y.2.toList != x.2.toList) = false := by rw [bne, hq1]; rfl
            have hbd : bad = !ft := by rw [HBAD.out, if_neg (fun h => h.2 hq)]
            subst hbd
            have SL : Aside0 (∀ w', Below w5.heap.size w5 w' → w'.cell? ⟨B, 0, none⟩ = some (.slice (some ad5) s.length k5) ∧ w'.cell? ⟨wr.heap.size, 0, none⟩ = some (.string x.1) ∧ w'.cell? ⟨wr.heap.size, 1, none⟩ = some (.string x.2) ∧ w'.cell? ⟨(ad5.add (i * 2)).block, (ad5.add (i * 2)).off + 1, none⟩ = some (.string y.2) ∧ Below w5.heap.size w5 w') :=
              ⟨fun w' hb => ⟨(hb.cell (p := ⟨B, 0, none⟩) hlB).trans m0, (hb.cell (p := ⟨wr.heap.size, 0, none⟩) hs5).trans d3, (hb.cell (p := ⟨wr.heap.size, 1, none⟩) hs5).trans d4, (hb.cell (p := ⟨(ad5.add (i * 2)).block, (ad5.add (i * 2)).off + 1, none⟩) lad).trans p1, hb⟩⟩
            clear hv ho hC5 hgd hy p0 hq m0 d3 d4 p1 HBAD
            go_region_held3 (fun w' => w'.cell? ⟨B, 0, none⟩ = some (.slice (some ad5) s.length k5) ∧ w'.cell? ⟨wr.heap.size, 0, none⟩ = some (.string x.1) ∧ w'.cell? ⟨wr.heap.size, 1, none⟩ = some (.string x.2) ∧ w'.cell? ⟨(ad5.add (i * 2)).block, (ad5.add (i * 2)).off + 1, none⟩ = some (.string y.2) ∧ Below w5.heap.size w5 w')
              (first
                | exact SL.out _ hB
                | exact SL.out _ hBd
                | exact SL.out _ hbb
                | exact SL.out _ (by go_split_ands; assumption)
                | go_keep)
              (first
                | (go_at_call 40; refine (HFT.out _ (by first | exact hBd | (go_split_ands; assumption))).mono ?_; rintro e w' ⟨rfl, hbb⟩))
            all_goals (first | (go_meet; case rel => exact ⟨rfl, ⟨hbb⟩⟩) | (go_wp2_with fail; go_meet; case rel => exact ⟨rfl, ⟨hbb⟩⟩))
          · have hq1 : (y.2.toList == x.2.toList) = false := beq_eq_false_iff_ne.2 hq
            have hq2 : (y.2.toList != x.2.toList) = true := by rw [bne, hq1]; rfl
            have hbd : bad = true := by rw [HBAD.out, if_pos ⟨rfl, hq⟩]
            subst hbd
            clear hv ho hC5 hgd hy hq HBAD
            go_region
            all_goals (first | (go_meet; case rel => exact ⟨rfl, ⟨hBd⟩⟩) | (go_wp2_with fail; go_meet; case rel => exact ⟨rfl, ⟨hBd⟩⟩))
        | false =>
          have hbd : bad = !ft := by rw [HBAD.out, if_neg (fun h => by cases h.1)]
          subst hbd
          have hund : undef = Value.tuple #[] := rfl
          clear hv ho hC5 m0 HBAD hilt
          refine wp_region_any (by kernel_rfl) ?_
          try (change wpAny _ _ _ _ _ _ _ (World.drew _))
          refine wpAny_take (i := 0) (v := .bool false) rfl (by kernel_rfl) (by kernel_rfl) (by kernel_rfl) (fun _ _ _ h => h) (Or.inl ⟨by kernel_rfl, fun w => by go_simp⟩) ?_
          simp only [Act.put, List.setIfInBounds_toArray, List.set_cons_zero, List.set_cons_succ]
          refine wpAny_take (i := 1) (v := .bool false) rfl (by kernel_rfl) (by kernel_rfl) (by kernel_rfl) (fun _ _ _ h => h) (Or.inl ⟨by kernel_rfl, fun w => by go_simp⟩) ?_
          simp only [Act.put, List.setIfInBounds_toArray, List.set_cons_zero, List.set_cons_succ]
          refine wpAny_take (i := 2) (v := undef) rfl (by kernel_rfl) (by kernel_rfl) (by kernel_rfl) (fun _ _ _ h => h) (Or.inr ⟨by kernel_rfl, rfl⟩) ?_
          simp only [Act.put, List.setIfInBounds_toArray, List.set_cons_zero, List.set_cons_succ]
          refine wpAny_take (i := 3) (v := undef) rfl (by kernel_rfl) (by kernel_rfl) (by kernel_rfl) (fun _ _ _ h => h) (Or.inr ⟨by kernel_rfl, rfl⟩) ?_
          simp only [Act.put, List.setIfInBounds_toArray, List.set_cons_zero, List.set_cons_succ]
          refine wpAny_take (i := 4) (v := undef) rfl (by kernel_rfl) (by kernel_rfl) (by kernel_rfl) (fun _ _ _ h => h) (Or.inr ⟨by kernel_rfl, rfl⟩) ?_
          simp only [Act.put, List.setIfInBounds_toArray, List.set_cons_zero, List.set_cons_succ]
          refine wpAny_take (i := 5) (v := undef) rfl (by kernel_rfl) (by kernel_rfl) (by kernel_rfl) (fun _ _ _ h => h) (Or.inr ⟨by kernel_rfl, rfl⟩) ?_
          simp only [Act.put, List.setIfInBounds_toArray, List.set_cons_zero, List.set_cons_succ]
          refine wpAny_take (i := 6) (v := undef) rfl (by kernel_rfl) (by kernel_rfl) (by kernel_rfl) (fun _ _ _ h => h) (Or.inr ⟨by kernel_rfl, rfl⟩) ?_
          simp only [Act.put, List.setIfInBounds_toArray, List.set_cons_zero, List.set_cons_succ]
          refine wpAny_take (i := 7) (v := undef) rfl (by kernel_rfl) (by kernel_rfl) (by kernel_rfl) (fun _ _ _ h => h) (Or.inr ⟨by kernel_rfl, rfl⟩) ?_
          simp only [Act.put, List.setIfInBounds_toArray, List.set_cons_zero, List.set_cons_succ]
          refine wpAny_take (i := 8) (v := undef) rfl (by kernel_rfl) (by kernel_rfl) (by kernel_rfl) (fun _ _ _ h => h) (Or.inr ⟨by kernel_rfl, rfl⟩) ?_
          simp only [Act.put, List.setIfInBounds_toArray, List.set_cons_zero, List.set_cons_succ]
          refine wpAny_take (i := 9) (v := undef) rfl (by kernel_rfl) (by kernel_rfl) (by kernel_rfl) (fun _ _ _ h => h) (Or.inr ⟨by kernel_rfl, rfl⟩) ?_
          simp only [Act.put, List.setIfInBounds_toArray, List.set_cons_zero, List.set_cons_succ]
          refine wpAny_take (i := 10) (v := undef) rfl (by kernel_rfl) (by kernel_rfl) (by kernel_rfl) (fun _ _ _ h => h) (Or.inr ⟨by kernel_rfl, rfl⟩) ?_
          simp only [Act.put, List.setIfInBounds_toArray, List.set_cons_zero, List.set_cons_succ]
          refine wpAny_take (i := 11) (v := undef) rfl (by kernel_rfl) (by kernel_rfl) (by kernel_rfl) (fun _ _ _ h => h) (Or.inr ⟨by kernel_rfl, rfl⟩) ?_
          simp only [Act.put, List.setIfInBounds_toArray, List.set_cons_zero, List.set_cons_succ]
          refine wpAny_take (i := 12) (v := undef) rfl (by kernel_rfl) (by kernel_rfl) (by kernel_rfl) (fun _ _ _ h => h) (Or.inr ⟨by kernel_rfl, rfl⟩) ?_
          simp only [Act.put, List.setIfInBounds_toArray, List.set_cons_zero, List.set_cons_succ]
          refine wpAny_take (i := 13) (v := .bool false) rfl (by kernel_rfl) (by kernel_rfl) (by kernel_rfl) (fun _ _ _ h => h) (Or.inl ⟨by kernel_rfl, fun w => by go_simp⟩) ?_
          simp only [Act.put, List.setIfInBounds_toArray, List.set_cons_zero, List.set_cons_succ]
          refine wpAny_take (i := 14) (v := .bool false) rfl (by kernel_rfl) (by kernel_rfl) (by kernel_rfl) (fun _ _ _ h => h) (Or.inl ⟨by kernel_rfl, fun w => by go_simp⟩) ?_
          simp only [Act.put, List.setIfInBounds_toArray, List.set_cons_zero, List.set_cons_succ]
          refine wpAny_take (i := 15) (v := .pointer (some ⟨B, 0, none⟩)) rfl (by kernel_rfl) (by kernel_rfl) (by kernel_rfl) (fun _ _ _ h => h) (Or.inl ⟨by kernel_rfl, fun w => by go_simp⟩) ?_
          simp only [Act.put, List.setIfInBounds_toArray, List.set_cons_zero, List.set_cons_succ]
          refine wpAny_take (i := 16) (v := .pointer (some ⟨wr.heap.size, 0, none⟩)) rfl (by kernel_rfl) (by kernel_rfl) (by kernel_rfl) (fun _ _ _ h => h) (Or.inl ⟨by kernel_rfl, fun w => by go_simp⟩) ?_
          simp only [Act.put, List.setIfInBounds_toArray, List.set_cons_zero, List.set_cons_succ]
          refine wpAny_ready (rs := [17]) (by kernel_rfl) (by simp) ?_
          refine AllReady.cons rfl (fun K hK => ?_) AllReady.nil
          go_simp
          refine hK _ _ ?_
          clear hK K
          try simp only [Act.put, List.setIfInBounds_toArray, List.set_cons_zero, List.set_cons_succ]
          refine wpAny_ready (rs := [18]) (by kernel_rfl) (by simp) ?_
          refine AllReady.cons rfl (fun K hK => ?_) AllReady.nil
          go_wp2_with (go_at_call 40; refine (HFT.out _ hBd).mono ?_; rintro e w' ⟨rfl, hbb⟩)
          try simp only [Act.put, List.setIfInBounds_toArray, List.set_cons_zero, List.set_cons_succ]
          refine wpAny_ready (rs := [19]) (by kernel_rfl) (by simp) ?_
          refine AllReady.cons rfl (fun K hK => ?_) AllReady.nil
          go_simp
          refine hK _ _ ?_
          clear hK K
          try simp only [Act.put, List.setIfInBounds_toArray, List.set_cons_zero, List.set_cons_succ]
          refine wpAny_ready (rs := [20]) (by kernel_rfl) (by simp) ?_
          refine AllReady.cons rfl (fun K hK => ?_) AllReady.nil
          go_simp
          refine hK _ _ ?_
          clear hK K
          try simp only [Act.put, List.setIfInBounds_toArray, List.set_cons_zero, List.set_cons_succ]
          refine wpAny_done (by kernel_rfl) ?_ _
          first | (go_meet; case rel => exact ⟨rfl, ⟨hbb⟩⟩) | (go_wp2_with fail; go_meet; case rel => exact ⟨rfl, ⟨hbb⟩⟩)
      case rest =>
        obtain ⟨rfl, B6⟩ := hcut
        have HS6 := Aside0.mk (HS5.out.later B6.out)
        have HB6 := Aside0.mk (HB5.out.trans (B6.out.mono (by omega)))
        have hfx6 := block_later HFX5.out B6.out
        have HFB6 := Aside0.mk (block_later HFB5.out B6.out)
        have HC6 := Aside0.mk (Kd.C_below HC5.out B6.out)
        have hs6 : wr.heap.size < wc.heap.size := by have := B6.out.size; omega
        have e3 : wc.cell? ⟨wr.heap.size, 0, none⟩ = some (.string x.1) := (box_cell (k := 0) hfx6 rfl).1
        have e4 : wc.cell? ⟨wr.heap.size, 1, none⟩ = some (.string x.2) := (box_cell (k := 1) hfx6 rfl).1
        have f0 := box_cell (k := 0) HFB6.out rfl
        have f1 := box_cell (k := 1) HFB6.out rfl
        have f2 := box_cell (k := 2) HFB6.out rfl
        have HPU := Aside0.mk (put_calls W.heap.size B s x HXS.out hxk (by omega) wc HS6.out)
        clear HS5 HB5 HFX5 HFB5 HC5 d3 d4 B6 HFT HBAD hfx6
        cases bad with
        | true =>
          have hM := HM1.out
          rw [if_pos rfl] at hM
          have hF := HF.out
          rw [← hM] at hF
          simp only at hF
          have HFF := Aside0.mk hF
          clear hM hF HM1 HF
          go_wp2_with fail
          go_region
          all_goals go_wp2_with fail
          obtain ⟨V1, hV1⟩ : ∃ V1, wc.setCell ⟨w.heap.size, 0, none⟩ (.int .i64 4) = V1 := ⟨_, rfl⟩
          have g0 : V1.heap[w.heap.size]? = some (.cells #[.int .i64 4, .string ⟨#[]⟩, .int .i64 0] 37 (0, 0)) := by rw [← hV1]; exact set_heap wc _ 0 _ _ _ HFB6.out
          have g1 : (V1.setCell ⟨w.heap.size, 1, none⟩ (.string x.1)).heap[w.heap.size]? = some (.cells #[.int .i64 4, .string x.1, .int .i64 0] 37 (0, 0)) := set_heap V1 _ 1 _ _ _ g0
          have g2 : ((V1.setCell ⟨w.heap.size, 1, none⟩ (.string x.1)).setCell ⟨w.heap.size, 2, none⟩ (.int .i64 0)).heap[w.heap.size]? = some (.cells #[.int .i64 4, .string x.1, .int .i64 0] 37 (0, 0)) := set_heap _ _ 2 _ _ _ g1
          have hbV : Below w.heap.size w ((V1.setCell ⟨w.heap.size, 1, none⟩ (.string x.1)).setCell ⟨w.heap.size, 2, none⟩ (.int .i64 0)) := by
            rw [← hV1]
            exact ((HB6.out.setCell (p := ⟨w.heap.size, 0, none⟩) (Nat.le_refl _) _).setCell (p := ⟨w.heap.size, 1, none⟩) (Nat.le_refl _) _).setCell (p := ⟨w.heap.size, 2, none⟩) (Nat.le_refl _) _
          rw [hV1]
          obtain ⟨V, hV⟩ : ∃ V, (V1.setCell ⟨w.heap.size, 1, none⟩ (.string x.1)).setCell ⟨w.heap.size, 2, none⟩ (.int .i64 0) = V := ⟨_, rfl⟩
          rw [hV] at g2 hbV
          rw [hV]
          have t0 := (box_cell (k := 0) g2 rfl).1
          have t1 := (box_cell (k := 1) g2 rfl).1
          have t2 := (box_cell (k := 2) g2 rfl).1
          clear hV hV1 g0 g1 g2 f0 f1 f2 e3 e4 HFB6
          refine bodyPost_ret (by simp [t0, t1, t2, results, Try.results17, go_sem]; try rfl) rfl ?_
          rw [HFF.out]
          exact ⟨_, rfl, nil_own _ _, hbV.drew⟩
        | false =>
          have hM := HM1.out
          rw [if_neg (by decide)] at hM
          have HM2 := Aside0.mk hM
          clear hM HM1 f0 f1 f2
          go_wp2_with fail
          refine HPU.out.mono ?_
          rintro e w7 ⟨rfl, hS7, hb7⟩
          have HS7 := Aside0.mk hS7
          have HB7 := Aside0.mk (HB6.out.trans (hb7.mono (by omega)))
          have HFB7 := Aside0.mk ((hb7.block w.heap.size (by omega)).trans HFB6.out)
          have hlen := putF_len s x
          have HX7 : Aside0 (∀ y ∈ putF s x, y.1.size ≤ 1099511627776) := ⟨fun y hy => by
            rcases putF_mem hy with rfl | h
            · exact hxk
            · exact HXS.out y h⟩
          have hs7 : W.heap.size ≤ w7.heap.size := by have := hb7.size; omega
          clear hS7 HPU e3 e4
          go_wp2_with fail
          go_roundg (b.length - (k + 1))
          case measure => omega
          case rel => exact ⟨k + 1, putF s x, by omega, Nat.le_refl _, by go_num, by omega, HX7, HM2, HS7, HB7, HFB7, ⟨Kd.C_below HR2.out HB7.out⟩, hs7⟩
    · have hlt' : ¬ ((k : Int) < (b.length : Int)) := by omega
      obtain rfl : k = b.length := by omega
      have hM := HM.out
      rw [List.drop_length, mergeL] at hM
      have hF := HF.out
      rw [← hM] at hF
      simp only at hF
      obtain ⟨v, hv, ho, hBb⟩ := HS.out
      obtain ⟨A4, k4, rfl, -, -⟩ := own_C ho
      have m0 := (box_cell (k := 0) hv rfl).1
      have HO := Aside0.mk ho
      have HFF := Aside0.mk hF
      have f0 := box_cell (k := 0) HFB.out rfl
      have f1 := box_cell (k := 1) HFB.out rfl
      have f2 := box_cell (k := 2) HFB.out rfl
      have hmx : max (a.length : Int) 60 = if (a.length : Int) ≤ 60 then 60 else (a.length : Int) := by rw [Int.max_def]
      clear hM HM hv ho hF HF HS
      by_cases hgt : (s.length : Int) > max (a.length : Int) 60
      · have HF1 := Aside0.mk (HFF.out.trans (if_pos hgt))
        clear HFF
        obtain ⟨t0, t1, t2, hbV⟩ := fault_set HFB.out BW.out (.int .i64 2) (.string ⟨#[]⟩) (.int .i64 0)
        go_wp2_with fail
        all_goals (try (exfalso; omega))
        all_goals (
          obtain ⟨V, hV⟩ : ∃ V, ((wr.setCell ⟨w.heap.size, 0, none⟩ (.int .i64 2)).setCell ⟨w.heap.size, 1, none⟩ (.string ⟨#[]⟩)).setCell ⟨w.heap.size, 2, none⟩ (.int .i64 0) = V := ⟨_, rfl⟩
          rw [hV] at t0 t1 t2 hbV
          rw [hV]
          clear hV f0 f1 f2
          refine bodyPost_ret (by simp [t0, t1, t2, results, Try.results17, go_sem]; try rfl) rfl ?_
          rw [HF1.out]
          exact ⟨_, rfl, nil_own _ _, hbV⟩)
      · have HF1 := Aside0.mk (HFF.out.trans (if_neg hgt))
        clear HFF
        obtain ⟨t0, t1, t2, hbV⟩ := fault_set HFB.out BW.out (.int .i64 0) (.string ⟨#[]⟩) (.int .i64 0)
        have hoV := fault_own HO.out hWs (.int .i64 0) (.string ⟨#[]⟩) (.int .i64 0)
        have HOV := Aside0.mk hoV
        clear hoV
        go_wp2_with fail
        all_goals (try (exfalso; omega))
        all_goals (
          obtain ⟨V, hV⟩ : ∃ V, ((wr.setCell ⟨w.heap.size, 0, none⟩ (.int .i64 0)).setCell ⟨w.heap.size, 1, none⟩ (.string ⟨#[]⟩)).setCell ⟨w.heap.size, 2, none⟩ (.int .i64 0) = V := ⟨_, rfl⟩
          rw [hV] at t0 t1 t2 hbV HOV
          rw [hV]
          clear hV f0 f1 f2
          refine bodyPost_ret (by simp [t0, t1, t2, results, Try.results17, go_sem]; try rfl) rfl ?_
          rw [HF1.out]
          refine ⟨_, rfl, ?_, hbV⟩
          obtain ⟨p1, p2⟩ := HOV.out
          refine ⟨p1, ?_⟩
          rcases p2 with p2 | ⟨g, cap, cur, pe, pb, pr⟩
          · exact .inl p2
          · exact .inr ⟨g, cap, cur, pe, by omega, pr⟩)
end Go.Proofs.Ytmocfgghccmdgaa.TrMerge
