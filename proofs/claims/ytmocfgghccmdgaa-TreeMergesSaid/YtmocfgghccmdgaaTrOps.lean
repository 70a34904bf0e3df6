/- tree.wrong, Put, Drop, Find: the walk. -/
import Derived.Test.YtmocfgghccmdgaaTrFits
namespace Go.Proofs.Ytmocfgghccmdgaa.TrOps
open Go Go.Proofs Go.RowKit Go.Proofs.YtmocfgghccmdgaaW.PrintWords Go.Proofs.Ytmocfgghccmdgaa.RowsLib Go.Proofs.Ytmocfgghccmdgaa.TrLib Go.Proofs.Ytmocfgghccmdgaa.PathBase Go.Proofs.Ytmocfgghccmdgaa.TrAt Go.Proofs.Ytmocfgghccmdgaa.TrCopy Go.Proofs.Ytmocfgghccmdgaa.TrPut Go.Proofs.Ytmocfgghccmdgaa.TrFits
set_option linter.unusedVariables false
set_option linter.unusedSimpArgs false

/-- What is wrong with a file by itself. -/
def wrongF (x : Fl) : Int := if Valid.valid x.1 = true then (if (x.2.size : Int) > 4000 then 2 else 0) else 10
theorem wrong_calls (x : Fl) (hx : x.1.size ≤ 140737488351232) (w : World) : Calls Try.prog 38 #[.agg #[.string x.1, .string x.2]] w fun e w' => e = .returned (.int .i64 (wrongF x)) ∧ Below w.heap.size w w' := by
  refine BTb.tree_wrong.calls x.1 x.2 _ w ?_
  unfold BTb.tree_wrong.f BTb.paths_Valid.f wrongF
  rw [if_pos hx, Option.bind_some]
  cases Valid.valid x.1 with
  | true =>
    rw [if_pos rfl, if_pos rfl]
    split <;> rfl
  | false => rw [if_neg (by decide), if_neg (by decide)]
def putT (l : List Fl) (x : Fl) : List Fl × Int :=
  if wrongF x = 0 then (if fitsF l x.1 = true then (if ((putF l x).length : Int) > 60 then ([], 2) else (putF l x, 0)) else ([], 4)) else ([], wrongF x)
theorem nil_own (w : World) (base : Nat) : w.ownsRow base 24 2 (.slice none 0 0) ([] : List Fl).length (cellsF []) := ⟨rfl, .inl ⟨rfl, rfl⟩⟩

set_option maxRecDepth 100000 in
set_option maxHeartbeats 8000000 in
theorem Put_calls (A : Option Addr) (c : Nat) (l : List Fl) (x : Fl) (w : World) (hr : Kd.C kF w A l.length l) (hl : l.length ≤ 1000000) (hx : ∀ y ∈ l, y.1.size ≤ 1099511627776) (hk : x.1.size ≤ 1099511627776) :
    Calls Try.prog 14 #[.slice A l.length c, .agg #[.string x.1, .string x.2]] w
      fun e w' => ∃ v, e = .returned (.tuple #[v, .int .i64 (putT l x).2]) ∧ w'.ownsRow w.heap.size 24 2 v (putT l x).1.length (cellsF (putT l x).1) ∧ Below w.heap.size w w' := by
  have HF : Aside0 (putT l x = if wrongF x = 0 then (if fitsF l x.1 = true then (if ((putF l x).length : Int) > 60 then ([], 2) else (putF l x, 0)) else ([], 4)) else ([], wrongF x)) := ⟨rfl⟩
  obtain ⟨F, hF⟩ : ∃ F, putT l x = F := ⟨_, rfl⟩
  rw [hF] at HF ⊢
  have hb0 : Below w.heap.size w (w.alloc (Obj.cells #[Value.string x.1, Value.string x.2] 24)) := (Below.refl _ w).alloc (Nat.le_refl _) _
  have hxb0 : (w.alloc (Obj.cells #[Value.string x.1, Value.string x.2] 24)).heap[w.heap.size]? = some (.cells (encF x).toArray 24 (0, 0)) := heap_alloc_new w _
  have HC := Aside0.mk (Kd.C_below hr hb0)
  have HW := Aside0.mk (fun W => wrong_calls x (by omega) W)
  obtain ⟨wr, hwr⟩ : ∃ wr, wrongF x = wr := ⟨_, rfl⟩
  rw [hwr] at HW HF
  obtain ⟨W, hW⟩ : ∃ W, w.alloc (Obj.cells #[Value.string x.1, Value.string x.2] 24) = W := ⟨_, rfl⟩
  have HX := Aside0.mk hx
  have hWs : w.heap.size < W.heap.size := by rw [← hW]; simp
  clear hr hx hF hwr
  go_enter Try.func14, Try.ntmps14
  go_upto_region 1 with fail
  rw [hW] at hb0 hxb0 HC
  try rw [hW]
  have c3 := (box_cell (k := 0) hxb0 rfl).1
  have c4 := (box_cell (k := 1) hxb0 rfl).1
  have HB0 := Aside0.mk hb0
  have HXB := Aside0.mk hxb0
  clear hb0 hxb0 hW
  go_wp2_with fail
  refine (HW.out _).mono ?_
  rintro e w1 ⟨rfl, hb1⟩
  have HB1 := Aside0.mk (HB0.out.trans (hb1.mono HB0.out.size))
  have HC1 := Aside0.mk (Kd.C_below HC.out hb1)
  have hxb1 := block_later HXB.out hb1
  have d3 := (box_cell (k := 0) hxb1 rfl).1
  have d4 := (box_cell (k := 1) hxb1 rfl).1
  have HXB1 := Aside0.mk hxb1
  have hs1 : w.heap.size < w1.heap.size := by have := hb1.size; omega
  clear hb1 hxb1 HW HC HXB c3 c4
  by_cases h0 : wr = 0
  · subst h0
    have HF1 := Aside0.mk (HF.out.trans (if_pos rfl))
    have HFI := Aside0.mk (files_calls A c l w1 HC1.out (by omega))
    clear HF HC1
    go_wp2_with fail
    refine HFI.out.mono ?_
    rintro e w2 ⟨B, rfl, hS, hb2⟩
    have HB2 := Aside0.mk (HB1.out.trans (hb2.mono (by omega)))
    have hxb2 := block_later HXB1.out hb2
    have f3 := (box_cell (k := 0) hxb2 rfl).1
    have f4 := (box_cell (k := 1) hxb2 rfl).1
    have HXB2 := Aside0.mk hxb2
    have HS := Aside0.mk hS
    have hs2 : w.heap.size < w2.heap.size := by have := hb2.size; omega
    have HFT := Aside0.mk (fits_calls w1.heap.size B l x.1 HX.out hk (by omega) w2 hS)
    obtain ⟨ft, hft⟩ : ∃ ft, fitsF l x.1 = ft := ⟨_, rfl⟩
    rw [hft] at HFT HF1
    clear hb2 hxb2 hS HFI HXB1 d3 d4 hft
    go_wp2_with fail
    refine HFT.out.mono ?_
    rintro e w3 ⟨rfl, hb3⟩
    have HB3 := Aside0.mk (HB2.out.trans (hb3.mono (by omega)))
    have hxb3 := block_later HXB2.out hb3
    have g3 := (box_cell (k := 0) hxb3 rfl).1
    have g4 := (box_cell (k := 1) hxb3 rfl).1
    have hS3 := HS.out.later hb3
    have HS3 := Aside0.mk hS3
    have hs3 : w.heap.size < w3.heap.size := by have := hb3.size; omega
    clear hb3 hxb3 HFT HXB2 f3 f4
    cases ft with
    | false =>
      have HF2 := Aside0.mk (HF1.out.trans (if_neg (by decide)))
      clear HF1 g3 g4
      go_wp2_with fail
      go_ret2
      rw [HF2.out]
      exact ⟨_, rfl, nil_own _ _, HB3.out⟩
    | true =>
      have HF2 := Aside0.mk (HF1.out.trans (if_pos rfl))
      have HPU := Aside0.mk (put_calls w1.heap.size B l x HX.out hk (by omega) w3 hS3)
      obtain ⟨q, hq⟩ : ∃ q, putF l x = q := ⟨_, rfl⟩
      rw [hq] at HPU HF2
      clear HF1 hS3 hq
      go_wp2_with fail
      refine HPU.out.mono ?_
      rintro e w4 ⟨rfl, hS4, hb4⟩
      have HB4 := Aside0.mk (HB3.out.trans (hb4.mono (by omega)))
      obtain ⟨v, hv, ho, hBb⟩ := hS4
      obtain ⟨A4, k4, rfl, -, -⟩ := own_C ho
      have m0 := (box_cell (k := 0) hv rfl).1
      have HO := Aside0.mk ho
      clear hb4 hv ho HPU g3 g4
      by_cases h60 : (q.length : Int) > 60
      · have HF3 := Aside0.mk (HF2.out.trans (if_pos h60))
        have h60' : decide ((60 : Int) < (q.length : Int)) = true := decide_eq_true (by omega)
        clear HF2
        go_wp2_with fail
        go_ret2
        rw [HF3.out]
        exact ⟨_, rfl, nil_own _ _, HB4.out⟩
      · have HF3 := Aside0.mk (HF2.out.trans (if_neg h60))
        have h60' : decide ((60 : Int) < (q.length : Int)) = false := decide_eq_false (by omega)
        clear HF2
        go_wp2_with fail
        go_ret2
        rw [HF3.out]
        refine ⟨_, rfl, ?_, HB4.out⟩
        obtain ⟨p1, p2⟩ := HO.out
        refine ⟨p1, ?_⟩
        rcases p2 with p2 | ⟨g, cap, cur, pe, pb, pr⟩
        · exact .inl p2
        · exact .inr ⟨g, cap, cur, pe, by omega, pr⟩
  · have hwz : (wr != 0) = true := by rw [bne_iff_ne]; exact h0
    have HF1 := Aside0.mk (HF.out.trans (if_neg h0))
    clear HF HC1
    go_wp2_with fail
    go_ret2
    rw [HF1.out]
    exact ⟨_, rfl, nil_own _ _, HB1.out⟩

def dropT (l : List Fl) (k : ByteArray) : List Fl × Int := if (atF l k).2 = true then (dropF l k, 0) else ([], 3)

set_option maxRecDepth 100000 in
set_option maxHeartbeats 8000000 in
theorem Drop_calls (A : Option Addr) (c : Nat) (l : List Fl) (k : ByteArray) (w : World) (hr : Kd.C kF w A l.length l) (hl : l.length ≤ 1000000) (hx : ∀ y ∈ l, y.1.size ≤ 1099511627776) (hk : k.size ≤ 1099511627776) :
    Calls Try.prog 33 #[.slice A l.length c, .string k] w
      fun e w' => ∃ v, e = .returned (.tuple #[v, .int .i64 (dropT l k).2]) ∧ w'.ownsRow w.heap.size 24 2 v (dropT l k).1.length (cellsF (dropT l k).1) ∧ Below w.heap.size w w' := by
  have HF : Aside0 (dropT l k = if (atF l k).2 = true then (dropF l k, 0) else ([], 3)) := ⟨rfl⟩
  obtain ⟨F, hF⟩ : ∃ F, dropT l k = F := ⟨_, rfl⟩
  rw [hF] at HF ⊢
  have HFI := Aside0.mk (files_calls A c l w hr (by omega))
  have HX := Aside0.mk hx
  clear hr hx hF
  go_enter Try.func33, Try.ntmps33
  go_wp2_with fail
  refine HFI.out.mono ?_
  rintro e w2 ⟨B, rfl, hS, hb2⟩
  have HB2 := Aside0.mk hb2
  have HDR := Aside0.mk (drop_calls w.heap.size B l k HX.out hk (by omega) w2 hS)
  obtain ⟨is, his⟩ : ∃ is, (atF l k).2 = is := ⟨_, rfl⟩
  obtain ⟨q, hq⟩ : ∃ q, dropF l k = q := ⟨_, rfl⟩
  rw [hq, his] at HDR HF
  clear hb2 hS HFI his hq
  go_wp2_with fail
  refine HDR.out.mono ?_
  rintro e w4 ⟨rfl, hS4, hb4⟩
  have HB4 := Aside0.mk (HB2.out.trans hb4)
  obtain ⟨v, hv, ho, hBb⟩ := hS4
  obtain ⟨A4, k4, rfl, -, -⟩ := own_C ho
  have m0 := (box_cell (k := 0) hv rfl).1
  have HO := Aside0.mk ho
  clear hb4 hv ho HDR
  cases is with
  | true =>
    have HF2 := Aside0.mk (HF.out.trans (if_pos rfl))
    clear HF
    go_wp2_with fail
    go_ret2
    rw [HF2.out]
    exact ⟨_, rfl, HO.out, HB4.out⟩
  | false =>
    have HF2 := Aside0.mk (HF.out.trans (if_neg (by decide)))
    clear HF
    go_wp2_with fail
    go_ret2
    rw [HF2.out]
    exact ⟨_, rfl, nil_own _ _, HB4.out⟩

/-! ### Find -/
/-- The first place from i on at which p holds, or -1. -/
def findI (p : Fl → Bool) : List Fl → Nat → Int
  | [], _ => -1
  | y :: r, i => if p y = true then (i : Int) else findI p r (i + 1)
theorem findI_lt (p : Fl → Bool) : ∀ (l : List Fl) (k : Nat), findI p l k < (k : Int) + l.length
  | [], k => by show (-1 : Int) < _; omega
  | y :: r, k => by
    unfold findI
    have := findI_lt p r (k + 1)
    split
    · simp only [List.length_cons]; omega
    · simp only [List.length_cons]; push_cast at this; omega
def isP (k : ByteArray) (x : Fl) : Bool := x.1.toList == k.toList

set_option maxRecDepth 100000 in
set_option maxHeartbeats 4000000 in
theorem pred_calls (x : Fl) (k : ByteArray) (bx : Nat) (w : World) (hb : w.heap[bx]? = some (.cells #[.string k] 9 (0, 0))) :
    Calls Try.prog 43 #[.agg #[.string x.1, .string x.2], .pointer (some ⟨bx, 0, none⟩)] w fun e w' => e = .returned (.bool (isP k x)) ∧ Below w.heap.size w w' := by
  have c0 := (box_cell (k := 0) hb rfl).1
  have hlt := block_lt hb
  have hne : bx ≠ w.heap.size := by omega
  have HP : Aside0 (isP k x = (x.1.toList == k.toList)) := ⟨rfl⟩
  clear hb
  go_enter Try.func43, Try.ntmps43
  go_wp2
  all_goals (go_ret; exact ⟨by rw [HP.out]; rfl, (Below.refl _ w).alloc (Nat.le_refl _) _⟩)

set_option maxRecDepth 100000 in
set_option maxHeartbeats 4000000 in
theorem index_calls (A : Option Addr) (c : Nat) (l : List Fl) (k : ByteArray) (bx : Nat) (w : World) (hr : Kd.C kF w A l.length l) (hb : w.heap[bx]? = some (.cells #[.string k] 9 (0, 0))) :
    Calls Try.prog 42 #[.slice A l.length c, .func (.func 43) #[] #[.pointer (some ⟨bx, 0, none⟩)]] w
      fun e w' => e = .returned (.int .i64 (findI (isP k) l 0)) ∧ Below w.heap.size w w' := by
  have hmax := Kd.C_max hr
  have HP : Aside0 (∀ (W' : World) (x : Fl), Below w.heap.size w W' → Calls Try.prog 43 #[.agg #[.string x.1, .string x.2], .pointer (some ⟨bx, 0, none⟩)] W' fun e w' => e = .returned (.bool (isP k x)) ∧ Below w.heap.size w w') :=
    ⟨fun W' x hB => (pred_calls x k bx W' (block_later hb hB)).mono fun e w' ⟨h1, h2⟩ => ⟨h1, hB.trans (h2.mono hB.size)⟩⟩
  have HR := Aside0.mk hr
  clear hr hb
  go_enter Try.func42, Try.ntmps42
  go_wp2
  go_loopg [5, 8] l.length (fun gg _ s8 wr => ∃ kk : Nat, kk ≤ l.length ∧ l.length - kk ≤ gg ∧ s8 = .int .i64 kk ∧ Aside0 (Below w.heap.size w wr) ∧ Aside0 (findI (isP k) (l.drop kk) kk = findI (isP k) l 0))
  case atStart => exact ⟨0, Nat.zero_le _, by omega, rfl, ⟨Below.refl _ w⟩, ⟨rfl⟩⟩
  case round =>
    obtain ⟨kk, hkk, hg, rfl, BW, F⟩ := hrel
    by_cases hlt : kk < l.length
    · obtain ⟨ad, hA, q0, q1⟩ := at_F (Kd.C_below HR.out BW.out) hlt
      subst hA
      have F1 : findI (isP k) (l.drop kk) kk = if isP k l[kk] = true then (kk : Int) else findI (isP k) (l.drop (kk + 1)) (kk + 1) := by
        rw [List.drop_eq_getElem_cons hlt]; rfl
      have hcall := HP.out wr l[kk] BW.out
      have hlt' : (kk : Int) < (l.length : Int) := by omega
      obtain ⟨y, hy⟩ : ∃ y, l[kk] = y := ⟨_, rfl⟩
      rw [hy] at F1 hcall q0 q1
      have F2 := Aside0.mk F1
      clear F1 hy
      cases hq : isP k y with
      | true =>
        rw [hq] at hcall
        have F4 := Aside0.mk ((F2.out.trans (if_pos hq)).symm.trans F.out)
        clear F2
        go_wp2_with (go_at_call 43; refine hcall.mono ?_; rintro e w' ⟨rfl, hb'⟩)
        go_ret
        exact ⟨by rw [← F4.out]; rfl, hb'⟩
      | false =>
        rw [hq] at hcall
        have F4 := Aside0.mk ((F2.out.trans (if_neg (by rw [hq]; exact Bool.false_ne_true))).symm.trans F.out)
        clear F2
        go_wp2_with (go_at_call 43; refine hcall.mono ?_; rintro e w' ⟨rfl, hb'⟩)
        go_roundg (l.length - (kk + 1))
        case measure => omega
        case rel => exact ⟨kk + 1, by omega, by omega, by go_num, ⟨hb'⟩, F4⟩
    · have hlt' : ¬ (kk : Int) < (l.length : Int) := by omega
      have e : kk = l.length := by omega
      subst e
      go_wp2
      go_ret
      refine ⟨?_, BW.out⟩
      have := F.out
      rw [List.drop_length] at this
      rw [← this]
      rfl

def findT (l : List Fl) (k : ByteArray) : ByteArray × Bool := if findI (isP k) l 0 < 0 then (⟨#[]⟩, false) else ((l.getD (findI (isP k) l 0).toNat (⟨#[]⟩, ⟨#[]⟩)).2, true)
set_option maxRecDepth 100000 in
set_option maxHeartbeats 4000000 in
theorem Find_calls (A : Option Addr) (c : Nat) (l : List Fl) (k : ByteArray) (w : World) (hr : Kd.C kF w A l.length l) :
    Calls Try.prog 16 #[.slice A l.length c, .string k] w fun e w' => e = .returned (.tuple #[.string (findT l k).1, .bool (findT l k).2]) ∧ Below w.heap.size w w' := by
  have hmax := Kd.C_max hr
  have hb0 : Below w.heap.size w (w.alloc (Obj.cells #[Value.string k] 9)) := (Below.refl _ w).alloc (Nat.le_refl _) _
  have HI := Aside0.mk (index_calls A c l k w.heap.size _ (Kd.C_below hr hb0) (heap_alloc_new w _))
  have HC := Aside0.mk (Kd.C_below hr hb0)
  have HB0 := Aside0.mk hb0
  have HF : Aside0 (findT l k = if findI (isP k) l 0 < 0 then (⟨#[]⟩, false) else ((l.getD (findI (isP k) l 0).toNat (⟨#[]⟩, ⟨#[]⟩)).2, true)) := ⟨rfl⟩
  obtain ⟨F, hF⟩ : ∃ F, findT l k = F := ⟨_, rfl⟩
  rw [hF] at HF ⊢
  have hlt := findI_lt (isP k) l 0
  obtain ⟨i, hi⟩ : ∃ i, findI (isP k) l 0 = i := ⟨_, rfl⟩
  rw [hi] at HI HF hlt
  clear hr hb0 hF hi
  go_enter Try.func16, Try.ntmps16
  go_wp2_with fail
  refine HI.out.mono ?_
  rintro e w1 ⟨rfl, hb1⟩
  have HB1 := Aside0.mk (HB0.out.trans (hb1.mono HB0.out.size))
  have HC1 := Aside0.mk (Kd.C_below HC.out hb1)
  clear hb1 HI HC
  by_cases h0 : i < 0
  · have HF1 := Aside0.mk (HF.out.trans (if_pos h0))
    have h0' : decide (i < 0) = true := decide_eq_true h0
    clear HF
    go_wp2_with fail
    go_ret2
    rw [HF1.out]
    exact ⟨rfl, HB1.out⟩
  · have HF1 := Aside0.mk (HF.out.trans (if_neg h0))
    have h0' : decide (i < 0) = false := decide_eq_false h0
    obtain ⟨n, rfl⟩ := Int.eq_ofNat_of_zero_le (show 0 ≤ i by omega)
    have hn : n < l.length := by omega
    obtain ⟨ad, hA, q0, q1⟩ := at_F HC1.out hn
    subst hA
    have hgd : l.getD ((n : Int)).toNat (⟨#[]⟩, ⟨#[]⟩) = l[n] := by simp [List.getD, List.getElem?_eq_getElem hn]
    rw [hgd] at HF1
    obtain ⟨y, hy⟩ : ∃ y, l[n] = y := ⟨_, rfl⟩
    rw [hy] at q0 q1 HF1
    have hn' : (n : Int) < (l.length : Int) := by omega
    clear HF hgd hy
    go_wp2_with fail
    go_ret2
    rw [HF1.out]
    exact ⟨rfl, HB1.out⟩
end Go.Proofs.Ytmocfgghccmdgaa.TrOps
