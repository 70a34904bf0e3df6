/- tree.files, sorted's put and drop, over files: the walk. -/
import Derived.Test.YtmocfgghccmdgaaTrAt
import Derived.Test.YtmocfgghccmdgaaTrInsF
import Derived.Test.YtmocfgghccmdgaaTrDel
import Derived.Deep.DeepCutAuto
namespace Go.Proofs.Ytmocfgghccmdgaa.TrPut
open Go Go.Proofs Go.RowKit Go.Proofs.YtmocfgghccmdgaaW.PrintWords Go.Proofs.Ytmocfgghccmdgaa.RowsLib Go.Proofs.Ytmocfgghccmdgaa.TrLib Go.Proofs.Ytmocfgghccmdgaa.PathBase Go.Proofs.Ytmocfgghccmdgaa.TrAt Go.Proofs.Ytmocfgghccmdgaa.TrCopy
set_option linter.unusedVariables false
set_option linter.unusedSimpArgs false

set_option maxRecDepth 100000 in
set_option maxHeartbeats 2000000 in
/-- slices.Clone. -/
theorem Clone_calls (A : Option Addr) (c : Nat) (l : List Fl) (w : World) (hr : Kd.C kF w A l.length l) (hl : l.length ≤ 1099511627776) :
    Calls Try.prog 62 #[.slice A l.length c] w
      fun e w' => ∃ v, e = .returned v ∧ w'.ownsRow w.heap.size 24 2 v l.length (cellsF l) ∧ Below w.heap.size w w' := by
  obtain ⟨i0, hi, hz0, hz1, hz2⟩ := info_parts infoF
  cases A with
  | none =>
    have h0 : l = [] := by
      rcases Nat.eq_zero_or_pos l.length with h | h
      · exact List.length_eq_zero_iff.1 h
      · obtain ⟨ad, cs, e, _⟩ := Kd.C_get hr l[0] 0 (by omega) (by omega)
        cases e
    subst h0
    have he : ∀ W : World, (binOp .eql 22 (.slice none 0 c) (.slice none 0 0)).run Try.prog W = .ok (.bool true) W := fun _ => rfl
    go_enter Try.func62, Try.ntmps62
    go_wp2
    go_ret
    exact ⟨_, rfl, ⟨rfl, .inl ⟨rfl, rfl⟩⟩, Below.refl _ _⟩
  | some ad =>
    have hC := Aside0.mk (C_cells (f := encF) (n := 2) encF_len rfl (fun h => kF_open h) hr)
    clear hr
    have he : ∀ W : World, (binOp .eql 22 (.slice (some ad) l.length c) (.slice none 0 0)).run Try.prog W = .ok (.bool false) W := fun _ => rfl
    go_enter Try.func62, Try.ntmps62
    go_wp2_with (at_builtin; refine wpList_append_own _ rfl _ _ 22 rfl w.heap.size 24 i0 (.agg #[.string ⟨#[]⟩, .string ⟨#[]⟩]) 2 32 Try.underlying22 hi hz0 hz1 hz2 rfl (by decide) _ 0 [] rfl ?c0 ad l.length c (cellsF l) rfl (cellsF_len l) ?c1 (cellsF_one l) ?c3 ?c4 ?c5 ?_)
    case c0 => exact ⟨rfl, .inr ⟨w.heap.size, 0, #[], rfl, Nat.le_refl _, by show (w.heap.push _)[w.heap.size]? = _; simp, Nat.le_refl _, by unfold maxLen; omega, rfl, rfl⟩⟩
    case c1 =>
      intro j u hu
      have h1 := hC.out j u hu
      exact ((Below.refl w.heap.size w).alloc (Nat.le_refl _) _).cell (World.block_lt_of_cell? w _ h1) |>.trans h1
    case c3 => unfold maxLen; omega
    case c4 => omega
    case c5 => simp
    intro v1 w1 hown1 hgrow1 _
    have hb1 : Below w.heap.size w w1 := ((Below.refl w.heap.size w).alloc (Nat.le_refl _) _).grown hgrow1 (by simp) (fun k hk => by cases hk; exact Nat.le_refl _)
    clear hC
    go_wp2_with fail
    go_ret
    exact ⟨v1, rfl, hown1, hb1⟩

set_option maxRecDepth 100000 in
set_option maxHeartbeats 2000000 in
/-- files of a tree, in new memory. -/
theorem files_calls (A : Option Addr) (c : Nat) (l : List Fl) (w : World) (hr : Kd.C kF w A l.length l) (hl : l.length ≤ 1099511627776) :
    Calls Try.prog 39 #[.slice A l.length c] w
      fun e w' => ∃ B, e = .returned (.pointer (some ⟨B, 0, none⟩)) ∧ Sf w' w.heap.size B l ∧ Below w.heap.size w w' := by
  have HC := Aside0.mk (Clone_calls A c l w hr hl)
  clear hr
  go_enter Try.func39, Try.ntmps39
  go_wp2_with fail
  refine HC.out.mono ?_
  rintro e w1 ⟨v1, rfl, ho1, hb1⟩
  obtain ⟨A1, k1, rfl, -, -⟩ := own_C ho1
  have HO := Aside0.mk ho1
  have HB := Aside0.mk hb1
  clear ho1 hb1 HC
  go_wp2_with fail
  go_ret
  have hb2 : Below w1.heap.size w1 (w1.alloc (Obj.cells #[.slice A1 l.length k1, .func (.func 66) #[] #[], .func (.func 47) #[] #[]] 58)) := (Below.refl _ w1).alloc (Nat.le_refl _) _
  exact ⟨_, rfl, ⟨_, heap_alloc_new w1 _, own_later HO.out hb2, HB.out.size⟩, HB.out.trans (hb2.mono HB.out.size)⟩

/-- The object's row is none of its own block. -/
theorem own_apart {w : World} {base B : Nat} {v : Value} {l : List Fl} {cs : Array Value} (h : w.heap[B]? = some (.cells cs 58 (0, 0))) (ho : w.ownsRow base 24 2 v l.length (cellsF l)) : v.ownBlock ≠ some B := by
  intro e
  obtain ⟨cells, hc⟩ := own_typed ho B e
  rw [h] at hc
  injection hc with hc
  injection hc with _ hc
  exact absurd hc (by decide)

/-- What put leaves. -/
def putF (l : List Fl) (x : Fl) : List Fl := if (atF l x.1).2 = true then l.set (atF l x.1).1 x else l.take (atF l x.1).1 ++ x :: l.drop (atF l x.1).1

theorem cellsF_set (x : Fl) : ∀ (l : List Fl) (i : Nat), i < l.length → ((cellsF l).set (i * 2) (.string x.1)).set (i * 2 + 1) (.string x.2) = cellsF (l.set i x)
  | [], i, h => absurd h (Nat.not_lt_zero _)
  | y :: r, 0, h => by rw [List.set_cons_zero, cellsF_cons, cellsF_cons]; rfl
  | y :: r, i + 1, h => by
    have ih := cellsF_set x r i (by simpa using h)
    rw [List.set_cons_succ, cellsF_cons, cellsF_cons, ← ih, show (i + 1) * 2 = i * 2 + 1 + 1 from by omega]
    rfl
theorem set_own {W : World} {base g cap i : Nat} {cur : Array Value} {l : List Fl} (x : Fl) (hgb : base ≤ g) (hg : W.heap[g]? = some (.cells cur 24 (0, 0))) (hnc : l.length ≤ cap) (hcm : cap ≤ maxLen) (hcs : cur.size = cap * 2) (htk : cur.toList.take (l.length * 2) = cellsF l) (hi : i < l.length) :
    ((W.setCell ⟨g, i * 2, none⟩ (.string x.1)).setCell ⟨g, i * 2 + 1, none⟩ (.string x.2)).ownsRow base 24 2 (.slice (some ⟨g, 0, none⟩) l.length cap) (l.set i x).length (cellsF (l.set i x)) := by
  refine ⟨cellsF_len _, .inr ⟨g, cap, (cur.setIfInBounds (i * 2) (.string x.1)).setIfInBounds (i * 2 + 1) (.string x.2), by rw [List.length_set], hgb, ?_, by rw [List.length_set]; exact hnc, hcm, ?_, ?_⟩⟩
  · exact set_heap _ g _ _ _ _ (set_heap W g _ _ _ _ hg)
  · rw [Array.size_setIfInBounds, Array.size_setIfInBounds, hcs]
  · rw [Array.toList_setIfInBounds, Array.toList_setIfInBounds, List.length_set, List.take_set, List.take_set, htk, cellsF_set x l i hi]

theorem S_put {W w' : World} {B n : Nat} {x : Fl} (c1 : W.cell? ⟨B, 1, none⟩ = some (.func (.func 66) #[] #[])) (l1 : B < W.heap.size)
    (c3 : W.cell? ⟨n, 0, none⟩ = some (.string x.1)) (c4 : W.cell? ⟨n, 1, none⟩ = some (.string x.2)) (l2 : n < W.heap.size) (hb : Below W.heap.size W w') :
    w'.cell? ⟨B, 1, none⟩ = some (.func (.func 66) #[] #[]) ∧ w'.cell? ⟨n, 0, none⟩ = some (.string x.1) ∧ w'.cell? ⟨n, 1, none⟩ = some (.string x.2) ∧ Below W.heap.size W w' :=
  ⟨(hb.cell (p := ⟨B, 1, none⟩) l1).trans c1, (hb.cell (p := ⟨n, 0, none⟩) l2).trans c3, (hb.cell (p := ⟨n, 1, none⟩) l2).trans c4, hb⟩

set_option maxRecDepth 100000 in
set_option maxHeartbeats 8000000 in
theorem put_calls (base B : Nat) (l : List Fl) (x : Fl) (hx : ∀ y ∈ l, y.1.size ≤ 1099511627776) (hk : x.1.size ≤ 1099511627776) (hl : l.length ≤ 1099511627775) (w : World) (h : Sf w base B l) :
    Calls Try.prog 41 #[.pointer (some ⟨B, 0, none⟩), .agg #[.string x.1, .string x.2]] w
      fun e w' => e = .returned (.tuple #[]) ∧ Sf w' base B (putF l x) ∧ Below base w w' := by
  have hlt := h.lt
  have hbase : base ≤ w.heap.size := by obtain ⟨v, _, _, h3⟩ := h; omega
  go_enter Try.func41, Try.ntmps41
  go_upto_region 1 with fail
  obtain ⟨W, hW⟩ : ∃ W, w.alloc (Obj.cells #[Value.string x.1, Value.string x.2] 24) = W := ⟨_, rfl⟩
  have b0 : Below w.heap.size w W := by rw [← hW]; exact (Below.refl _ w).alloc (Nat.le_refl _) _
  have hs : W.heap.size = w.heap.size + 1 := by rw [← hW]; simp
  have hxb : W.heap[w.heap.size]? = some (.cells (encF x).toArray 24 (0, 0)) := by rw [← hW]; exact heap_alloc_new w _
  rw [hW]
  have hS := h.later b0
  obtain ⟨v, hv, ho, hBb⟩ := hS
  have hS := h.later b0
  have c1 := (box_cell (k := 1) hv rfl).1
  have c3 := (box_cell (k := 0) hxb rfl).1
  have c4 := (box_cell (k := 1) hxb rfl).1
  have l1 := block_lt hv
  have l2 : w.heap.size < W.heap.size := by omega
  have hB : Below W.heap.size W W := Below.refl _ _
  have hBd : Below W.heap.size W W.drew := hB.drew
  have HKEY : Aside0 (∀ W' : World, Below W.heap.size W W' → Calls Try.prog 66 #[.agg #[.string x.1, .string x.2]] W' fun e w' => e = .returned (.string x.1) ∧ Below W.heap.size W w') :=
    ⟨fun W' hb => (key_calls x W').mono fun e w' ⟨h1, h2⟩ => ⟨h1, hb.trans (h2.mono hb.size)⟩⟩
  have HAT : Aside0 (∀ W' : World, Below W.heap.size W W' → Calls Try.prog 44 #[.pointer (some ⟨B, 0, none⟩), .string x.1] W' fun e w' => e = .returned (.tuple #[.int .i64 (atF l x.1).1, .bool (atF l x.1).2]) ∧ Below W.heap.size W w') :=
    ⟨fun W' hb => (at_calls base B l x.1 hx hk (by omega) W' (hS.later hb)).mono fun e w' ⟨h1, h2⟩ => ⟨h1, hb.trans (h2.mono hb.size)⟩⟩
  have B0 := Aside0.mk b0
  have HS := Aside0.mk hS
  have HX := Aside0.mk hxb
  have HPF : Aside0 (putF l x = if (atF l x.1).2 = true then l.set (atF l x.1).1 x else l.take (atF l x.1).1 ++ x :: l.drop (atF l x.1).1) := ⟨rfl⟩
  have hile : (atF l x.1).1 ≤ l.length := atI_le l x.1
  have hilt : (atF l x.1).2 = true → (atF l x.1).1 < l.length := fun h2 => by
    have : (decide (atI l x.1 < l.length) && decide (cmpP (l.getD (atI l x.1) (⟨#[]⟩, ⟨#[]⟩)).1 x.1 = 0)) = true := h2
    rw [Bool.and_eq_true] at this
    exact of_decide_eq_true this.1
  obtain ⟨r, hrr⟩ : ∃ r, atF l x.1 = r := ⟨_, rfl⟩
  rw [hrr] at HAT HPF hile hilt
  obtain ⟨i, is⟩ := r
  simp only at HAT HPF hile hilt
  clear h hS hv ho hW b0 hx hxb hrr
  go_region_held3 (fun w' => w'.cell? ⟨B, 1, none⟩ = some (.func (.func 66) #[] #[]) ∧ w'.cell? ⟨w.heap.size, 0, none⟩ = some (.string x.1) ∧ w'.cell? ⟨w.heap.size, 1, none⟩ = some (.string x.2) ∧ Below W.heap.size W w')
    (first
      | exact S_put c1 l1 c3 c4 l2 hB
      | exact S_put c1 l1 c3 c4 l2 hBd
      | exact S_put c1 l1 c3 c4 l2 hbb
      | exact S_put c1 l1 c3 c4 l2 (by go_split_ands; assumption)
      | (go_split_ands; exact S_put c1 l1 c3 c4 l2 (by assumption))
      | go_keep)
    (first
      | (go_at_call 66; refine (HKEY.out _ (by first | exact hBd | (go_split_ands; assumption))).mono ?_; rintro e w' ⟨rfl, hbb⟩)
      | (go_at_call 44; refine (HAT.out _ (by first | exact hBd | (go_split_ands; assumption))).mono ?_; rintro e w' ⟨rfl, hbb⟩))
  have hS' := HS.out.later hbb
  have HB1 := Aside0.mk (B0.out.trans (hbb.mono B0.out.size))
  have hx' := block_later HX.out hbb
  have hlt' := hS'.lt
  have c3' := (box_cell (k := 0) hx' rfl).1
  have c4' := (box_cell (k := 1) hx' rfl).1
  obtain ⟨v', hv', ho', hBb'⟩ := hS'
  have c0' := (box_cell (k := 0) hv' rfl).1
  have z0' := (box_cell (k := 0) hv' rfl).2
  have hap := own_apart hv' ho'
  have hsz' : w.heap.size < w'.heap.size := by have := hbb.size; omega
  clear HKEY HAT HS HX B0 c1 c3 c4 l1 l2 hB hBd hbb
  cases is with
  | true =>
    have hi := hilt rfl
    have HP := Aside0.mk (HPF.out.trans (if_pos rfl))
    obtain ⟨hnl, ⟨rfl, h0⟩ | ⟨g, cap, cur, rfl, hgb, hg, hnc, hcm, hcs, htk⟩⟩ := ho'
    · omega
    have hc1 := box_cell (k := i * 2) hg (Array.getElem?_eq_getElem (by omega))
    have hc2 := box_cell (k := i * 2 + 1) hg (Array.getElem?_eq_getElem (by omega))
    have hgB : g ≠ B := fun e => hap (by rw [e]; rfl)
    have HG := Aside0.mk hg
    have hin : (i : Int) < (l.length : Int) := by omega
    clear hilt HPF hap
    go_wp2_with fail
    go_region
    go_wp2_with fail
    have hown := set_own x hgb HG.out hnc hcm hcs htk hi
    have hBs : ((w'.setCell ⟨g, i * 2, none⟩ (.string x.1)).setCell ⟨g, i * 2 + 1, none⟩ (.string x.2)).heap[B]? = some (.cells #[.slice (some ⟨g, 0, none⟩) l.length cap, .func (.func 66) #[] #[], .func (.func 47) #[] #[]] 58 (0, 0)) := by
      rw [Below.heap_setCell _ ⟨g, i * 2 + 1, none⟩ _ B (by exact fun e => hgB e.symm), Below.heap_setCell _ ⟨g, i * 2, none⟩ _ B (by exact fun e => hgB e.symm)]
      exact hv'
    have hbel : Below base w ((w'.setCell ⟨g, i * 2, none⟩ (.string x.1)).setCell ⟨g, i * 2 + 1, none⟩ (.string x.2)) := ((HB1.out.mono hbase).setCell (p := ⟨g, i * 2, none⟩) hgb _).setCell (p := ⟨g, i * 2 + 1, none⟩) hgb _
    clear hv' c0' z0' hg htk hcs c3' c4' hx' hc1 hc2
    refine bodyPost_ret (results_none rfl _ _ _) rfl ?_
    rw [HP.out]
    exact ⟨rfl, ⟨_, hBs, hown, hBb'⟩, hbel.drew⟩
  | false =>
    have HP := Aside0.mk (HPF.out.trans (if_neg (by decide)))
    have hnb : v'.ownBlock ≠ some w'.heap.size := fun e => by have := (ho'.lt _ e).2; omega
    have HINS := Aside0.mk (TrInsF.Insert_calls base v' l i x w'.heap.size (w'.drew.alloc (.cells #[.string x.1, .string x.2] 24)) (by simp; have := HB1.out.size; omega) (own_later ho' ((Below.refl w'.heap.size w').drew.alloc (Nat.le_refl _) _)) hile (by omega) (heap_alloc_new w'.drew _) hnb)
    have HV := Aside0.mk hv'
    have HO := Aside0.mk ho'
    have hgB : v'.ownBlock ≠ some B := hap
    clear hilt HPF hap ho' hv' hnb
    go_wp2_with fail
    go_region_with (first
      | (go_at_call 68; refine HINS.out.mono ?_; rintro e w2 ⟨v2, rfl, ho2, hg2⟩
         obtain ⟨A2, c2, rfl, -, -⟩ := own_C ho2
         have hv2 : w2.heap[B]? = some (.cells #[v', .func (.func 66) #[] #[], .func (.func 47) #[] #[]] 58 (0, 0)) := by
           rw [hg2.block B (by simp; omega) (fun e => hgB e.symm)]
           exact (Below.heap_alloc w'.drew _ B hlt').trans HV.out
         have k0 := (box_cell (k := 0) hv2 rfl).1
         have z0 := (box_cell (k := 0) hv2 rfl).2
         have HV2 := Aside0.mk hv2
         have HO2 := Aside0.mk ho2
         have HG2 := Aside0.mk hg2
         clear hv2 ho2 hg2))
    all_goals (
      have hle : (l.take i ++ x :: l.drop i).length = i + (l.length - i + 1) := by
        rw [List.length_append, List.length_take, List.length_cons, List.length_drop]
        omega
      have hap2 := own_apart HV2.out HO2.out
      have ho3 := own_move (w1 := w2.setCell ⟨B, 0, none⟩ (.slice A2 (l.take i ++ x :: l.drop i).length c2)) HO2.out (fun k hk => Below.heap_setCell w2 ⟨B, 0, none⟩ _ k (by intro e; exact hap2 (hk.trans (congrArg some e))))
      have hb3 := set_heap w2 B 0 _ _ (.slice A2 (l.take i ++ x :: l.drop i).length c2) HV2.out
      have hbel : Below base w (w2.setCell ⟨B, 0, none⟩ (.slice A2 (l.take i ++ x :: l.drop i).length c2)) := (((HB1.out.mono hbase).drew.alloc (by simp; have := HB1.out.size; omega) _).grown HG2.out (by simp; have := HB1.out.size; omega) (fun k hk => own_ge HO.out k hk)).setCell (p := ⟨B, 0, none⟩) hBb' _
      rw [← hle]
      clear c0' z0' c3' c4' hx' k0 z0
      refine bodyPost_end (results_none rfl _ _ _) rfl ?_
      rw [HP.out]
      exact ⟨rfl, ⟨_, hb3, ho3, hBb'⟩, hbel⟩)

/-- What drop leaves. -/
def dropF (l : List Fl) (k : ByteArray) : List Fl := if (atF l k).2 = true then l.take (atF l k).1 ++ l.drop ((atF l k).1 + 1) else l

set_option maxRecDepth 100000 in
set_option maxHeartbeats 8000000 in
theorem drop_calls (base B : Nat) (l : List Fl) (k : ByteArray) (hx : ∀ y ∈ l, y.1.size ≤ 1099511627776) (hk : k.size ≤ 1099511627776) (hl : l.length ≤ 1099511627775) (w : World) (h : Sf w base B l) :
    Calls Try.prog 61 #[.pointer (some ⟨B, 0, none⟩), .string k] w
      fun e w' => e = .returned (.bool (atF l k).2) ∧ Sf w' base B (dropF l k) ∧ Below base w w' := by
  have hlt := h.lt
  have hbase : base ≤ w.heap.size := by obtain ⟨v, _, _, h3⟩ := h; omega
  have HAT := Aside0.mk (at_calls base B l k hx hk (by omega) w h)
  have HS := Aside0.mk h
  have HDF : Aside0 (dropF l k = if (atF l k).2 = true then l.take (atF l k).1 ++ l.drop ((atF l k).1 + 1) else l) := ⟨rfl⟩
  have hilt : (atF l k).2 = true → (atF l k).1 < l.length := fun h2 => by
    have : (decide (atI l k < l.length) && decide (cmpP (l.getD (atI l k) (⟨#[]⟩, ⟨#[]⟩)).1 k = 0)) = true := h2
    rw [Bool.and_eq_true] at this
    exact of_decide_eq_true this.1
  obtain ⟨r, hrr⟩ : ∃ r, atF l k = r := ⟨_, rfl⟩
  rw [hrr] at HAT HDF hilt ⊢
  obtain ⟨i, is⟩ := r
  simp only at HAT HDF hilt ⊢
  clear h hrr hx
  go_enter Try.func61, Try.ntmps61
  go_wp2_with fail
  refine HAT.out.mono ?_
  rintro e w1 ⟨rfl, hb1⟩
  have hS := HS.out.later hb1
  have HB1 := Aside0.mk (hb1.mono hbase)
  have hlt1 := hS.lt
  obtain ⟨v, hv, ho, hBb⟩ := hS
  have hS2 : Sf w1 base B l := ⟨v, hv, ho, hBb⟩
  have c0 := (box_cell (k := 0) hv rfl).1
  have hap := own_apart hv ho
  have HS2 := Aside0.mk hS2
  have HV := Aside0.mk hv
  have HO := Aside0.mk ho
  clear hb1 HAT HS hS2
  cases is with
  | true =>
    have hi := hilt rfl
    have HD := Aside0.mk (HDF.out.trans (if_pos rfl))
    have HDEL := Aside0.mk (TrDel.Delete_calls base v l i w1 ho hi)
    have hw1 : ((i + 1 : Nat) : Int) = (i : Int) + 1 := by omega
    rw [hw1] at HDEL
    have hwr : IntKind.i64.wrap ((i : Int) + 1) = (i : Int) + 1 := by rw [IntKind.wrap_i64]; omega
    clear hv ho hilt HDF hw1
    go_wp2_with fail
    refine HDEL.out.mono ?_
    rintro e w2 ⟨v2, rfl, ho2, hg2⟩
    obtain ⟨A2, c2, rfl, -, -⟩ := own_C ho2
    have hv2 : w2.heap[B]? = some (.cells #[v, .func (.func 66) #[] #[], .func (.func 47) #[] #[]] 58 (0, 0)) := (hg2.block B hlt1 (fun e => hap e.symm)).trans HV.out
    have k0 := (box_cell (k := 0) hv2 rfl).1
    have z0 := (box_cell (k := 0) hv2 rfl).2
    have HV2 := Aside0.mk hv2
    have HO2 := Aside0.mk ho2
    have HG2 := Aside0.mk hg2
    clear hv2 ho2 hg2 c0
    go_wp2_with fail
    have hap2 := own_apart HV2.out HO2.out
    have ho3 := own_move (w1 := w2.setCell ⟨B, 0, none⟩ (.slice A2 (l.take i ++ l.drop (i + 1)).length c2)) HO2.out (fun k hk => Below.heap_setCell w2 ⟨B, 0, none⟩ _ k (by intro e; exact hap2 (hk.trans (congrArg some e))))
    have hb3 := set_heap w2 B 0 _ _ (.slice A2 (l.take i ++ l.drop (i + 1)).length c2) HV2.out
    have hbel : Below base w (w2.setCell ⟨B, 0, none⟩ (.slice A2 (l.take i ++ l.drop (i + 1)).length c2)) := (HB1.out.grown HG2.out (by have := HB1.out.size; omega) (fun k hk => own_ge HO.out k hk)).setCell (p := ⟨B, 0, none⟩) hBb _
    have hle : (l.take i ++ l.drop (i + 1)).length = min i l.length + (l.length - (i + 1)) := by
      rw [List.length_append, List.length_take, List.length_drop]
    rw [hle] at hb3 ho3 hbel
    clear k0 z0
    go_ret
    rw [HD.out]
    exact ⟨rfl, ⟨_, hb3, by rw [hle]; exact ho3, hBb⟩, hbel⟩
  | false =>
    have HD := Aside0.mk (HDF.out.trans (if_neg (by decide)))
    clear hv ho hilt HDF c0
    go_wp2_with fail
    go_ret
    rw [HD.out]
    exact ⟨rfl, HS2.out, HB1.out⟩

end Go.Proofs.Ytmocfgghccmdgaa.TrPut
