/- Printed parts, put together. -/
import Derived.Test.YtmocfgghccmdgaaMta
import Derived.Deep.DeepCutAuto
import Derived.Test.YtmocfgghccmdgaaMbb
import Derived.Test.YtmocfgghccmdgaaOrderLib
/- tree.sorted's put, over texts: the walk. -/
namespace Go.Proofs.Ytmocfgghccmdgaa.TrPutS
open Go Go.Proofs Go.RowKit Go.Lib Go.Proofs.YtmocfgghccmdgaaW.PrintWords Go.Proofs.Ytmocfgghccmdgaa.RowsLib Go.Proofs.Ytmocfgghccmdgaa.TrLib Go.Proofs.Ytmocfgghccmdgaa.TrCopy Go.Proofs.Ytmocfgghccmdgaa.TrAtS
set_option linter.unusedVariables false
set_option linter.unusedSimpArgs false

/-! ### put -/
theorem own_apart {w : World} {base B : Nat} {v : Value} {l : List ByteArray} {cs : Array Value} (h : w.heap[B]? = some (.cells cs 75 (0, 0))) (ho : w.ownsRow base 9 1 v l.length (cellsS l)) : v.ownBlock ≠ some B := by
  rcases ho.2 with ⟨rfl, _⟩ | ⟨g, cap, cur, rfl, hgb, hg, _⟩
  · intro e; cases e
  · intro e
    obtain rfl : g = B := Option.some.inj e
    rw [hg] at h
    cases h
theorem cellsS_set (x : ByteArray) : ∀ (l : List ByteArray) (i : Nat), i < l.length → (cellsS l).set (i * 1) (.string x) = cellsS (l.set i x)
  | y :: l, 0, h => rfl
  | y :: l, i + 1, h => by
    have ih := cellsS_set x l i (by simp at h; omega)
    rw [Nat.mul_one] at ih ⊢
    show (Value.string y :: cellsS l).set (i + 1) (.string x) = Value.string y :: cellsS (l.set i x)
    rw [List.set_cons_succ, ih]
theorem set_own {W : World} {base g cap i : Nat} {cur : Array Value} {l : List ByteArray} (x : ByteArray) (hgb : base ≤ g) (hg : W.heap[g]? = some (.cells cur 9 (0, 0))) (hnc : l.length ≤ cap) (hcm : cap ≤ maxLen) (hcs : cur.size = cap * 1) (htk : cur.toList.take (l.length * 1) = cellsS l) (hi : i < l.length) :
    (W.setCell ⟨g, i, none⟩ (.string x)).ownsRow base 9 1 (.slice (some ⟨g, 0, none⟩) l.length cap) (l.set i x).length (cellsS (l.set i x)) := by
  rw [List.length_set]
  refine ⟨by rw [show (cellsS (l.set i x)).length = (l.set i x).length * 1 from cellsL_len (n := 1) encS_len _, List.length_set], .inr ⟨g, cap, cur.setIfInBounds i (.string x), rfl, hgb, ?_, hnc, hcm, by simp; omega, ?_⟩⟩
  · exact set_heap W g i cur _ _ hg
  · rw [← cellsS_set x l i hi, ← htk, Array.toList_setIfInBounds, List.take_set]
    simp

def putS (l : List ByteArray) (x : ByteArray) : List ByteArray := if (atS l x).2 = true then l.set (atS l x).1 x else l.take (atS l x).1 ++ x :: l.drop (atS l x).1

/-- A list in an order, with its row's value. -/
def Sv (w : World) (base B : Nat) (v : Value) (l : List ByteArray) : Prop := w.heap[B]? = some (.cells #[v, .func (.func 73) #[] #[], .func (.func 74) #[] #[]] 75 (0, 0)) ∧ w.ownsRow base 9 1 v l.length (cellsS l) ∧ base ≤ B
theorem Sv.ss {w : World} {base B : Nat} {v : Value} {l : List ByteArray} (h : Sv w base B v l) : Ss w base B l := ⟨v, h⟩
theorem Sv.lt {w : World} {base B : Nat} {v : Value} {l : List ByteArray} (h : Sv w base B v l) : B < w.heap.size := block_lt h.1
theorem Sv.later {w w1 : World} {base B : Nat} {v : Value} {l : List ByteArray} (h : Sv w base B v l) (hb : Below w.heap.size w w1) : Sv w1 base B v l :=
  ⟨block_later h.1 hb, own_later h.2.1 hb, h.2.2⟩

theorem S_put {W w' : World} {B : Nat} (c1 : W.cell? ⟨B, 1, none⟩ = some (.func (.func 73) #[] #[])) (l1 : B < W.heap.size) (hb : Below W.heap.size W w') :
    w'.cell? ⟨B, 1, none⟩ = some (.func (.func 73) #[] #[]) ∧ Below W.heap.size W w' :=
  ⟨(hb.cell (p := ⟨B, 1, none⟩) l1).trans c1, hb⟩

set_option maxRecDepth 100000 in
set_option maxHeartbeats 8000000 in
theorem put_calls (base B : Nat) (l : List ByteArray) (x : ByteArray) (hl : l.length ≤ 1099511627775) (w : World) (v : Value) (h : Sv w base B v l) :
    Calls Try.prog 56 #[.pointer (some ⟨B, 0, none⟩), .string x]  w
      fun e w' => e = .returned (.tuple #[]) ∧ (∃ v', Sv w' base B v' (putS l x) ∧ ∀ k, v'.ownBlock = some k → v.ownBlock = some k ∨ w.heap.size ≤ k) ∧ Below base w w' ∧ ∀ k, k < w.heap.size → k ≠ B → v.ownBlock ≠ some k → w'.heap[k]? = w.heap[k]? := by
  have hlt := h.lt
  have hbase : base ≤ w.heap.size := by have := h.2.2; omega
  obtain ⟨W, hW⟩ : ∃ W, w = W := ⟨_, rfl⟩
  rw [hW] at h hlt hbase ⊢
  have hS := h
  obtain ⟨hv, ho, hBb⟩ := h
  have c1 := (box_cell (k := 1) hv rfl).1
  have l1 := block_lt hv
  have hB : Below W.heap.size W W := Below.refl _ _
  have hBd : Below W.heap.size W W.drew := hB.drew
  have HKEY : Aside0 (∀ W' : World, Below W.heap.size W W' → Calls Try.prog 73 #[.string x] W' fun e w' => e = .returned (.string x) ∧ Below W.heap.size W w') :=
    ⟨fun W' hb => (key_calls x W').mono fun e w' ⟨h1, h2⟩ => ⟨h1, hb.trans (h2.mono hb.size)⟩⟩
  have HAT : Aside0 (∀ W' : World, Below W.heap.size W W' → Calls Try.prog 78 #[.pointer (some ⟨B, 0, none⟩), .string x] W' fun e w' => e = .returned (.tuple #[.int .i64 (atS l x).1, .bool (atS l x).2]) ∧ Below W.heap.size W w') :=
    ⟨fun W' hb => (at_calls base B l x (by omega) W' (hS.later hb).ss).mono fun e w' ⟨h1, h2⟩ => ⟨h1, hb.trans (h2.mono hb.size)⟩⟩
  have HS := Aside0.mk hS
  have HPF : Aside0 (putS l x = if (atS l x).2 = true then l.set (atS l x).1 x else l.take (atS l x).1 ++ x :: l.drop (atS l x).1) := ⟨rfl⟩
  have hile : (atS l x).1 ≤ l.length := atIS_le l x
  have hilt : (atS l x).2 = true → (atS l x).1 < l.length := fun h2 => by
    have : (decide (atIS l x < l.length) && decide (cmpS (l.getD (atIS l x) ⟨#[]⟩) x = 0)) = true := h2
    rw [Bool.and_eq_true] at this
    exact of_decide_eq_true this.1
  obtain ⟨r, hrr⟩ : ∃ r, atS l x = r := ⟨_, rfl⟩
  rw [hrr] at HAT HPF hile hilt
  obtain ⟨i, is⟩ := r
  simp only at HAT HPF hile hilt
  clear hS hv ho hW hrr
  go_enter Try.func56, Try.ntmps56
  go_wp2_with fail
  refine (HKEY.out _ hB).mono ?_
  rintro e w1 ⟨rfl, hb1⟩
  go_wp2_with fail
  refine (HAT.out _ hb1).mono ?_
  rintro e w' ⟨rfl, hbb⟩
  have hS' := HS.out.later hbb
  have HB1 := Aside0.mk hbb
  have hlt' := hS'.lt
  obtain ⟨hv', ho', hBb'⟩ := hS'
  have c0' := (box_cell (k := 0) hv' rfl).1
  have z0' := (box_cell (k := 0) hv' rfl).2
  have hap := own_apart hv' ho'
  have hsz' : W.heap.size ≤ w'.heap.size := by have := hbb.size; omega
  have HFR : Aside0 (∀ k, k < W.heap.size → w'.heap[k]? = W.heap[k]?) := ⟨fun k hk => hbb.block k hk⟩
  clear HKEY HAT HS c1 l1 hB hBd hb1 hbb
  cases is with
  | true =>
    have hi := hilt rfl
    have HP := Aside0.mk (HPF.out.trans (if_pos rfl))
    obtain ⟨hnl, ⟨rfl, h0⟩ | ⟨g, cap, cur, rfl, hgb, hg, hnc, hcm, hcs, htk⟩⟩ := ho'
    · omega
    have hc1 := box_cell (k := i) hg (Array.getElem?_eq_getElem (by omega))
    have hgB : g ≠ B := fun e => hap (by rw [e]; rfl)
    have HG := Aside0.mk hg
    have hin : (i : Int) < (l.length : Int) := by omega
    clear hilt HPF hap
    go_wp2_with fail
    have hown := set_own x hgb HG.out hnc hcm hcs htk hi
    have hBs : (w'.setCell ⟨g, i, none⟩ (.string x)).heap[B]? = some (.cells #[.slice (some ⟨g, 0, none⟩) l.length cap, .func (.func 73) #[] #[], .func (.func 74) #[] #[]] 75 (0, 0)) := by
      rw [Below.heap_setCell _ ⟨g, i, none⟩ _ B (by exact fun e => hgB e.symm)]
      exact hv'
    have hbel : Below base W (w'.setCell ⟨g, i, none⟩ (.string x)) := (HB1.out.mono hbase).setCell (p := ⟨g, i, none⟩) hgb _
    clear hv' c0' z0' hg htk hcs hc1
    refine bodyPost_ret (results_none rfl _ _ _) rfl ?_
    rw [HP.out]
    refine ⟨rfl, ⟨_, ⟨hBs, hown, hBb'⟩, fun k hk => .inl hk⟩, hbel, fun k hk _ hkv => ?_⟩
    have hkg : k ≠ g := fun e => hkv (by rw [e]; rfl)
    rw [Below.heap_setCell _ ⟨g, i, none⟩ _ k hkg]
    exact HFR.out k hk
  | false =>
    have HP := Aside0.mk (HPF.out.trans (if_neg (by decide)))
    have hnb : v.ownBlock ≠ some w'.heap.size := fun e => by have := (ho'.lt _ e).2; omega
    have HINS := Aside0.mk (TrInsS.Insert_calls base v l i x w'.heap.size (w'.alloc (.cells #[.string x] 9)) (by simp; have := HB1.out.size; omega) (own_later ho' ((Below.refl w'.heap.size w').alloc (Nat.le_refl _) _)) hile (by omega) (heap_alloc_new w' _) hnb)
    have HV := Aside0.mk hv'
    have HO := Aside0.mk ho'
    have hgB : v.ownBlock ≠ some B := hap
    clear hilt HPF hap ho' hv' hnb
    go_wp2_with fail
    refine HINS.out.mono ?_
    rintro e w2 ⟨v2, rfl, ho2, hg2, hat2⟩
    obtain ⟨A2, c2, rfl, -, -⟩ := own_CS ho2
    have hv2 : w2.heap[B]? = some (.cells #[v, .func (.func 73) #[] #[], .func (.func 74) #[] #[]] 75 (0, 0)) := by
      rw [hg2.block B (by simp; omega) (fun e => hgB e.symm)]
      exact (Below.heap_alloc w' _ B hlt').trans HV.out
    have k0 := (box_cell (k := 0) hv2 rfl).1
    have z0 := (box_cell (k := 0) hv2 rfl).2
    have HV2 := Aside0.mk hv2
    have HO2 := Aside0.mk ho2
    have HG2 := Aside0.mk hg2
    have HA2 := Aside0.mk hat2
    clear hv2 ho2 hg2 hat2
    go_wp2_with fail
    all_goals (
      have hle : (l.take i ++ x :: l.drop i).length = i + (l.length - i + 1) := by
        rw [List.length_append, List.length_take, List.length_cons, List.length_drop]
        omega
      have hap2 := own_apart HV2.out HO2.out
      have ho3 := own_move (w1 := w2.setCell ⟨B, 0, none⟩ (.slice A2 (l.take i ++ x :: l.drop i).length c2)) HO2.out (fun k hk => Below.heap_setCell w2 ⟨B, 0, none⟩ _ k (by intro e; exact hap2 (hk.trans (congrArg some e))))
      have hb3 := set_heap w2 B 0 _ _ (.slice A2 (l.take i ++ x :: l.drop i).length c2) HV2.out
      have hbel : Below base W (w2.setCell ⟨B, 0, none⟩ (.slice A2 (l.take i ++ x :: l.drop i).length c2)) := (((HB1.out.mono hbase).alloc (by have := HB1.out.size; omega) _).grown HG2.out (by simp; have := HB1.out.size; omega) (fun k hk => own_ge HO.out k hk)).setCell (p := ⟨B, 0, none⟩) hBb' _
      rw [← hle]
      clear c0' z0' k0 z0
      refine bodyPost_end (results_none rfl _ _ _) rfl ?_
      rw [HP.out]
      refine ⟨rfl, ⟨_, ⟨hb3, ho3, hBb'⟩, fun k hk => ?_⟩, hbel, fun k hk hkB hkv => ?_⟩
      · rcases HA2.out k hk with h | h
        · exact .inl h
        · refine .inr ?_
          simp at h
          omega
      · rw [Below.heap_setCell w2 ⟨B, 0, none⟩ _ k hkB, HG2.out.block k (by simp; omega) (fun e => hkv e.symm)]
        exact (Below.heap_alloc w' _ k (by omega)).trans (HFR.out k hk))
end Go.Proofs.Ytmocfgghccmdgaa.TrPutS

/- tree.Names: the walk. -/
namespace Go.Proofs.Ytmocfgghccmdgaa.TrNames
open Go Go.Proofs Go.RowKit Go.Proofs.YtmocfgghccmdgaaW.PrintWords Go.Proofs.Ytmocfgghccmdgaa.RowsLib Go.Proofs.Ytmocfgghccmdgaa.TrLib Go.Proofs.Ytmocfgghccmdgaa.TrCopy Go.Proofs.Ytmocfgghccmdgaa.TrAtS Go.Proofs.Ytmocfgghccmdgaa.TrPutS Go.Proofs.Ytmocfgghccmdgaa.PathBase Go.Proofs.Ytmocfgghccmdgaa.BytesLib Go.Proofs.Ytmocfgghccmdgaa.Elems
set_option linter.unusedVariables false
set_option linter.unusedSimpArgs false

/-- names of no thing yet. -/
theorem names_calls (base : Nat) (w : World) (hb : base ≤ w.heap.size) : Calls Try.prog 53 #[] w fun e w' => ∃ B, e = .returned (.pointer (some ⟨B, 0, none⟩)) ∧ Sv w' base B (.slice none 0 0) [] ∧ Below w.heap.size w w' ∧ w.heap.size ≤ B := by
  go_enter Try.func53, Try.ntmps53
  go_wp2_with fail
  go_ret
  exact ⟨_, rfl, ⟨heap_alloc_new w _, ⟨rfl, .inl ⟨rfl, rfl⟩⟩, hb⟩, (Below.refl _ w).alloc (Nat.le_refl _) _, Nat.le_refl _⟩

/-- Two lists, apart. -/
structure Two (w : World) (base B1 B2 : Nat) (v1 v2 : Value) (l1 l2 : List ByteArray) : Prop where
  s1 : Sv w base B1 v1 l1
  s2 : Sv w base B2 v2 l2
  ne : B1 ≠ B2
  ap : ∀ k, v1.ownBlock = some k → v2.ownBlock ≠ some k
theorem Two.swap {w : World} {base B1 B2 : Nat} {v1 v2 : Value} {l1 l2 : List ByteArray} (h : Two w base B1 B2 v1 v2 l1 l2) : Two w base B2 B1 v2 v1 l2 l1 :=
  ⟨h.s2, h.s1, h.ne.symm, fun k h2 h1 => h.ap k h1 h2⟩
theorem Two.later {w w1 : World} {base B1 B2 : Nat} {v1 v2 : Value} {l1 l2 : List ByteArray} (h : Two w base B1 B2 v1 v2 l1 l2) (hb : Below w.heap.size w w1) : Two w1 base B1 B2 v1 v2 l1 l2 :=
  ⟨h.s1.later hb, h.s2.later hb, h.ne, h.ap⟩
theorem Two.put {w w' : World} {base B1 B2 : Nat} {v1 v2 v2' : Value} {l1 l2 m : List ByteArray} (h : Two w base B1 B2 v1 v2 l1 l2) (hs : Sv w' base B2 v2' m) (hat : ∀ k, v2'.ownBlock = some k → v2.ownBlock = some k ∨ w.heap.size ≤ k)
    (fr : ∀ k, k < w.heap.size → k ≠ B2 → v2.ownBlock ≠ some k → w'.heap[k]? = w.heap[k]?) : Two w' base B1 B2 v1 v2' l1 m := by
  have a1 := own_apart h.s1.1 h.s2.2.1
  have a2 := own_apart h.s2.1 h.s1.2.1
  refine ⟨⟨(fr B1 h.s1.lt h.ne a1).trans h.s1.1, own_move h.s1.2.1 (fun k hk => fr k ((h.s1.2.1.lt k hk).2) (fun e => a2 (by rw [← e]; exact hk)) (h.ap k hk)), h.s1.2.2⟩, hs, h.ne, fun k h1 h2 => ?_⟩
  rcases hat k h2 with h3 | h3
  · exact h.ap k h1 h3
  · have := (h.s1.2.1.lt k h1).2
    omega

def stepN (dir : ByteArray) (st : List ByteArray × List ByteArray) (x : Fl) : List ByteArray × List ByteArray :=
  if (withinF x.1 dir).2 = true ∧ (withinF x.1 dir).1.toList ≠ [] then
    (if cutF 47 (withinF x.1 dir).1 = true then (st.1, putS st.2 (cutA 47 (withinF x.1 dir).1)) else (putS st.1 (cutA 47 (withinF x.1 dir).1), st.2))
  else st
def namesT (l : List Fl) (dir : ByteArray) : List ByteArray × List ByteArray := l.foldl (stepN dir) ([], [])
theorem within_calls (s d : ByteArray) (hd : d.size ≤ 1099511627776) (w : World) :
    Calls Try.prog 54 #[.string s, .string d] w fun e w' => e = .returned (.tuple #[.string (withinF s d).1, .bool (withinF s d).2]) ∧ Below w.heap.size w w' :=
  (BTb.paths_Within.calls s d _ _ w (within_f s d hd)).mono fun e w' h => ⟨h.1, by obtain ⟨n, rfl⟩ := h.2; exact pw_below_drewN (Below.refl _ w) n⟩
theorem putS_len (l : List ByteArray) (x : ByteArray) : (putS l x).length ≤ l.length + 1 := by
  unfold putS
  split
  · rw [List.length_set]; omega
  · rw [List.length_append, List.length_take, List.length_cons, List.length_drop]; omega
theorem within_size (s d : ByteArray) : (withinF s d).1.size ≤ s.size := by
  unfold withinF
  split
  · exact Nat.le_refl _
  · split
    · exact Nat.zero_le _
    · split
      · rw [ByteArray.size_extract]; omega
      · exact Nat.zero_le _

set_option maxRecDepth 100000 in
set_option maxHeartbeats 8000000 in
theorem Names_calls (A : Option Addr) (c : Nat) (l : List Fl) (dir : ByteArray) (w : World) (hr : Kd.C kF w A l.length l) (hl : l.length ≤ 1000000) (hx : ∀ y ∈ l, y.1.size ≤ 1099511627776) (hd : dir.size ≤ 1099511627776) :
    Calls Try.prog 27 #[.slice A l.length c, .string dir] w fun e w' => ∃ v1 v2, e = .returned (.tuple #[v1, v2]) ∧ w'.ownsRow w.heap.size 9 1 v1 (namesT l dir).1.length (cellsS (namesT l dir).1) ∧ w'.ownsRow w.heap.size 9 1 v2 (namesT l dir).2.length (cellsS (namesT l dir).2) ∧ (∀ k, v1.ownBlock = some k → v2.ownBlock ≠ some k) ∧ Below w.heap.size w w' := by
  have HN := Aside0.mk (names_calls w.heap.size w (Nat.le_refl _))
  have HC := Aside0.mk hr
  have HCW := Aside0.mk hr
  have HX := Aside0.mk hx
  obtain ⟨F, hF⟩ : ∃ F, namesT l dir = F := ⟨_, rfl⟩
  have HFF : Aside0 (l.foldl (stepN dir) ([], []) = F) := ⟨hF⟩
  rw [hF]
  have hmax := Kd.C_max hr
  clear hr hx hF
  go_enter Try.func27, Try.ntmps27
  go_wp2_with fail
  refine HN.out.mono ?_
  rintro e w1 ⟨B1, rfl, hS1, hb1, hB1⟩
  have HN2 := Aside0.mk (names_calls w.heap.size w1 hb1.size)
  have HS1 := Aside0.mk hS1
  have HB1 := Aside0.mk hb1
  clear hS1 hb1 HN
  go_wp2_with fail
  refine HN2.out.mono ?_
  rintro e w2 ⟨B2, rfl, hS2, hb2, hB2⟩
  have hTwo : Two w2 w.heap.size B1 B2 (.slice none 0 0) (.slice none 0 0) [] [] := ⟨HS1.out.later hb2, hS2, by have := HS1.out.lt; omega, fun k h => by cases h⟩
  have HT := Aside0.mk hTwo
  have HB2 := Aside0.mk (HB1.out.trans (hb2.mono HB1.out.size))
  have HC2 := Aside0.mk (Kd.C_below HC.out HB2.out)
  clear hS2 hb2 hTwo HN2 HS1 HB1 hB1 hB2 HC
  go_wp2_with fail
  go_loopg [19] l.length (fun gg s19 wr => ∃ (k : Nat) (o d : List ByteArray) (v1 v2 : Value), k ≤ l.length ∧ l.length - k ≤ gg ∧ s19 = .int .i64 k ∧ o.length ≤ k ∧ d.length ≤ k ∧ Aside0 ((l.drop k).foldl (stepN dir) (o, d) = F) ∧ Aside0 (Two wr w.heap.size B1 B2 v1 v2 o d) ∧ Aside0 (Below w.heap.size w wr) ∧ Aside0 (Kd.C kF wr A l.length l))
  case atStart => exact ⟨0, [], [], _, _, Nat.zero_le _, by omega, rfl, Nat.zero_le _, Nat.zero_le _, HFF, HT, HB2, HC2⟩
  case round =>
    clear HT HB2 HC2
    obtain ⟨k, o, d, v1, v2, hk, hg, rfl, hol, hdl, HM, HT, BW, HC⟩ := hrel
    by_cases hlt : k < l.length
    · obtain ⟨ad, hA, q0, q1⟩ := at_F HC.out hlt
      subst hA
      have hlt' : (k : Int) < (l.length : Int) := by omega
      have hM := HM.out
      rw [List.drop_eq_getElem_cons hlt, List.foldl_cons] at hM
      have hxk := HX.out l[k] (List.getElem_mem hlt)
      obtain ⟨x, hx⟩ : ∃ x, l[k] = x := ⟨_, rfl⟩
      rw [hx] at q0 q1 hM hxk
      have HM1 := Aside0.mk hM
      clear hM hx HM
      go_upto_region 5 with fail
      obtain ⟨W4, hW4⟩ : ∃ W4, wr.alloc (Obj.cells #[Value.string x.1, Value.string x.2] 24) = W4 := ⟨_, rfl⟩
      have hb4 : Below wr.heap.size wr W4 := by rw [← hW4]; exact (Below.refl _ wr).alloc (Nat.le_refl _) _
      have hfx4 : W4.heap[wr.heap.size]? = some (.cells (encF x).toArray 24 (0, 0)) := by rw [← hW4]; exact heap_alloc_new wr _
      rw [hW4]
      have c3 : W4.cell? ⟨wr.heap.size, 0, none⟩ = some (.string x.1) := (box_cell (k := 0) hfx4 rfl).1
      have hwz := BW.out.size
      have HT4 := Aside0.mk (HT.out.later hb4)
      have HB4 := Aside0.mk (BW.out.trans (hb4.mono hwz))
      have HC4 := Aside0.mk (Kd.C_below HC.out hb4)
      have hsz4 : w.heap.size ≤ W4.heap.size := HB4.out.size
      have HWI := Aside0.mk (within_calls x.1 dir hd W4)
      have hws := within_size x.1 dir
      have HST : Aside0 (stepN dir (o, d) x = if (withinF x.1 dir).2 = true ∧ (withinF x.1 dir).1.toList ≠ [] then
    (if cutF 47 (withinF x.1 dir).1 = true then (o, putS d (cutA 47 (withinF x.1 dir).1)) else (putS o (cutA 47 (withinF x.1 dir).1), d))
  else (o, d)) := ⟨rfl⟩
      obtain ⟨S, hS⟩ : ∃ S, stepN dir (o, d) x = S := ⟨_, rfl⟩
      rw [hS] at HST HM1
      obtain ⟨r, hr⟩ : ∃ r, withinF x.1 dir = r := ⟨_, rfl⟩
      rw [hr] at HWI HST hws
      obtain ⟨p, is⟩ := r
      simp only at HWI HST hws
      have hps : p.size ≤ 140737488351232 := by omega
      clear hW4 hb4 hfx4 HT BW HC q0 q1 hS hr hws hxk
      go_wp2_with fail
      refine HWI.out.mono ?_
      rintro e w5 ⟨rfl, hb5⟩
      have HT5 := Aside0.mk (HT4.out.later hb5)
      have HB5 := Aside0.mk (HB4.out.trans (hb5.mono hsz4))
      have HC5 := Aside0.mk (Kd.C_below HC4.out hb5)
      clear hb5 HWI HT4 HB4 HC4 c3
      by_cases hgo : is = true ∧ p.toList ≠ []
      · obtain ⟨rfl, hpn⟩ := hgo
        have HST1 := Aside0.mk (HST.out.trans (if_pos ⟨rfl, hpn⟩))
        have hp0 : (p.toList == ([] : List UInt8)) = false := beq_eq_false_iff_ne.2 hpn
        have hp1 : p.toList.isEmpty = false := by cases h : p.toList with
          | nil => exact absurd h hpn
          | cons _ _ => rfl
        have HCU := Aside0.mk (fun (W' : World) => (cut_calls 47 p hps W').mono (fun e w' (h : e = .returned (.tuple #[.string (cutA 47 p), .string (cutB 47 p), .bool (cutF 47 p)]) ∧ Drawn0 W' w') => (⟨h.1, by obtain ⟨n, rfl⟩ := h.2; exact pw_below_drewN (Below.refl _ W') n⟩ : e = .returned (.tuple #[.string (cutA 47 p), .string (cutB 47 p), .bool (cutF 47 p)]) ∧ Below W'.heap.size W' w')))
        obtain ⟨ca, hca⟩ : ∃ ca, cutA 47 p = ca := ⟨_, rfl⟩
        obtain ⟨cb, hcb⟩ : ∃ cb, cutB 47 p = cb := ⟨_, rfl⟩
        obtain ⟨cf, hcf⟩ : ∃ cf, cutF 47 p = cf := ⟨_, rfl⟩
        rw [hca, hcb, hcf] at HCU
        rw [hca, hcf] at HST1
        clear HST hca hcb hcf hpn
        go_wp2_with fail
        refine (HCU.out _).mono ?_
        rintro e w6 ⟨rfl, hb6⟩
        have HT6 := Aside0.mk (HT5.out.later hb6)
        have HB6 := Aside0.mk (HB5.out.trans (hb6.mono HB5.out.size))
        have HC6 := Aside0.mk (Kd.C_below HC5.out hb6)
        have hs6 : w.heap.size ≤ w6.heap.size := HB6.out.size
        clear hb6 HCU HT5 HB5 HC5 hp0 hp1
        cases cf with
        | true =>
          have HST2 := Aside0.mk (HST1.out.trans (if_pos rfl))
          have HPU := Aside0.mk (put_calls w.heap.size B2 d ca (by omega) w6 v2 HT6.out.s2)
          clear HST1
          go_wp2_with fail
          refine HPU.out.mono ?_
          rintro e w7 ⟨rfl, ⟨v2', hs7, hat7⟩, hb7, hf7⟩
          have HT7 := Aside0.mk (HT6.out.put hs7 hat7 hf7)
          have HB7 := Aside0.mk (HB6.out.trans hb7)
          have HC7 := Aside0.mk (Kd.C_below HCW.out HB7.out)
          have hpl := putS_len d ca
          clear hs7 hat7 hb7 hf7 HPU HT6 HB6 HC6
          go_wp2_with fail
          go_roundg (l.length - (k + 1))
          case measure => omega
          case rel => exact ⟨k + 1, o, putS d ca, v1, v2', by omega, Nat.le_refl _, by rw [show (k : Int) + 1 = ((k + 1 : Nat) : Int) by omega], by omega, by omega, ⟨by rw [← HM1.out, HST2.out]⟩, HT7, HB7, HC7⟩
        | false =>
          have HST2 := Aside0.mk (HST1.out.trans (if_neg (by decide)))
          have HPU := Aside0.mk (put_calls w.heap.size B1 o ca (by omega) w6 v1 HT6.out.s1)
          clear HST1
          go_wp2_with fail
          refine HPU.out.mono ?_
          rintro e w7 ⟨rfl, ⟨v1', hs7, hat7⟩, hb7, hf7⟩
          have HT7 := Aside0.mk (HT6.out.swap.put hs7 hat7 hf7).swap
          have HB7 := Aside0.mk (HB6.out.trans hb7)
          have HC7 := Aside0.mk (Kd.C_below HCW.out HB7.out)
          have hpl := putS_len o ca
          clear hs7 hat7 hb7 hf7 HPU HT6 HB6 HC6
          go_wp2_with fail
          go_roundg (l.length - (k + 1))
          case measure => omega
          case rel => exact ⟨k + 1, putS o ca, d, v1', v2, by omega, Nat.le_refl _, by rw [show (k : Int) + 1 = ((k + 1 : Nat) : Int) by omega], by omega, by omega, ⟨by rw [← HM1.out, HST2.out]⟩, HT7, HB7, HC7⟩
      · have HST1 := Aside0.mk (HST.out.trans (if_neg hgo))
        clear HST
        cases is with
        | false =>
          clear hgo
          go_wp2_with fail
          go_roundg (l.length - (k + 1))
          case measure => omega
          case rel => exact ⟨k + 1, o, d, v1, v2, by omega, Nat.le_refl _, by rw [show (k : Int) + 1 = ((k + 1 : Nat) : Int) by omega], by omega, by omega, ⟨by rw [← HM1.out, HST1.out]⟩, HT5, HB5, HC5⟩
        | true =>
          have hpe : p.toList = [] := Classical.byContradiction fun h => hgo ⟨rfl, h⟩
          have hp0 : (p.toList == ([] : List UInt8)) = true := by rw [hpe]; rfl
          have hp1 : p.toList.isEmpty = true := by rw [hpe]; rfl
          clear hgo
          go_wp2_with fail
          go_roundg (l.length - (k + 1))
          case measure => omega
          case rel => exact ⟨k + 1, o, d, v1, v2, by omega, Nat.le_refl _, by rw [show (k : Int) + 1 = ((k + 1 : Nat) : Int) by omega], by omega, by omega, ⟨by rw [← HM1.out, HST1.out]⟩, HT5, HB5, HC5⟩
    · obtain rfl : k = l.length := by omega
      have hM := HM.out
      rw [List.drop_length, List.foldl_nil] at hM
      obtain ⟨hv1, ho1, hb1⟩ := HT.out.s1
      obtain ⟨hv2, ho2, hb2⟩ := HT.out.s2
      have HAP := Aside0.mk HT.out.ap
      obtain ⟨A1, k1, rfl, -, -⟩ := own_CS ho1
      obtain ⟨A2, k2, rfl, -, -⟩ := own_CS ho2
      have c1 := (box_cell (k := 0) hv1 rfl).1
      have c2 := (box_cell (k := 0) hv2 rfl).1
      have HO1 := Aside0.mk ho1
      have HO2 := Aside0.mk ho2
      have HFM := Aside0.mk hM
      clear hv1 hv2 ho1 ho2 hM HM HT HC
      go_wp2_with fail
      go_region
      go_wp2_with fail
      go_ret2
      rw [← HFM.out]
      first
        | exact ⟨_, _, rfl, own_later HO1.out (Below.refl _ wr).drew, own_later HO2.out (Below.refl _ wr).drew, HAP.out, BW.out.drew⟩
        | exact ⟨_, _, rfl, own_later HO1.out (pw_below_drewN (Below.refl _ wr) _), own_later HO2.out (pw_below_drewN (Below.refl _ wr) _), HAP.out, pw_below_drewN BW.out _⟩
end Go.Proofs.Ytmocfgghccmdgaa.TrNames

/- What the reference's Sub, Elems, put come to (for the walk of its Names). -/
namespace Go.Proofs.Ytmocfgghccmdgaa.TrNm
open Go Go.RowKit Go.Proofs.Ytmocfgghccmdgaa.BNm Go.Proofs.YtmocfgghccmdgaaW.PrintWords Go.Proofs.YtmocfgghccmdgaaW.PrintLast
open Go.Proofs.Ytmocfgghccmdgaa.BytesLib Go.Proofs.Ytmocfgghccmdgaa.SplitLib Go.Proofs.Ytmocfgghccmdgaa.OrderLib Go.Proofs.Ytmocfgghccmdgaa.Elems Go.Proofs.Ytmocfgghccmdgaa.PathBase Go.Proofs.Ytmocfgghccmdgaa.TrLib Go.Proofs.Ytmocfgghccmdgaa.TrAtS Go.Proofs.Ytmocfgghccmdgaa.TrPutS Go.Proofs.Ytmocfgghccmdgaa.TrNames
set_option linter.unusedVariables false
set_option linter.unusedSimpArgs false

theorem tail_ofL (s : ByteArray) (a : Nat) : s.extract a s.size = ofL ((L s).drop a) := L_inj (by rw [L_tail, L_ofL])

theorem cut_ofL (s : ByteArray) (a b : Nat) : s.extract a b = ofL (((L s).drop a).take (b - a)) := L_inj (by rw [L_extract, L_ofL])


theorem not_mem_take {l : List UInt8} {c : UInt8} {m n : Nat} (h : ∀ j, m ≤ j → j < n → l[j]? ≠ some c) : c ∉ (l.drop m).take (n - m) := by
  intro hm
  obtain ⟨k, hk, hk2⟩ := List.mem_iff_getElem.1 hm
  rw [List.length_take, List.length_drop] at hk
  rw [List.getElem_take, List.getElem_drop] at hk2
  exact h (m + k) (by omega) (by omega) (by rw [List.getElem?_eq_some_iff]; exact ⟨by omega, hk2⟩)


theorem ref_elems_loop (s : ByteArray) (hs : s.size ≤ 1099511627776) (d : Nat) : ∀ (i m : Nat) (acc : List ByteArray), m ≤ i → i ≤ s.size → s.size - i = d → acc.length ≤ i →
    (∀ j, m ≤ j → j < i → (L s)[j]? ≠ some 47) →
    Ev (fun k => graftbedref01_Elems.l0 k s acc (m : Int) (i : Int)) (acc ++ (splitL 47 ((L s).drop m)).map ofL) := by
  induction d with
  | zero =>
    intro i m acc h1 h2 h3 h4 h5
    obtain rfl : i = s.size := by omega
    have hn : (47 : UInt8) ∉ (L s).drop m := by
      have := not_mem_take h5
      rwa [List.take_of_length_le (by rw [List.length_drop, L_length]; exact Nat.le_refl _)] at this
    rw [splitL_none hn]
    refine Ev.step (f := fun k => graftbedref01_Elems.l0 k s (acc ++ [s.extract m s.size]) ((s.size : Int) + 1) ((s.size : Int) + 1)) (fun k => ?_) ?_
    · simp only [graftbedref01_Elems.l0]
      rw [if_pos (by omega), if_pos trivial, if_pos (by omega), if_pos (by omega), if_pos (by omega), w64 (by omega) (by omega), Int.toNat_natCast, Int.toNat_natCast]
    · refine Ev.step (f := fun _ => some (acc ++ [s.extract m s.size])) (fun k => ?_) ?_
      · simp only [graftbedref01_Elems.l0]
        rw [if_neg (by omega)]
      · rw [tail_ofL]; exact Ev.now _
  | succ d ih =>
    intro i m acc h1 h2 h3 h4 h5
    have hlt : i < (L s).length := by rw [L_length]; omega
    have hb := bt_nat hlt
    by_cases hc : (L s)[i] = 47
    · have hc2 : bt s (i : Int) = 47 := by rw [hb, hc]; rfl
      have hn := not_mem_take h5
      have hsp : (L s).drop m = ((L s).drop m).take (i - m) ++ 47 :: (L s).drop (i + 1) := by
        conv => lhs; rw [← List.take_append_drop (i - m) ((L s).drop m), List.drop_drop, show m + (i - m) = i from by omega, List.drop_eq_getElem_cons hlt, hc]
      refine Ev.step (f := fun k => graftbedref01_Elems.l0 k s (acc ++ [s.extract m i]) ((i + 1 : Nat) : Int) ((i + 1 : Nat) : Int)) (fun k => ?_) ?_
      · simp only [graftbedref01_Elems.l0]
        rw [if_pos (by omega), if_neg (by omega), if_pos (by omega), if_pos (by omega), if_pos hc2, if_pos (by omega), if_pos (by omega), if_pos (by omega), w64 (by omega) (by omega), Int.toNat_natCast, Int.toNat_natCast]
        rfl
      · have := ih (i + 1) (i + 1) (acc ++ [s.extract m i]) (Nat.le_refl _) (by omega) (by omega) (by simp; omega) (fun j hj hj2 => by omega)
        rw [hsp, splitL_at _ hn, List.map_cons]
        rw [List.append_assoc] at this
        rw [cut_ofL] at this ⊢
        exact this
    · have hc2 : ¬ bt s (i : Int) = 47 := by
        rw [hb]
        intro e
        exact hc (UInt8.toNat_inj.1 (by simpa using Int.ofNat_inj.1 e))
      refine Ev.step (f := fun k => graftbedref01_Elems.l0 k s acc (m : Int) ((i + 1 : Nat) : Int)) (fun k => ?_) ?_
      · simp only [graftbedref01_Elems.l0]
        rw [if_pos (by omega), if_neg (by omega), if_pos (by omega), if_pos (by omega), if_neg hc2, w64 (by omega) (by omega)]
        rfl
      · exact ih (i + 1) m acc (by omega) (by omega) (by omega) (by omega) (fun j hj hj2 => by
          by_cases e : j = i
          · rw [e, List.getElem?_eq_getElem hlt]; simpa using hc
          · exact h5 j hj (by omega))


theorem ref_elems (s : ByteArray) (hs : s.size ≤ 1099511627776) : Ev (fun k => graftbedref01_Elems.f k s) (elems s) := by
  unfold graftbedref01_Elems.f
  simp only [Option.bind_some]
  by_cases h : s.toList = []
  · simp only [h, if_true]
    rw [elems_list, show L s = [] from by rw [← toList_L]; exact h]
    exact Ev.now _
  · simp only [if_neg h]
    have := ref_elems_loop s hs s.size 0 0 [] (Nat.le_refl _) (Nat.zero_le _) (by omega) (Nat.zero_le _) (fun j hj hj2 => by omega)
    rw [elems_list]
    unfold elemsL
    rw [if_neg (by rw [← toList_L]; exact h)]
    exact this


/-- The reference's Within. -/
theorem ref_within (s d : ByteArray) (hd : d.size ≤ 1099511627776) (hs : s.size ≤ 1099511627776) : Ev (fun k => graftbedref01_Within.f k s d) (withinF s d) := by
  have hj : ∀ b : Bool, b = decide (L d = [] ∨ L d = [46]) → Ev (fun k => graftbedref01_Within.j0 k s d b) (withinF s d) := by
    intro b hb
    refine Ev.step (f := fun _ => some (withinF s d)) (fun k => ?_) (Ev.now _)
    simp only [graftbedref01_Within.j0]
    unfold withinF
    by_cases h1 : L d = [] ∨ L d = [46]
    · rw [hb, decide_eq_true h1, if_pos rfl, if_pos h1]
    · rw [hb, decide_eq_false h1, if_neg (by decide), if_neg h1, toList_L, toList_L]
      by_cases h2 : L s = L d
      · rw [if_pos h2, if_pos h2]
      · rw [if_neg h2, if_neg h2, w64 (by omega) (by omega)]
        by_cases h3 : (s.size : Int) ≥ (d.size : Int) + 1
        · rw [if_pos h3, if_pos (by omega), if_pos (by omega), if_pos (by omega)]
          have e1 : ((d.size : Int) + 1).toNat = d.size + 1 := by omega
          rw [e1, toList_L, toList_L, L_head, L_append]
          have e2 : L (⟨#[47]⟩ : ByteArray) = [47] := rfl
          rw [e2]
          by_cases h4 : L d ++ [47] <+: L s
          · rw [if_pos h4, if_pos]
            obtain ⟨r, hr⟩ := h4
            rw [← hr, List.take_left' (by rw [List.length_append, L_length]; rfl)]
          · rw [if_neg h4, if_neg]
            intro e
            exact h4 ⟨(L s).drop (d.size + 1), by rw [← e, List.take_append_drop]⟩
        · rw [if_neg h3, if_neg]
          rintro ⟨r, hr⟩
          have := congrArg List.length hr
          rw [List.length_append, List.length_append, L_length, L_length] at this
          simp at this
          omega
  unfold graftbedref01_Within.f
  rw [toList_L]
  by_cases h1 : L d = []
  · simp only [if_pos h1]
    exact hj true (by rw [decide_eq_true (Or.inl h1)])
  · simp only [if_neg h1]
    refine hj _ ?_
    by_cases h2 : L d = [46]
    · rw [decide_eq_true (Or.inr h2), h2]; rfl
    · rw [decide_eq_false (by rintro (h | h); exact h1 h; exact h2 h), beq_eq_false_iff_ne.2 h2]


instance decMem (p : ByteArray) (l : List ByteArray) : Decidable (p ∈ l) := @List.instDecidableMemOfLawfulBEq _ instBEqOfDecidableEq _ p l
theorem rdOf_at {xs : List ByteArray} {i : Nat} (h : i < xs.length) : rdOf ByteArray.empty xs (i : Int) = xs[i] := rdOf_get _ h
theorem has_loop (l : List ByteArray) (p : ByteArray) (hl : l.length ≤ 1000000) : ∀ (d i : Nat), i ≤ l.length → l.length - i = d → Ev (fun k => graftbedref02_has.l0 k l p (i : Int)) (decide (p ∈ l.drop i)) := by
  intro d
  induction d with
  | zero =>
    intro i h1 h2
    rw [List.drop_of_length_le (by omega)]
    refine Ev.step (f := fun _ => some false) (fun k => ?_) (Ev.now _)
    simp only [graftbedref02_has.l0]
    rw [if_neg (by omega)]
  | succ d ih =>
    intro i h1 h2
    have hi : i < l.length := by omega
    rw [List.drop_eq_getElem_cons hi]
    by_cases g : l[i] = p
    · rw [decide_eq_true (by rw [g]; exact List.mem_cons_self)]
      refine Ev.step (f := fun _ => some true) (fun k => ?_) (Ev.now _)
      simp only [graftbedref02_has.l0]
      rw [if_pos (by omega), if_pos (by omega), rdOf_at hi, if_pos (by rw [g])]
    · have e : decide (p ∈ l[i] :: l.drop (i + 1)) = decide (p ∈ l.drop (i + 1)) := by
        rw [decide_eq_decide, List.mem_cons]
        exact ⟨fun h => h.resolve_left (fun e => g e.symm), .inr⟩
      rw [e]
      refine Ev.step (fun k => ?_) (ih (i + 1) (by omega) (by omega))
      simp only [graftbedref02_has.l0]
      rw [if_pos (by omega), if_pos (by omega), rdOf_at hi, if_neg (by rw [toList_L, toList_L]; exact fun e => g (L_inj e)), w64 (by omega) (by omega)]; rfl
theorem has_ev (l : List ByteArray) (p : ByteArray) (hl : l.length ≤ 1000000) : Ev (fun k => graftbedref02_has.f k l p) (decide (p ∈ l)) := by
  have := has_loop l p hl l.length 0 (Nat.zero_le _) rfl
  rw [List.drop_zero] at this
  exact this

/-! ### put -/
def goT (a : ByteArray) : List ByteArray → Bool → List ByteArray
  | [], done => if done = true then [] else [a]
  | y :: r, done => (if done = false ∧ L a < L y then [a] else []) ++ (y :: goT a r (done || decide (L a < L y)))
def putR (l : List ByteArray) (a : ByteArray) : List ByteArray := if a ∈ l then l else goT a l false
theorem put_loop (l : List ByteArray) (a : ByteArray) (hl : l.length ≤ 1000000) : ∀ (d i : Nat) (acc : List ByteArray) (done : Bool), i ≤ l.length → l.length - i = d → acc.length ≤ 2 * i →
    Ev (fun k => graftbedref02_put.l0 k l a acc done (i : Int)) (acc ++ goT a (l.drop i) done) := by
  intro d
  induction d with
  | zero =>
    intro i acc done h1 h2 h3
    rw [List.drop_of_length_le (by omega), goT]
    refine Ev.step (f := fun _ => some (acc ++ (if done = true then [] else [a]))) (fun k => ?_) (Ev.now _)
    simp only [graftbedref02_put.l0]
    rw [if_neg (by omega)]
    cases done with
    | true => simp only [if_true, List.append_nil]
    | false =>
      simp only [Bool.false_eq_true, if_false]
      rw [if_pos (by omega)]
  | succ d ih =>
    intro i acc done h1 h2 h3
    have hi : i < l.length := by omega
    rw [List.drop_eq_getElem_cons hi, goT]
    by_cases g : done = false ∧ L a < L l[i]
    · rw [if_pos g, decide_eq_true g.2, Bool.or_true, g.1]
      have e : acc ++ ([a] ++ (l[i] :: goT a (l.drop (i + 1)) true)) = ((acc ++ [a]) ++ [l[i]]) ++ goT a (l.drop (i + 1)) true := by simp
      rw [e]
      refine Ev.step (fun k => ?_) (ih (i + 1) ((acc ++ [a]) ++ [l[i]]) true (by omega) (by omega) (by rw [List.length_append, List.length_append]; simp; omega))
      simp only [graftbedref02_put.l0, Bool.false_eq_true, if_false]
      rw [if_pos (by omega), if_pos (by omega), rdOf_at hi, toList_L, toList_L, if_pos ((less_iff _ _).2 g.2), if_pos (by omega), Option.bind_some, if_pos (by rw [List.length_append]; simp; omega), w64 (by omega) (by omega)]
      rfl
    · have hd : (done || decide (L a < L l[i])) = done := by
        cases done with
        | true => rfl
        | false => rw [decide_eq_false (fun h => g ⟨rfl, h⟩)]; rfl
      rw [if_neg g, hd, List.nil_append]
      have e : acc ++ (l[i] :: goT a (l.drop (i + 1)) done) = (acc ++ [l[i]]) ++ goT a (l.drop (i + 1)) done := by simp
      rw [e]
      refine Ev.step (fun k => ?_) (ih (i + 1) (acc ++ [l[i]]) done (by omega) (by omega) (by rw [List.length_append]; simp; omega))
      simp only [graftbedref02_put.l0]
      rw [if_pos (by omega), w64 (by omega) (by omega), rdOf_at hi]
      cases done with
      | true =>
        rw [if_pos rfl, if_pos (by omega), if_pos (by omega)]
        rfl
      | false =>
        rw [if_neg (by decide), if_pos (by omega), toList_L, toList_L, if_neg (fun h => g ⟨rfl, (less_iff _ _).1 h⟩), if_pos (by omega)]
        rfl
theorem put_ev (l : List ByteArray) (a : ByteArray) (hl : l.length ≤ 1000000) : Ev (fun k => graftbedref02_put.f k l a) (putR l a) := by
  unfold graftbedref02_put.f putR
  refine Ev.bind (has_ev l a hl) ?_
  by_cases h : a ∈ l
  · rw [decide_eq_true h, if_pos h]
    simp only [if_true]
    exact Ev.now _
  · rw [decide_eq_false h, if_neg h]
    simp only [Bool.false_eq_true, if_false]
    have := put_loop l a hl l.length 0 [] false (Nat.zero_le _) rfl (Nat.zero_le _)
    rw [List.drop_zero, List.nil_append] at this
    exact this

/-! ### Sub -/
def D (x : Fl) : S24 := ⟨x.1, x.2⟩
theorem len_D (T : List Fl) : (T.map D).length = T.length := List.length_map _
theorem rd_D {T : List Fl} {i : Nat} (h : i < T.length) : rd_T24 (T.map D) (i : Int) = D T[i] := by
  unfold rd_T24
  rw [Int.toNat_natCast, List.getD_eq_getElem?_getD, List.getElem?_eq_getElem (by rw [List.length_map]; exact h), List.getElem_map]
  rfl
def subL (dir : ByteArray) : List Fl → List Fl
  | [] => []
  | x :: r => if (withinF x.1 dir).2 = true ∧ (withinF x.1 dir).1.toList ≠ [] then ((withinF x.1 dir).1, x.2) :: subL dir r else subL dir r
theorem sub_loop (l : List Fl) (dir : ByteArray) (hl : l.length ≤ 1000000) (hs : ∀ y ∈ l, y.1.size ≤ 1099511627776) (hd : dir.size ≤ 1099511627776) : ∀ (d i : Nat) (acc : List Fl), i ≤ l.length → l.length - i = d → acc.length ≤ i →
    Ev (fun k => graftbedref02_Sub.l0 k (l.map D) dir (acc.map D) (i : Int)) ((acc ++ subL dir (l.drop i)).map D) := by
  intro d
  induction d with
  | zero =>
    intro i acc h1 h2 h3
    rw [List.drop_of_length_le (by omega), subL, List.append_nil]
    refine Ev.step (f := fun _ => some (acc.map D)) (fun k => ?_) (Ev.now _)
    simp only [graftbedref02_Sub.l0]
    rw [if_neg (by rw [len_D]; omega)]
  | succ d ih =>
    intro i acc h1 h2 h3
    have hi : i < l.length := by omega
    rw [List.drop_eq_getElem_cons hi, subL]
    refine Ev.step (f := fun k => (graftbedref01_Within.f k l[i].1 dir).bind fun bt105 => (if bt105.2 = true then (if bt105.1.toList = ([] : List UInt8) then (graftbedref02_Sub.l0 k (l.map D) dir (acc.map D) ((i + 1 : Nat) : Int)) else (graftbedref02_Sub.l0 k (l.map D) dir ((acc ++ [(bt105.1, l[i].2)]).map D) ((i + 1 : Nat) : Int))) else (graftbedref02_Sub.l0 k (l.map D) dir (acc.map D) ((i + 1 : Nat) : Int)))) (fun k => ?_) ?_
    · simp only [graftbedref02_Sub.l0]
      rw [if_pos (by rw [len_D]; omega), if_pos (by omega), rd_D hi, w64 (by omega) (by omega)]
      have e : ∀ b : ByteArray, acc.map D ++ [(⟨b, (D l[i]).f1⟩ : S24)] = (acc ++ [(b, l[i].2)]).map D := by intro b; rw [List.map_append]; rfl
      simp only [e, if_pos (show (acc.map D).length < 4398046511104 by rw [len_D]; omega)]
      rfl
    · refine Ev.bind (ref_within _ _ hd (hs _ (List.getElem_mem hi))) ?_
      by_cases g1 : (withinF l[i].1 dir).2 = true
      · by_cases g2 : (withinF l[i].1 dir).1.toList = []
        · rw [if_neg (fun h => h.2 g2)]
          simp only [if_pos g1, if_pos g2]
          exact ih (i + 1) acc (by omega) (by omega) (by omega)
        · rw [if_pos ⟨g1, g2⟩]
          simp only [if_pos g1, if_neg g2]
          have := ih (i + 1) (acc ++ [((withinF l[i].1 dir).1, l[i].2)]) (by omega) (by omega) (by rw [List.length_append]; simp; omega)
          rw [List.append_assoc] at this
          exact this
      · rw [if_neg (fun h => g1 h.1)]
        simp only [if_neg g1]
        exact ih (i + 1) acc (by omega) (by omega) (by omega)
theorem sub_ev (l : List Fl) (dir : ByteArray) (hl : l.length ≤ 1000000) (hs : ∀ y ∈ l, y.1.size ≤ 1099511627776) (hd : dir.size ≤ 1099511627776) : Ev (fun k => graftbedref02_Sub.f k (l.map D) dir) ((subL dir l).map D) := by
  have := sub_loop l dir hl hs hd l.length 0 [] (Nat.zero_le _) rfl (Nat.zero_le _)
  rw [List.drop_zero, List.nil_append] at this
  exact this
theorem subL_len (dir : ByteArray) : ∀ l : List Fl, (subL dir l).length ≤ l.length
  | [] => Nat.le_refl _
  | x :: r => by
    have := subL_len dir r
    rw [subL]
    split
    · rw [List.length_cons, List.length_cons]; omega
    · rw [List.length_cons]; omega
theorem subL_size (dir : ByteArray) : ∀ (l : List Fl), (∀ y ∈ l, y.1.size ≤ 1099511627776) → ∀ y ∈ subL dir l, y.1.size ≤ 1099511627776 ∧ y.1.toList ≠ []
  | [], _, y, hy => nomatch hy
  | x :: r, h, y, hy => by
    rw [subL] at hy
    by_cases g : (withinF x.1 dir).2 = true ∧ (withinF x.1 dir).1.toList ≠ []
    · rw [if_pos g] at hy
      rcases List.mem_cons.1 hy with rfl | hy
      · exact ⟨Nat.le_trans (within_size x.1 dir) (h x List.mem_cons_self), g.2⟩
      · exact subL_size dir r (fun z hz => h z (List.mem_cons_of_mem _ hz)) y hy
    · rw [if_neg g] at hy
      exact subL_size dir r (fun z hz => h z (List.mem_cons_of_mem _ hz)) y hy

/-! ### Names, in plain words -/
def stepR (st : List ByteArray × List ByteArray) (x : Fl) : List ByteArray × List ByteArray :=
  if (elems x.1).length = 1 then (putR st.1 ((elems x.1).getD 0 ⟨#[]⟩), st.2) else if 1 < (elems x.1).length then (st.1, putR st.2 ((elems x.1).getD 0 ⟨#[]⟩)) else st
def namesR (l : List Fl) (dir : ByteArray) : List ByteArray × List ByteArray := (subL dir l).foldl stepR ([], [])

abbrev UpS (l : List ByteArray) : Prop := l.Pairwise (fun x y => L x < L y)
theorem cmpS_iff (a b : ByteArray) : (cmpS a b < 0 ↔ L a < L b) ∧ (cmpS a b = 0 ↔ a = b) := by
  have key : ∀ x y : List UInt8, (Lib.compareBytes x y < 0 ↔ x < y) ∧ (Lib.compareBytes x y = 0 ↔ x = y) := by
    intro x
    induction x with
    | nil =>
      intro y
      cases y with
      | nil => exact ⟨⟨fun h => absurd h (by decide), fun h => nomatch h⟩, ⟨fun _ => rfl, fun _ => rfl⟩⟩
      | cons b y => exact ⟨⟨fun _ => List.nil_lt_cons _ _, fun _ => by show (-1 : Int) < 0; decide⟩, ⟨fun h => absurd (show (-1 : Int) = 0 from h) (by decide), fun h => nomatch h⟩⟩
    | cons a x ih =>
      intro y
      cases y with
      | nil => exact ⟨⟨fun h => absurd (show (1 : Int) < 0 from h) (by decide), fun h => nomatch h⟩, ⟨fun h => absurd (show (1 : Int) = 0 from h) (by decide), fun h => nomatch h⟩⟩
      | cons b y =>
        rw [Lib.compareBytes, List.cons_lt_cons_iff]
        by_cases h1 : a < b
        · rw [if_pos h1]
          refine ⟨⟨fun _ => .inl h1, fun _ => by decide⟩, ⟨fun h => absurd h (by decide), fun h => ?_⟩⟩
          injection h with h _
          rw [h] at h1
          exact absurd h1 (UInt8.lt_irrefl _)
        · rw [if_neg h1]
          by_cases h2 : b < a
          · rw [if_pos h2]
            refine ⟨⟨fun h => absurd h (by decide), ?_⟩, ⟨fun h => absurd h (by decide), fun h => ?_⟩⟩
            · rintro (h | ⟨h, _⟩)
              · exact absurd h h1
              · rw [h] at h2; exact absurd h2 (UInt8.lt_irrefl _)
            · injection h with h _
              rw [h] at h2
              exact absurd h2 (UInt8.lt_irrefl _)
          · rw [if_neg h2]
            have e : a = b := by
              rw [UInt8.lt_iff_toNat_lt] at h1 h2
              exact UInt8.toNat_inj.1 (by omega)
            rw [(ih y).1, (ih y).2]
            refine ⟨⟨fun h => .inr ⟨e, h⟩, ?_⟩, ⟨fun h => by rw [e, h], fun h => by injection h⟩⟩
            rintro (h | ⟨_, h⟩)
            · exact absurd h h1
            · exact h
  obtain ⟨h1, h2⟩ := key (L a) (L b)
  exact ⟨h1, ⟨fun h => L_inj (h2.1 h), fun h => h2.2 (by rw [h])⟩⟩

theorem bs_at (p : Nat → Bool) (m : Nat) : ∀ (n lo hi : Nat), hi - lo ≤ n → lo ≤ m → m ≤ hi → (∀ i, i < m → p i = true) → (∀ i, m ≤ i → i < hi → p i = false) → bs p n lo hi = m
  | 0, lo, hi, h1, h2, h3, _, _ => by rw [bs]; omega
  | n + 1, lo, hi, h1, h2, h3, h4, h5 => by
    rw [bs]
    by_cases h : lo < hi
    · rw [if_pos h]
      by_cases g : (lo + hi) / 2 < m
      · rw [if_pos (h4 _ g)]
        exact bs_at p m n _ _ (by omega) (by omega) h3 h4 h5
      · rw [if_neg (by rw [h5 _ (by omega) (by omega)]; decide)]
        exact bs_at p m n _ _ (by omega) h2 (by omega) h4 (fun i hi1 hi2 => h5 i hi1 (by omega))
    · rw [if_neg h]; omega
theorem split_upS (k : ByteArray) : ∀ (T : List ByteArray), UpS T → ∃ A B, T = A ++ B ∧ (∀ y ∈ A, L y < L k) ∧ (∀ y ∈ B, ¬ L y < L k)
  | [], _ => ⟨[], [], rfl, (fun _ h => nomatch h), (fun _ h => nomatch h)⟩
  | x :: T, h => by
    obtain ⟨h1, h2⟩ := List.pairwise_cons.1 h
    by_cases g : L x < L k
    · obtain ⟨A, B, rfl, hA, hB⟩ := split_upS k T h2
      refine ⟨x :: A, B, rfl, fun y hy => ?_, hB⟩
      rcases List.mem_cons.1 hy with rfl | hy
      · exact g
      · exact hA y hy
    · refine ⟨[], x :: T, rfl, (fun _ h => nomatch h), fun y hy => ?_⟩
      rcases List.mem_cons.1 hy with rfl | hy
      · exact g
      · exact fun h => g (lt_tr (h1 y hy) h)
theorem goT_done (x : ByteArray) : ∀ B : List ByteArray, goT x B true = B
  | [] => rfl
  | y :: B => by
    rw [goT, if_neg (by rintro ⟨h, _⟩; cases h), Bool.true_or, goT_done x B]
    rfl
theorem goT_form {x : ByteArray} : ∀ {A B : List ByteArray}, (∀ y ∈ A, L y < L x) → (∀ y ∈ B, L x < L y) → goT x (A ++ B) false = A ++ x :: B
  | [], B, _, hB => by
    cases B with
    | nil => rfl
    | cons y B =>
      have hy := hB y List.mem_cons_self
      rw [List.nil_append, goT, if_pos ⟨rfl, hy⟩, decide_eq_true hy, Bool.false_or, goT_done]
      rfl
  | a :: A, B, hA, hB => by
    have ha := hA a List.mem_cons_self
    rw [List.cons_append, goT, if_neg (by rintro ⟨_, h⟩; exact lt_asy ha h), decide_eq_false (lt_asy ha), Bool.false_or, goT_form (fun y hy => hA y (List.mem_cons_of_mem _ hy)) hB]
    rfl

/-- On a list that rises, the search puts as the reference does; it rises again. -/
theorem putS_putR {l : List ByteArray} (h : UpS l) (k : ByteArray) : putS l k = putR l k ∧ UpS (putR l k) := by
  obtain ⟨A, B, rfl, hA, hB⟩ := split_upS k l h
  have hI : atIS (A ++ B) k = A.length := by
    unfold atIS
    refine bs_at _ A.length _ _ _ (by omega) (Nat.zero_le _) (by rw [List.length_append]; omega) ?_ ?_
    · intro i hi
      refine decide_eq_true ((cmpS_iff _ _).1.2 (hA _ ?_))
      rw [List.getD_eq_getElem?_getD, List.getElem?_append_left hi, List.getElem?_eq_getElem hi]
      exact List.getElem_mem hi
    · intro i h1 h2
      refine decide_eq_false (fun h => hB _ ?_ ((cmpS_iff _ _).1.1 h))
      rw [List.length_append] at h2
      rw [List.getD_eq_getElem?_getD, List.getElem?_append_right h1, List.getElem?_eq_getElem (by omega)]
      exact List.getElem_mem _
  have hAk : ∀ y ∈ A, y ≠ k := fun y hy e => lt_irr (L k) (by have := hA y hy; rwa [e] at this)
  obtain ⟨u1, u2, u3⟩ := List.pairwise_append.1 h
  have ins : k ∉ B → putS (A ++ B) k = putR (A ++ B) k ∧ UpS (putR (A ++ B) k) := by
    intro hkB
    have hB' : ∀ y ∈ B, L k < L y := by
      intro y hy
      rcases lt_tri (L y) (L k) with e | e | e
      · exact absurd e (hB y hy)
      · exact absurd (by rw [← L_inj e]; exact hy) hkB
      · exact e
    have hkn : k ∉ A ++ B := by
      rw [List.mem_append]
      rintro (h | h)
      · exact hAk k h rfl
      · exact hkB h
    have hat : (atS (A ++ B) k).2 = false := by
      show (decide (atIS (A ++ B) k < (A ++ B).length) && decide (cmpS ((A ++ B).getD (atIS (A ++ B) k) ⟨#[]⟩) k = 0)) = false
      rw [hI]
      by_cases hlt : A.length < (A ++ B).length
      · rw [Bool.and_eq_false_iff]
        refine .inr (decide_eq_false (fun h => hkB ?_))
        have e := (cmpS_iff _ _).2.1 h
        rw [← e, List.getD_eq_getElem?_getD, List.getElem?_append_right (Nat.le_refl _), List.getElem?_eq_getElem (by rw [List.length_append] at hlt; omega)]
        exact List.getElem_mem _
      · rw [decide_eq_false hlt]; rfl
    unfold putS putR
    rw [hat, if_neg (by decide), if_neg hkn, goT_form hA hB', show (atS (A ++ B) k).1 = A.length from hI]
    refine ⟨by simp, List.pairwise_append.2 ⟨u1, List.pairwise_cons.2 ⟨hB', u2⟩, fun a ha b hb => ?_⟩⟩
    rcases List.mem_cons.1 hb with rfl | hb
    · exact hA a ha
    · exact u3 a ha b hb
  cases B with
  | nil => exact ins (fun h => nomatch h)
  | cons z B =>
    by_cases hz : z = k
    · subst hz
      have hat : atS (A ++ z :: B) z = (A.length, true) := by
        unfold atS
        rw [hI, decide_eq_true (show A.length < (A ++ z :: B).length by simp), List.getD_eq_getElem?_getD, List.getElem?_append_right (Nat.le_refl _)]
        simp [(cmpS_iff z z).2.2 rfl]
      unfold putS putR
      rw [hat, if_pos rfl, if_pos (by simp)]
      exact ⟨by simp, h⟩
    · refine ins ?_
      intro hm
      rcases List.mem_cons.1 hm with e | hm
      · exact hz e.symm
      · have h1 := (List.pairwise_cons.1 u2).1 k hm
        exact hB z List.mem_cons_self h1

theorem elems_one {p : ByteArray} (h : p.toList ≠ []) : (elems p).getD 0 ⟨#[]⟩ = cutA 47 p ∧ (if cutF 47 p = true then 1 < (elems p).length else (elems p).length = 1) := by
  unfold elems
  rw [if_neg h, split_eq]
  refine ⟨rfl, ?_⟩
  by_cases g : cutF 47 p = true
  · rw [if_pos g, if_pos g, split_eq]
    simp
  · rw [if_neg g, if_neg g]; rfl
theorem names_eq (l : List Fl) (dir : ByteArray) : namesR l dir = namesT l dir := by
  unfold namesR namesT
  have main : ∀ (l : List Fl) (o d : List ByteArray), UpS o → UpS d → (subL dir l).foldl stepR (o, d) = l.foldl (stepN dir) (o, d) := by
    intro l
    induction l with
    | nil => intro o d _ _; rfl
    | cons x r ih =>
      intro o d ho hd
      rw [List.foldl_cons, subL]
      unfold stepN
      by_cases g : (withinF x.1 dir).2 = true ∧ (withinF x.1 dir).1.toList ≠ []
      · rw [if_pos g, if_pos g, List.foldl_cons]
        obtain ⟨e1, e2⟩ := elems_one g.2
        unfold stepR
        by_cases c : cutF 47 (withinF x.1 dir).1 = true
        · rw [if_pos c] at e2 ⊢
          rw [if_neg (by show ¬ (elems (withinF x.1 dir).1).length = 1; omega), if_pos (show 1 < (elems (withinF x.1 dir).1).length from e2)]
          show (subL dir r).foldl stepR (o, putR d ((elems (withinF x.1 dir).1).getD 0 ⟨#[]⟩)) = r.foldl (stepN dir) (o, putS d (cutA 47 (withinF x.1 dir).1))
          rw [e1, (putS_putR hd _).1]
          exact ih o _ ho (putS_putR hd _).2
        · rw [if_neg c] at e2 ⊢
          rw [if_pos (show (elems (withinF x.1 dir).1).length = 1 from e2)]
          show (subL dir r).foldl stepR (putR o ((elems (withinF x.1 dir).1).getD 0 ⟨#[]⟩), d) = r.foldl (stepN dir) (putS o (cutA 47 (withinF x.1 dir).1), d)
          rw [e1, (putS_putR ho _).1]
          exact ih _ d (putS_putR ho _).2 hd
      · rw [if_neg g, if_neg g]
        exact ih o d ho hd
  exact main l [] [] List.Pairwise.nil List.Pairwise.nil
end Go.Proofs.Ytmocfgghccmdgaa.TrNm

/- The reference's Names: the walk. -/
namespace Go.Proofs.Ytmocfgghccmdgaa.TrNmRef
open Go Go.Proofs Go.RowKit Go.Proofs.Ytmocfgghccmdgaa.BNm Go.Proofs.YtmocfgghccmdgaaW.PrintWords Go.Proofs.YtmocfgghccmdgaaW.PrintLast Go.Proofs.YtmocfgghccmdgaaW.PrintMore
open Go.Proofs.Ytmocfgghccmdgaa.BytesLib Go.Proofs.Ytmocfgghccmdgaa.Elems Go.Proofs.Ytmocfgghccmdgaa.PathBase Go.Proofs.Ytmocfgghccmdgaa.TrLib Go.Proofs.Ytmocfgghccmdgaa.TrNames Go.Proofs.Ytmocfgghccmdgaa.TrNm
set_option linter.unusedVariables false
set_option linter.unusedSimpArgs false

theorem C_out {w : World} {A : Option Addr} {l : List Fl} (h : Kd.C kF w A l.length l) : Kd.C k24 w A (l.map D).length (l.map D) := by
  rw [List.length_map]
  obtain ⟨h1, h2, h3⟩ := h
  refine ⟨by rw [List.length_map], h2, fun h0 => ?_⟩
  obtain ⟨ad, e, hc⟩ := h3 h0
  refine ⟨ad, e, fun j x hx => ?_⟩
  rw [List.getElem?_map] at hx
  cases hj : l[j]? with
  | none => rw [hj] at hx; cases hx
  | some y =>
    rw [hj] at hx
    obtain rfl := Option.some.inj hx
    obtain ⟨cs, hl, hk, hcs⟩ := hc j y hj
    have := kF_open hk
    subst this
    exact ⟨encF y, rfl, k24_mk w (D y), fun i u hu => hcs i u hu⟩
theorem C_in {w : World} {A : Option Addr} {l : List Fl} (h : Kd.C k24 w A (l.map D).length (l.map D)) : Kd.C kF w A l.length l := by
  have h2 := C_files (d := k24) (enc := fun x => (x.f0, x.f1)) rfl (fun h => k24_open h) h
  have e : (l.map D).map (fun x => ((x.f0, x.f1) : Fl)) = l := by
    rw [List.map_map]; exact (List.map_congr_left (fun x _ => rfl)).trans (List.map_id l)
  rw [e] at h2
  exact h2

theorem put_calls (base : Nat) (l : List ByteArray) (a : ByteArray) (hl : l.length ≤ 1000000) (v : Value) (w : World) (hb : base ≤ w.heap.size) (hv : Kd.V Kd.string 9 w base (fun k => base ≤ k) v l) :
    Calls Try.prog 57 #[v, .string a] w fun e w' => ∃ v', e = .returned v' ∧ Kd.V Kd.string 9 w' base (fun k => base ≤ k) v' (putR l a) ∧ Below w.heap.size w w' := by
  obtain ⟨A, c, rfl⟩ := Kd.V_slice hv
  obtain ⟨K, hK⟩ := put_ev l a hl
  refine (graftbedref02_put.calls K (fun k => base ≤ k) A c l a (putR l a) w hv (hK K (Nat.le_refl _))).mono ?_
  rintro e w' ⟨v', rfl, h1, h2⟩
  exact ⟨v', rfl, Kd.V_mono h1 (fun k hk => by
    rcases hk with hk | hk
    · exact hk
    · exact Nat.le_trans hb hk), h2⟩
theorem elems_calls (s : ByteArray) (hs : s.size ≤ 1099511627776) (w : World) :
    Calls Try.prog 51 #[.string s] w fun e w' => ∃ A c, e = .returned (.slice A (elems s).length c) ∧ Kd.C Kd.string w' A (elems s).length (elems s) ∧ Below w.heap.size w w' := by
  obtain ⟨K, hK⟩ := ref_elems s hs
  refine (graftbedref01_Elems.calls K s (elems s) w (hK K (Nat.le_refl _))).mono ?_
  rintro e w' ⟨v, rfl, h1, h2⟩
  obtain ⟨A, c, rfl, _, hC⟩ := Kd.R_reads h1
  exact ⟨A, c, rfl, hC, h2⟩
theorem sub_calls (A : Option Addr) (c : Nat) (l : List Fl) (dir : ByteArray) (w : World) (hr : Kd.C kF w A l.length l) (hc : l.length ≤ c) (hl : l.length ≤ 1000000) (hs : ∀ y ∈ l, y.1.size ≤ 1099511627776) (hd : dir.size ≤ 1099511627776) :
    Calls Try.prog 31 #[.slice A l.length c, .string dir] w fun e w' => ∃ A' c', e = .returned (.slice A' (subL dir l).length c') ∧ Kd.C kF w' A' (subL dir l).length (subL dir l) ∧ Below w.heap.size w w' := by
  obtain ⟨K, hK⟩ := sub_ev l dir hl hs hd
  have h := graftbedref02_Sub.calls K A c (l.map D) dir _ w (C_out hr) (by rw [len_D]; exact hc) (hK K (Nat.le_refl _))
  rw [len_D] at h
  refine h.mono ?_
  rintro e w' ⟨v, rfl, h1, h2⟩
  obtain ⟨A', c', rfl, _, hC⟩ := Kd.R_reads h1
  rw [len_D]
  exact ⟨A', c', rfl, C_in hC, h2⟩

theorem goT_len (a : ByteArray) : ∀ (l : List ByteArray) (b : Bool), (goT a l b).length ≤ l.length + 1
  | [], b => by
    rw [goT]
    split
    · exact Nat.zero_le _
    · exact Nat.le_refl _
  | y :: r, b => by
    rw [goT, List.length_append, List.length_cons]
    have h1 := goT_len a r (b || decide (L a < L y))
    by_cases g : b = false ∧ L a < L y
    · rw [if_pos g, decide_eq_true g.2, Bool.or_true, goT_done]
      simp; omega
    · rw [if_neg g]
      simp at h1 ⊢
      omega
theorem putR_len (l : List ByteArray) (a : ByteArray) : (putR l a).length ≤ l.length + 1 := by
  unfold putR
  split
  · omega
  · exact goT_len a l false

theorem empty_V {w : World} {base g : Nat} (hg : w.heap[g]? = some (.cells #[] 9 (0, 0))) (hb : base ≤ g) : Kd.V Kd.string 9 w base (fun k => base ≤ k) (.slice (some ⟨g, 0, none⟩) 0 0) ([] : List ByteArray) := by
  have ho : w.ownsRow base 9 1 (.slice (some ⟨g, 0, none⟩) 0 0) ([] : List ByteArray).length (RowsLib.cellsL (fun x => [Value.string x]) ([] : List ByteArray)) := ⟨rfl, .inr ⟨g, 0, #[], rfl, hb, hg, Nat.le_refl _, Nat.zero_le _, rfl, rfl⟩⟩
  have h1 : Kd.R Kd.string 9 w base (fun _ => True) (.slice (some ⟨g, 0, none⟩) 0 0) ([] : List ByteArray) := RowsLib.R_of (d := Kd.string) (n := 1) (fun _ => rfl) rfl (fun ok x => rfl) ho (Nat.le_refl _)
  exact Kd.R_V (Kd.R_reok rfl h1 (fun k hk => by
    have : g = k := Option.some.inj hk
    omega))

set_option maxRecDepth 100000 in
set_option maxHeartbeats 8000000 in
theorem Names_calls (A : Option Addr) (c : Nat) (l : List Fl) (dir : ByteArray) (w : World) (hr : Kd.C kF w A l.length l) (hc : l.length ≤ c) (hl : l.length ≤ 1000000) (hx : ∀ y ∈ l, y.1.size ≤ 1099511627776) (hd : dir.size ≤ 1099511627776) :
    Calls Try.prog 28 #[.slice A l.length c, .string dir] w fun e w' => ∃ v1 v2, e = .returned (.tuple #[v1, v2]) ∧ Kd.V Kd.string 9 w' w.heap.size (fun k => w.heap.size ≤ k) v1 (namesT l dir).1 ∧ Kd.V Kd.string 9 w' w.heap.size (fun k => w.heap.size ≤ k) v2 (namesT l dir).2 ∧ Below w.heap.size w w' := by
  rw [← names_eq]
  have HSZ := Aside0.mk (subL_size dir l hx)
  have hlen := subL_len dir l
  have HC := Aside0.mk hr
  have HX := Aside0.mk hx
  obtain ⟨F, hF⟩ : ∃ F, namesR l dir = F := ⟨_, rfl⟩
  have HFF : Aside0 ((subL dir l).foldl stepR ([], []) = F) := ⟨hF⟩
  rw [hF]
  obtain ⟨q, hq⟩ : ∃ q, subL dir l = q := ⟨_, rfl⟩
  rw [hq] at HSZ HFF hlen
  clear hr hx hF
  go_enter Try.func28, Try.ntmps28
  go_upto_region 3 with fail
  obtain ⟨W, hW⟩ : ∃ W, (w.alloc (Obj.cells #[] 9)).alloc (Obj.cells #[] 9) = W := ⟨_, rfl⟩
  have b0 : Below w.heap.size w W := by rw [← hW]; exact ((Below.refl _ w).alloc (Nat.le_refl _) _).alloc (by simp) _
  have g1 : W.heap[w.heap.size]? = some (.cells #[] 9 (0, 0)) := by
    rw [← hW]
    exact (Below.heap_alloc (w.alloc (Obj.cells #[] 9)) _ _ (by simp)).trans (heap_alloc_new w _)
  have g2 : W.heap[w.heap.size + 1]? = some (.cells #[] 9 (0, 0)) := by
    rw [← hW]
    have := heap_alloc_new (w.alloc (Obj.cells #[] 9)) (Obj.cells #[] 9)
    simpa using this
  have HV1 := Aside0.mk (empty_V g1 (Nat.le_refl _))
  have HV2 := Aside0.mk (empty_V (base := w.heap.size) g2 (by omega))
  have HB0 := Aside0.mk b0
  have HSB := Aside0.mk (sub_calls A c l dir W (Kd.C_below HC.out b0) hc hl HX.out hd)
  rw [hq] at HSB
  try rw [hW]
  clear hW b0 g1 g2 hq HC HX hc hd
  go_wp2_with fail
  refine HSB.out.mono ?_
  rintro e w2 ⟨A2, c2, rfl, hC2, hb2⟩
  have HC2 := Aside0.mk hC2
  have HB2 := Aside0.mk (HB0.out.trans (hb2.mono HB0.out.size))
  have HW1 := Aside0.mk (Kd.V_below HV1.out hb2)
  have HW2 := Aside0.mk (Kd.V_below HV2.out hb2)
  have hmax := Kd.C_max hC2
  clear hC2 hb2 HSB HV1 HV2 HB0
  go_wp2_with fail
  go_loopg [6, 7, 9] q.length (fun gg s6 s7 s9 wr => ∃ (k : Nat) (o d : List ByteArray), k ≤ q.length ∧ q.length - k ≤ gg ∧ s9 = .int .i64 k ∧ o.length ≤ k ∧ d.length ≤ k ∧ Aside0 ((q.drop k).foldl stepR (o, d) = F) ∧ Aside0 (Kd.V Kd.string 9 wr w.heap.size (fun k => w.heap.size ≤ k) s6 o) ∧ Aside0 (Kd.V Kd.string 9 wr w.heap.size (fun k => w.heap.size ≤ k) s7 d) ∧ Aside0 (Below w.heap.size w wr) ∧ Aside0 (Kd.C kF wr A2 q.length q))
  case atStart => exact ⟨0, [], [], Nat.zero_le _, by omega, rfl, Nat.zero_le _, Nat.zero_le _, HFF, HW1, HW2, HB2, HC2⟩
  case round =>
    clear HW1 HW2 HB2 HC2
    obtain ⟨k, o, d, hk, hg, rfl, hol, hdl, HM, H6, H7, BW, HC⟩ := hrel
    by_cases hlt : k < q.length
    · obtain ⟨ad, hA, q0, q1⟩ := at_F HC.out hlt
      subst hA
      have hlt' : (k : Int) < (q.length : Int) := by omega
      have hM := HM.out
      rw [List.drop_eq_getElem_cons hlt, List.foldl_cons] at hM
      obtain ⟨hxk, hxn⟩ := HSZ.out q[k] (List.getElem_mem hlt)
      obtain ⟨x, hx⟩ : ∃ x, q[k] = x := ⟨_, rfl⟩
      rw [hx] at q0 q1 hM hxk hxn
      have HM1 := Aside0.mk hM
      have HST : Aside0 (stepR (o, d) x = if (elems x.1).length = 1 then (putR o ((elems x.1).getD 0 ⟨#[]⟩), d) else if 1 < (elems x.1).length then (o, putR d ((elems x.1).getD 0 ⟨#[]⟩)) else (o, d)) := ⟨rfl⟩
      obtain ⟨S, hS⟩ : ∃ S, stepR (o, d) x = S := ⟨_, rfl⟩
      rw [hS] at HST HM1
      have HEL := Aside0.mk (elems_calls x.1 hxk)
      have hen : 0 < (elems x.1).length := by
        unfold elems
        rw [if_neg hxn, split_eq]
        simp
      obtain ⟨es, hes⟩ : ∃ es, elems x.1 = es := ⟨_, rfl⟩
      rw [hes] at HST HEL hen
      clear hM hx HM hS hes hxk hxn
      go_wp2_with fail
      refine (HEL.out _).mono ?_
      rintro e w3 ⟨A3, c3, rfl, hC3, hb3⟩
      have H63 := Aside0.mk (Kd.V_below H6.out hb3)
      have H73 := Aside0.mk (Kd.V_below H7.out hb3)
      have HB3 := Aside0.mk (BW.out.trans (hb3.mono BW.out.size))
      have HC3 := Aside0.mk (Kd.C_below HC.out hb3)
      obtain ⟨ad3, hA3, p0⟩ := TrAtS.at_S hC3 hen
      subst hA3
      have hg0 : es.getD 0 ⟨#[]⟩ = es[0] := by rw [List.getD_eq_getElem?_getD, List.getElem?_eq_getElem hen]; rfl
      rw [hg0] at HST
      obtain ⟨y, hy⟩ : ∃ y, es[0] = y := ⟨_, rfl⟩
      rw [hy] at HST p0
      have hen' : (0 : Int) < (es.length : Int) := by omega
      have p1 : w3.cell? ad3 = some (.string y) := by
        have e0 : ad3.add 0 = ad3 := by simp [Addr.add]
        rw [e0] at p0
        exact p0
      have hmx3 := Kd.C_max hC3
      have hs3 : w.heap.size ≤ w3.heap.size := HB3.out.size
      clear hC3 hb3 HEL hg0 hy H6 H7 BW HC q0 q1
      have HC3' := HC3
      by_cases e1 : es.length = 1
      · have HST1 := Aside0.mk (HST.out.trans (if_pos e1))
        have e1' : (es.length : Int) = 1 := by omega
        have HPU := Aside0.mk (put_calls w.heap.size o y (by omega) _ w3 hs3 H63.out)
        clear HST
        go_wp2_with fail
        refine HPU.out.mono ?_
        rintro e w4 ⟨v4, rfl, hV4, hb4⟩
        have H64 := Aside0.mk hV4
        have H74 := Aside0.mk (Kd.V_below H73.out hb4)
        have HB4 := Aside0.mk (HB3.out.trans (hb4.mono hs3))
        have HC4 := Aside0.mk (Kd.C_below HC3.out hb4)
        have hpl := putR_len o y
        clear hV4 hb4 HPU H63 H73 HB3 HC3 HC3' p0 p1
        go_wp2_with fail
        go_roundg (q.length - (k + 1))
        case measure => omega
        case rel => exact ⟨k + 1, putR o y, d, by omega, Nat.le_refl _, by rw [show (k : Int) + 1 = ((k + 1 : Nat) : Int) by omega], by omega, by omega, ⟨by rw [← HM1.out, HST1.out]⟩, H64, H74, HB4, HC4⟩
      · have e2 : 1 < es.length := by omega
        have HST1 := Aside0.mk ((HST.out.trans (if_neg e1)).trans (if_pos e2))
        have e1' : ¬ (es.length : Int) = 1 := by omega
        have e2' : (es.length : Int) > 1 := by omega
        have e3' : (1 : Int) < (es.length : Int) := by omega
        have HPU := Aside0.mk (put_calls w.heap.size d y (by omega) _ w3 hs3 H73.out)
        clear HST
        go_wp2_with fail
        refine HPU.out.mono ?_
        rintro e w4 ⟨v4, rfl, hV4, hb4⟩
        have H74 := Aside0.mk hV4
        have H64 := Aside0.mk (Kd.V_below H63.out hb4)
        have HB4 := Aside0.mk (HB3.out.trans (hb4.mono hs3))
        have HC4 := Aside0.mk (Kd.C_below HC3.out hb4)
        have hpl := putR_len d y
        clear hV4 hb4 HPU H63 H73 HB3 HC3 HC3' p0 p1
        go_wp2_with fail
        go_roundg (q.length - (k + 1))
        case measure => omega
        case rel => exact ⟨k + 1, o, putR d y, by omega, Nat.le_refl _, by rw [show (k : Int) + 1 = ((k + 1 : Nat) : Int) by omega], by omega, by omega, ⟨by rw [← HM1.out, HST1.out]⟩, H64, H74, HB4, HC4⟩
    · obtain rfl : k = q.length := by omega
      have hM := HM.out
      rw [List.drop_length, List.foldl_nil] at hM
      have HFM := Aside0.mk hM
      clear hM HM
      go_wp2_with fail
      go_ret2
      rw [← HFM.out]
      exact ⟨_, _, rfl, H6.out, H7.out, BW.out⟩
end Go.Proofs.Ytmocfgghccmdgaa.TrNmRef

/- Sorted files, in plain words: search, put, drop, fits. -/
namespace Go.Proofs.Ytmocfgghccmdgaa.TrPlain
open Go Go.Proofs Go.RowKit Go.Proofs.YtmocfgghccmdgaaW.PrintWords Go.Proofs.Ytmocfgghccmdgaa.BytesLib Go.Proofs.Ytmocfgghccmdgaa.SplitLib Go.Proofs.Ytmocfgghccmdgaa.OrderLib Go.Proofs.Ytmocfgghccmdgaa.Elems Go.Proofs.Ytmocfgghccmdgaa.Valid Go.Proofs.Ytmocfgghccmdgaa.PathBase Go.Proofs.Ytmocfgghccmdgaa.TrLib Go.Proofs.Ytmocfgghccmdgaa.TrPut Go.Proofs.Ytmocfgghccmdgaa.TrFits Go.Proofs.Ytmocfgghccmdgaa.TrOps Go.Proofs.Ytmocfgghccmdgaa.TrMerge
set_option linter.unusedVariables false
set_option linter.unusedSimpArgs false

theorem valid_tells {s : ByteArray} (h : valid s = true) : L s ≠ [] ∧ s.size ≤ 60 ∧ ∀ e ∈ elemsL (L s), e ≠ [] ∧ e ≠ [46] ∧ e ≠ [46, 46] := by
  have h1 : ¬ s.toList = [] := fun e => by rw [valid_empty e] at h; cases h
  have h2 : (s.size : Int) ≤ 60 := by
    by_cases g : (s.size : Int) ≤ 60
    · exact g
    · rw [valid_long g] at h; cases h
  rw [valid_in h1 h2, List.all_eq_true] at h
  refine ⟨by rw [← toList_L]; exact h1, by omega, ?_⟩
  intro e he
  have hm : ofL e ∈ elems s := by rw [elems_list]; exact List.mem_map.2 ⟨e, he, rfl⟩
  have := h _ hm
  unfold okE at this
  rw [toList_L, L_ofL] at this
  simp only [Bool.and_eq_true, Bool.not_eq_true', List.isEmpty_eq_false_iff, beq_eq_false_iff_ne] at this
  exact ⟨this.1.1.1.1, this.1.1.2, this.1.2⟩
theorem valid_not_here {s : ByteArray} (h : valid s = true) : L s ≠ [] ∧ L s ≠ [46] := by
  obtain ⟨h1, _, h3⟩ := valid_tells h
  refine ⟨h1, fun e => ?_⟩
  have := (h3 [46] (by rw [e]; decide +kernel)).2.1
  exact this rfl

/-! ### The order -/
theorem cmp_self (a : ByteArray) : cmpP a a = 0 := cmpLL_self _
theorem cmp_eq {a b : ByteArray} (h : cmpP a b = 0) : a = b := L_inj (elemsL_inj (cmpLL_zero h))
theorem cmp_turn (a b : ByteArray) : cmpP b a = - cmpP a b := cmpLL_turn _ _
theorem cmp_tr {a b c : ByteArray} (h : cmpP a b ≤ 0) (g : cmpP b c ≤ 0) : cmpP a c ≤ 0 := cmpLL_tr h g
theorem lt_tr' {a b c : ByteArray} (h : cmpP a b < 0) (g : cmpP b c ≤ 0) : cmpP a c < 0 := by
  have h1 := cmp_tr (Int.le_of_lt h) g
  rcases Int.lt_or_eq_of_le h1 with h2 | h2
  · exact h2
  · have := cmp_eq h2
    subst this
    have := cmp_turn a b
    omega

/-- A tree. -/
structure Tree (T : List Fl) : Prop where
  ok : ∀ x ∈ T, valid x.1 = true ∧ x.2.size ≤ 4000
  up : T.Pairwise (fun x y => cmpP x.1 y.1 < 0)
  out : ∀ x ∈ T, ∀ y ∈ T, insideF x.1 y.1 = false
  few : T.length ≤ 60

theorem bs_at (p : Nat → Bool) (m : Nat) : ∀ (n lo hi : Nat), hi - lo ≤ n → lo ≤ m → m ≤ hi → (∀ i, i < m → p i = true) → (∀ i, m ≤ i → i < hi → p i = false) → bs p n lo hi = m
  | 0, lo, hi, h1, h2, h3, _, _ => by rw [bs]; omega
  | n + 1, lo, hi, h1, h2, h3, h4, h5 => by
    rw [bs]
    by_cases h : lo < hi
    · rw [if_pos h]
      by_cases g : (lo + hi) / 2 < m
      · rw [if_pos (h4 _ g)]
        exact bs_at p m n _ _ (by omega) (by omega) h3 h4 h5
      · rw [if_neg (by rw [h5 _ (by omega) (by omega)]; decide)]
        exact bs_at p m n _ _ (by omega) h2 (by omega) h4 (fun i hi1 hi2 => h5 i hi1 (by omega))
    · rw [if_neg h]; omega

theorem split_up (k : ByteArray) : ∀ (T : List Fl), T.Pairwise (fun x y => cmpP x.1 y.1 < 0) → ∃ A B, T = A ++ B ∧ (∀ y ∈ A, cmpP y.1 k < 0) ∧ (∀ y ∈ B, 0 ≤ cmpP y.1 k)
  | [], _ => ⟨[], [], rfl, (fun _ h => nomatch h), (fun _ h => nomatch h)⟩
  | x :: T, h => by
    obtain ⟨h1, h2⟩ := List.pairwise_cons.1 h
    by_cases g : cmpP x.1 k < 0
    · obtain ⟨A, B, rfl, hA, hB⟩ := split_up k T h2
      refine ⟨x :: A, B, rfl, fun y hy => ?_, hB⟩
      rcases List.mem_cons.1 hy with rfl | hy
      · exact g
      · exact hA y hy
    · refine ⟨[], x :: T, rfl, (fun _ h => nomatch h), fun y hy => ?_⟩
      rcases List.mem_cons.1 hy with rfl | hy
      · omega
      · have e1 := h1 y hy
        by_cases g2 : cmpP y.1 k < 0
        · have := lt_tr' e1 (Int.le_of_lt g2)
          omega
        · omega

theorem getD_A {A B : List Fl} {i : Nat} {d : Fl} (h : i < A.length) : (A ++ B).getD i d ∈ A := by
  rw [List.getD_eq_getElem?_getD, List.getElem?_append_left h, List.getElem?_eq_getElem h]
  exact List.getElem_mem h
theorem getD_B {A B : List Fl} {i : Nat} {d : Fl} (h : A.length ≤ i) (h2 : i < (A ++ B).length) : (A ++ B).getD i d ∈ B := by
  rw [List.length_append] at h2
  rw [List.getD_eq_getElem?_getD, List.getElem?_append_right h, List.getElem?_eq_getElem (by omega)]
  exact List.getElem_mem _

theorem atI_of {A B : List Fl} {k : ByteArray} (hA : ∀ y ∈ A, cmpP y.1 k < 0) (hB : ∀ y ∈ B, 0 ≤ cmpP y.1 k) : atI (A ++ B) k = A.length := by
  unfold atI
  refine bs_at _ A.length _ _ _ (by omega) (Nat.zero_le _) (by rw [List.length_append]; omega) ?_ ?_
  · intro i hi
    exact decide_eq_true (hA _ (getD_A hi))
  · intro i h1 h2
    refine decide_eq_false ?_
    have := hB _ (getD_B (d := (⟨#[]⟩, ⟨#[]⟩)) h1 h2)
    omega

/-- Where a key stands, or would stand. -/
theorem at_split {T : List Fl} (up : T.Pairwise (fun x y => cmpP x.1 y.1 < 0)) (k : ByteArray) :
    (∃ A B, T = A ++ B ∧ (∀ y ∈ A, cmpP y.1 k < 0) ∧ (∀ y ∈ B, 0 < cmpP y.1 k) ∧ atF T k = (A.length, false)) ∨
    (∃ A z B, T = A ++ z :: B ∧ (∀ y ∈ A, cmpP y.1 k < 0) ∧ z.1 = k ∧ (∀ y ∈ B, 0 < cmpP y.1 k) ∧ atF T k = (A.length, true)) := by
  obtain ⟨A, B, rfl, hA, hB⟩ := split_up k T up
  have hI := atI_of hA hB
  cases B with
  | nil =>
    refine .inl ⟨A, [], rfl, hA, (fun _ h => nomatch h), ?_⟩
    unfold atF
    rw [hI, decide_eq_false (by simp)]
    rfl
  | cons z B =>
    have hz := hB z List.mem_cons_self
    have hgz : (A ++ z :: B).getD A.length (⟨#[]⟩, ⟨#[]⟩) = z := by
      rw [List.getD_eq_getElem?_getD, List.getElem?_append_right (Nat.le_refl _)]; simp
    have hlt : decide (A.length < (A ++ z :: B).length) = true := decide_eq_true (by simp)
    have hBz : ∀ y ∈ B, cmpP z.1 y.1 < 0 := by
      have := (List.pairwise_append.1 up).2.1
      exact (List.pairwise_cons.1 this).1
    by_cases g : cmpP z.1 k = 0
    · refine .inr ⟨A, z, B, rfl, hA, cmp_eq g, fun y hy => ?_, ?_⟩
      · have h1 := hBz y hy
        rw [cmp_eq g] at h1
        have := cmp_turn k y.1
        omega
      · unfold atF
        rw [hI, hlt, hgz, decide_eq_true g]; rfl
    · refine .inl ⟨A, z :: B, rfl, hA, fun y hy => ?_, ?_⟩
      · rcases List.mem_cons.1 hy with rfl | hy
        · omega
        · have h1 := hBz y hy
          have h2 : cmpP k z.1 < 0 := by have := cmp_turn z.1 k; omega
          have h3 := lt_tr' h2 (Int.le_of_lt h1)
          have := cmp_turn k y.1
          omega
      · unfold atF
        rw [hI, hlt, hgz, decide_eq_false g]; rfl

theorem cmp_ne {a b : ByteArray} (h : cmpP a b < 0 ∨ 0 < cmpP a b) : a ≠ b := by
  rintro rfl
  rw [cmp_self] at h
  omega

/-- It is there. -/
theorem at_iff {T : List Fl} (up : T.Pairwise (fun x y => cmpP x.1 y.1 < 0)) (k : ByteArray) : (atF T k).2 = true ↔ ∃ y ∈ T, y.1 = k := by
  rcases at_split up k with ⟨A, B, rfl, hA, hB, e⟩ | ⟨A, z, B, rfl, hA, hz, hB, e⟩
  · rw [e]
    constructor
    · intro h; cases h
    · rintro ⟨y, hy, rfl⟩
      rcases List.mem_append.1 hy with hy | hy
      · exact absurd rfl (cmp_ne (.inl (hA y hy)))
      · exact absurd rfl (cmp_ne (.inr (hB y hy)))
  · rw [e]
    exact ⟨fun _ => ⟨z, by simp, hz⟩, fun _ => rfl⟩

/-- What put makes. -/
theorem put_form {T : List Fl} (up : T.Pairwise (fun x y => cmpP x.1 y.1 < 0)) (x : Fl) :
    (∃ A B, T = A ++ B ∧ (∀ y ∈ A, cmpP y.1 x.1 < 0) ∧ (∀ y ∈ B, 0 < cmpP y.1 x.1) ∧ putF T x = A ++ x :: B) ∨
    (∃ A z B, T = A ++ z :: B ∧ (∀ y ∈ A, cmpP y.1 x.1 < 0) ∧ z.1 = x.1 ∧ (∀ y ∈ B, 0 < cmpP y.1 x.1) ∧ putF T x = A ++ x :: B) := by
  rcases at_split up x.1 with ⟨A, B, rfl, hA, hB, e⟩ | ⟨A, z, B, rfl, hA, hz, hB, e⟩
  · refine .inl ⟨A, B, rfl, hA, hB, ?_⟩
    unfold putF
    rw [e]
    simp
  · refine .inr ⟨A, z, B, rfl, hA, hz, hB, ?_⟩
    unfold putF
    rw [e]
    simp

theorem put_mem {T : List Fl} (up : T.Pairwise (fun x y => cmpP x.1 y.1 < 0)) (x y : Fl) : y ∈ putF T x ↔ y = x ∨ (y ∈ T ∧ y.1 ≠ x.1) := by
  rcases put_form up x with ⟨A, B, rfl, hA, hB, e⟩ | ⟨A, z, B, rfl, hA, hz, hB, e⟩
  · rw [e, List.mem_append, List.mem_cons, List.mem_append]
    constructor
    · rintro (h | h | h)
      · exact .inr ⟨.inl h, cmp_ne (.inl (hA y h))⟩
      · exact .inl h
      · exact .inr ⟨.inr h, cmp_ne (.inr (hB y h))⟩
    · rintro (h | ⟨h | h, _⟩)
      · exact .inr (.inl h)
      · exact .inl h
      · exact .inr (.inr h)
  · rw [e, List.mem_append, List.mem_cons, List.mem_append, List.mem_cons]
    constructor
    · rintro (h | h | h)
      · exact .inr ⟨.inl h, cmp_ne (.inl (hA y h))⟩
      · exact .inl h
      · exact .inr ⟨.inr (.inr h), cmp_ne (.inr (hB y h))⟩
    · rintro (h | ⟨h | rfl | h, g⟩)
      · exact .inr (.inl h)
      · exact .inl h
      · exact absurd hz g
      · exact .inr (.inr h)

theorem put_up {T : List Fl} (up : T.Pairwise (fun x y => cmpP x.1 y.1 < 0)) (x : Fl) : (putF T x).Pairwise (fun x y => cmpP x.1 y.1 < 0) := by
  have main : ∀ A B : List Fl, A.Pairwise (fun x y => cmpP x.1 y.1 < 0) → B.Pairwise (fun x y => cmpP x.1 y.1 < 0) → (∀ y ∈ A, cmpP y.1 x.1 < 0) → (∀ y ∈ B, 0 < cmpP y.1 x.1) → (A ++ x :: B).Pairwise (fun x y => cmpP x.1 y.1 < 0) := by
    intro A B h1 h2 hA hB
    have hB' : ∀ y ∈ B, cmpP x.1 y.1 < 0 := fun y hy => by have := hB y hy; have := cmp_turn y.1 x.1; omega
    refine List.pairwise_append.2 ⟨h1, List.pairwise_cons.2 ⟨hB', h2⟩, fun a ha b hb => ?_⟩
    rcases List.mem_cons.1 hb with rfl | hb
    · exact hA a ha
    · exact lt_tr' (hA a ha) (Int.le_of_lt (hB' b hb))
  rcases put_form up x with ⟨A, B, rfl, hA, hB, e⟩ | ⟨A, z, B, rfl, hA, hz, hB, e⟩
  · rw [e]
    obtain ⟨h1, h2, _⟩ := List.pairwise_append.1 up
    exact main A B h1 h2 hA hB
  · rw [e]
    obtain ⟨h1, h2, _⟩ := List.pairwise_append.1 up
    exact main A B h1 (List.pairwise_cons.1 h2).2 hA hB

/-! ### inside -/
theorem inside_iff {p d : ByteArray} (h1 : L d ≠ []) (h2 : L d ≠ [46]) : insideF p d = true ↔ ∃ r, r ≠ [] ∧ L p = L d ++ 47 :: r := by
  unfold insideF withinF
  rw [if_neg (by rintro (h | h); exact h1 h; exact h2 h)]
  by_cases e : L p = L d
  · rw [if_pos e]
    constructor
    · intro h
      rw [show ((⟨#[]⟩ : ByteArray), true).1.toList = [] from by rw [toList_L]; rfl] at h
      exact absurd h (by decide)
    · rintro ⟨r, _, hr⟩
      rw [e] at hr
      have := congrArg List.length hr
      rw [List.length_append] at this
      simp at this
  · rw [if_neg e]
    by_cases g : L d ++ [47] <+: L p
    · rw [if_pos g]
      obtain ⟨r, hr⟩ := g
      have hx : L (p.extract (d.size + 1) p.size) = r := by
        rw [L_tail, ← hr, List.drop_left' (by rw [List.length_append, L_length]; rfl)]
      have hr2 : L p = L d ++ 47 :: r := by rw [← hr]; simp
      simp only [Bool.true_and, bne_iff_ne, toList_L, hx]
      constructor
      · intro h; exact ⟨r, h, hr2⟩
      · rintro ⟨r2, h, e2⟩
        rw [hr2] at e2
        have := List.append_cancel_left e2
        injection this with _ e3
        rw [e3]; exact h
    · rw [if_neg g]
      constructor
      · intro h; exact absurd h (by decide)
      · rintro ⟨r, _, hr⟩
        exact absurd ⟨r, by rw [hr]; simp⟩ g

/-- Of a path that may be: nothing stands alone behind a slash. -/
theorem valid_rest {p : ByteArray} (h : valid p = true) {Y r : List UInt8} (hY : Y ≠ []) (e : L p = Y ++ 47 :: r) : r ≠ [] := by
  rintro rfl
  obtain ⟨_, _, h3⟩ := valid_tells h
  rw [e, elemsL_slash _ hY] at h3
  exact (h3 [] (List.mem_append_right _ (by rw [splitL]; exact List.mem_singleton.2 rfl))).1 rfl

theorem inside_lt {p d : ByteArray} (h1 : L d ≠ []) (h2 : L d ≠ [46]) (h : insideF p d = true) : cmpP d p < 0 := by
  obtain ⟨r, _, e⟩ := (inside_iff h1 h2).1 h
  unfold cmpP
  rw [e, elemsL_slash _ h1, cmpLL_within _ _ (splitL_ne _ _)]
  decide

/-- Who stands between a directory and what is in it is in it. -/
theorem inside_near {p y z : ByteArray} (hp : valid p = true) (hz : valid z = true) (h : insideF y p = true) (h1 : cmpP p z < 0) (h2 : cmpP z y ≤ 0) : insideF z p = true := by
  obtain ⟨n1, n2⟩ := valid_not_here hp
  obtain ⟨r, hr, e⟩ := (inside_iff n1 n2).1 h
  unfold cmpP at h1 h2
  rw [e, elemsL_slash _ n1] at h2
  have h1' : cmpLL (elemsL (L p) ++ []) (elemsL (L z)) ≤ 0 := by rw [List.append_nil]; omega
  obtain ⟨R, hR⟩ := cmpLL_between _ h1' h2
  have hpn : elemsL (L p) ≠ [] := fun e => n1 (elemsL_nil.1 e)
  have hRn : R ≠ [] := by
    rintro rfl
    rw [List.append_nil] at hR
    rw [hR, cmpLL_self] at h1
    omega
  have e2 : L z = L p ++ 47 :: joinL 47 R := by
    rw [← elemsL_join (L z), hR, joinL_append _ _ _ hpn hRn, elemsL_join]
  exact (inside_iff n1 n2).2 ⟨_, valid_rest hz n1 e2, e2⟩

/-! ### The directories above -/
theorem lastI_none (l : List UInt8) (c : UInt8) : ∀ i, lastI l c i < 0 → ∀ j, j < i → l[j]? ≠ some c
  | 0, _, j, hj => absurd hj (Nat.not_lt_zero _)
  | i + 1, h, j, hj => by
    unfold lastI at h
    by_cases g : l[i]? = some c
    · rw [if_pos g] at h; omega
    · rw [if_neg g] at h
      by_cases e : j = i
      · rw [e]; exact g
      · exact lastI_none l c i h j (by omega)
theorem lastI_some (l : List UInt8) (c : UInt8) : ∀ i, 0 ≤ lastI l c i → l[(lastI l c i).toNat]? = some c ∧ ∀ j, (lastI l c i).toNat < j → j < i → l[j]? ≠ some c
  | 0, h => by exact absurd h (by show ¬ (0 : Int) ≤ -1; omega)
  | i + 1, h => by
    unfold lastI at h ⊢
    by_cases g : l[i]? = some c
    · rw [if_pos g]
      exact ⟨by simpa using g, fun j h1 h2 => by simp at h1; omega⟩
    · rw [if_neg g] at h ⊢
      obtain ⟨h1, h2⟩ := lastI_some l c i h
      refine ⟨h1, fun j a b => ?_⟩
      by_cases e : j = i
      · rw [e]; exact g
      · exact h2 j a (by omega)

theorem split_form (d : ByteArray) : (47 ∉ L d ∧ L (splitF d).1 = []) ∨ (∃ b, 47 ∉ b ∧ L d = L (splitF d).1 ++ 47 :: b) := by
  unfold splitF
  by_cases g : lastI (L d) 47 d.size ≥ 0
  · rw [if_pos g]
    obtain ⟨h1, h2⟩ := lastI_some (L d) 47 d.size g
    obtain ⟨n, hn⟩ : ∃ n, (lastI (L d) 47 d.size).toNat = n := ⟨_, rfl⟩
    rw [hn] at h1 h2 ⊢
    obtain ⟨hl, he⟩ := List.getElem?_eq_some_iff.1 h1
    refine .inr ⟨(L d).drop (n + 1), ?_, ?_⟩
    · intro hm
      obtain ⟨k, hk, hk2⟩ := List.mem_iff_getElem.1 hm
      rw [List.length_drop] at hk
      rw [List.getElem_drop] at hk2
      exact h2 (n + 1 + k) (by omega) (by rw [← L_length]; omega) (by rw [List.getElem?_eq_some_iff]; exact ⟨by omega, hk2⟩)
    · show L d = L (d.extract 0 n) ++ 47 :: (L d).drop (n + 1)
      rw [L_head]
      conv => lhs; rw [← List.take_append_drop n (L d), List.drop_eq_getElem_cons hl, he]
  · rw [if_neg g]
    refine .inl ⟨?_, rfl⟩
    intro hm
    obtain ⟨k, hk, hk2⟩ := List.mem_iff_getElem.1 hm
    exact lastI_none (L d) 47 d.size (by omega) k (by rw [← L_length]; exact hk) (by rw [List.getElem?_eq_some_iff]; exact ⟨hk, hk2⟩)

theorem above_split {D b Y : List UInt8} (hb : (47 : UInt8) ∉ b) : (∃ r, D ++ 47 :: b = Y ++ 47 :: r) ↔ Y = D ∨ ∃ r, D = Y ++ 47 :: r := by
  constructor
  · rintro ⟨r, h⟩
    rcases List.append_eq_append_iff.1 h with ⟨a, h1, h2⟩ | ⟨a, h1, h2⟩
    · cases a with
      | nil => exact .inl (by rw [h1, List.append_nil])
      | cons c a =>
        rw [List.cons_append] at h2
        injection h2 with h3 h4
        exact absurd (by rw [h4]; simp) hb
    · cases a with
      | nil => exact .inl (by rw [h1, List.append_nil])
      | cons c a =>
        rw [List.cons_append] at h2
        injection h2 with h3 h4
        subst h3
        exact .inr ⟨a, h1⟩
  · rintro (rfl | ⟨r, rfl⟩)
    · exact ⟨b, rfl⟩
    · exact ⟨r ++ 47 :: b, by simp⟩

theorem up_iff {T : List Fl} (up : T.Pairwise (fun x y => cmpP x.1 y.1 < 0)) (hT : ∀ y ∈ T, L y.1 ≠ []) : ∀ (n : Nat) (d : ByteArray), d.size ≤ n → (upF T d.size d = true ↔ ∀ y ∈ T, ¬ (y.1 = d ∨ ∃ r, L d = L y.1 ++ 47 :: r)) := by
  intro n
  induction n with
  | zero =>
    intro d hd
    have h0 : L d = [] := List.length_eq_zero_iff.1 (by rw [L_length]; omega)
    rw [upF_end (by rw [toList_L]; exact h0)]
    refine ⟨fun _ y hy => ?_, fun _ => rfl⟩
    rintro (e | ⟨r, e⟩)
    · exact hT y hy (by rw [e]; exact h0)
    · rw [h0] at e; simp at e
  | succ n ih =>
    intro d hd
    by_cases h0 : L d = []
    · rw [upF_end (by rw [toList_L]; exact h0)]
      refine ⟨fun _ y hy => ?_, fun _ => rfl⟩
      rintro (e | ⟨r, e⟩)
      · exact hT y hy (by rw [e]; exact h0)
      · rw [h0] at e; simp at e
    · rw [upF_step (by rw [toList_L]; exact h0)]
      by_cases g : (atF T d).2 = true
      · rw [if_pos g]
        obtain ⟨y, hy, e⟩ := (at_iff up d).1 g
        exact ⟨fun h => (nomatch h), fun h => absurd (.inl e) (h y hy)⟩
      · rw [if_neg g]
        have hno : ∀ y ∈ T, y.1 ≠ d := fun y hy e => g ((at_iff up d).2 ⟨y, hy, e⟩)
        have hs : (splitF d).1.size ≤ n := by
          have hp : 0 < d.size := by
            rcases Nat.eq_zero_or_pos d.size with h | h
            · exact absurd (List.length_eq_zero_iff.1 (by rw [L_length]; exact h)) h0
            · exact h
          rcases split_lt d with g2 | g2
          · omega
          · have : (splitF d).1.size = 0 := by rw [← L_length, ← toList_L, g2]; rfl
            omega
        rw [ih _ hs]
        rcases split_form d with ⟨s1, s2⟩ | ⟨b, s1, s2⟩
        · constructor
          · intro _ y hy
            rintro (e | ⟨r, e⟩)
            · exact hno y hy e
            · exact s1 (by rw [e]; simp)
          · intro _ y hy
            rintro (e | ⟨r, e⟩)
            · exact hT y hy (by rw [e]; exact s2)
            · rw [s2] at e; simp at e
        · have hk : ∀ y : Fl, (∃ r, L d = L y.1 ++ 47 :: r) ↔ y.1 = (splitF d).1 ∨ ∃ r, L (splitF d).1 = L y.1 ++ 47 :: r := by
            intro y
            rw [s2, above_split s1]
            constructor
            · rintro (e | e)
              · exact .inl (L_inj e)
              · exact .inr e
            · rintro (e | e)
              · exact .inl (by rw [e])
              · exact .inr e
          constructor
          · intro h y hy
            rintro (e | e)
            · exact hno y hy e
            · exact h y hy ((hk y).1 e)
          · intro h y hy e
            exact h y hy (.inr ((hk y).2 e))

/-- May a path stand beside the files of a tree? -/
theorem fits_iffW {T : List Fl} (hok : ∀ x ∈ T, valid x.1 = true) (hup : T.Pairwise (fun x y => cmpP x.1 y.1 < 0)) {p : ByteArray} (hp : valid p = true) : fitsF T p = true ↔ ∀ y ∈ T, insideF y.1 p = false ∧ insideF p y.1 = false := by
  have hTn : ∀ y ∈ T, L y.1 ≠ [] := fun y hy => (valid_not_here (hok y hy)).1
  obtain ⟨n1, n2⟩ := valid_not_here hp
  have hU : upF T p.size (splitF p).1 = true ↔ ∀ y ∈ T, insideF p y.1 = false := by
    have h1 : upF T p.size (splitF p).1 = upF T (splitF p).1.size (splitF p).1 := upF_more T _ _ _ (split_le p) (Nat.le_refl _)
    rw [h1, up_iff hup hTn _ _ (Nat.le_refl _)]
    have hk : ∀ y ∈ T, (y.1 = (splitF p).1 ∨ ∃ r, L (splitF p).1 = L y.1 ++ 47 :: r) ↔ insideF p y.1 = true := by
      intro y hy
      obtain ⟨m1, m2⟩ := valid_not_here (hok y hy)
      rw [inside_iff m1 m2]
      rcases split_form p with ⟨s1, s2⟩ | ⟨b, s1, s2⟩
      · constructor
        · rintro (e | ⟨r, e⟩)
          · exact absurd (by rw [e]; exact s2) m1
          · rw [s2] at e; simp at e
        · rintro ⟨r, _, e⟩
          exact absurd (by rw [e]; simp) s1
      · have h2 := above_split (D := L (splitF p).1) (Y := L y.1) s1
        constructor
        · intro h
          obtain ⟨r, hr⟩ := h2.2 (by rcases h with e | e; exact .inl (by rw [e]); exact .inr e)
          have e2 : L p = L y.1 ++ 47 :: r := by rw [s2, hr]
          exact ⟨r, valid_rest hp m1 e2, e2⟩
        · rintro ⟨r, _, e⟩
          rcases h2.1 ⟨r, by rw [← s2, e]⟩ with e2 | e2
          · exact .inl (L_inj e2)
          · exact .inr e2
    constructor
    · intro h y hy
      cases e : insideF p y.1 with
      | false => rfl
      | true => exact absurd ((hk y hy).2 e) (h y hy)
    · intro h y hy e
      have := h y hy
      rw [(hk y hy).1 e] at this
      cases this
  -- the nearest one behind
  have hN : ∀ (A B : List Fl), (∀ y ∈ A, cmpP y.1 p < 0 ∨ y.1 = p) → (∀ y ∈ B, 0 < cmpP y.1 p) → T = A ++ B →
      ((A.length < T.length ∧ insideF (T.getD A.length (⟨#[]⟩, ⟨#[]⟩)).1 p = true) ↔ ∃ y ∈ T, insideF y.1 p = true) := by
    intro A B hA hB e
    constructor
    · rintro ⟨h1, h2⟩
      refine ⟨_, ?_, h2⟩
      rw [List.getD_eq_getElem?_getD, List.getElem?_eq_getElem h1]
      exact List.getElem_mem h1
    · rintro ⟨y, hy, h⟩
      have hlt := inside_lt n1 n2 h
      have hyB : y ∈ B := by
        rw [e] at hy
        rcases List.mem_append.1 hy with hy | hy
        · rcases hA y hy with g | g
          · have := cmp_turn y.1 p; omega
          · rw [g, cmp_self] at hlt; omega
        · exact hy
      cases B with
      | nil => cases hyB
      | cons z B =>
        have hgz : T.getD A.length (⟨#[]⟩, ⟨#[]⟩) = z := by
          rw [e, List.getD_eq_getElem?_getD, List.getElem?_append_right (Nat.le_refl _)]; simp
        have hzm : z ∈ T := by rw [e]; simp
        rw [hgz]
        refine ⟨by rw [e]; simp, ?_⟩
        have hz1 : cmpP p z.1 < 0 := by have := hB z List.mem_cons_self; have := cmp_turn z.1 p; omega
        refine inside_near hp (hok z hzm) h hz1 ?_
        rcases List.mem_cons.1 hyB with rfl | hyB
        · rw [cmp_self]; exact Int.le_refl _
        · have hup := hup
          rw [e] at hup
          exact Int.le_of_lt ((List.pairwise_cons.1 (List.pairwise_append.1 hup).2.1).1 y hyB)
  have main : ∀ n : Nat, (n < T.length ∧ insideF (T.getD n (⟨#[]⟩, ⟨#[]⟩)).1 p = true ↔ ∃ y ∈ T, insideF y.1 p = true) →
      ((if n < T.length ∧ insideF (T.getD n (⟨#[]⟩, ⟨#[]⟩)).1 p = true then false else upF T p.size (splitF p).1) = true ↔ ∀ y ∈ T, insideF y.1 p = false ∧ insideF p y.1 = false) := by
    intro n hn
    by_cases g : n < T.length ∧ insideF (T.getD n (⟨#[]⟩, ⟨#[]⟩)).1 p = true
    · rw [if_pos g]
      obtain ⟨y, hy, e⟩ := hn.1 g
      refine ⟨fun h => (nomatch h), fun h => ?_⟩
      have := (h y hy).1
      rw [e] at this; cases this
    · rw [if_neg g, hU]
      constructor
      · intro h y hy
        refine ⟨?_, h y hy⟩
        cases e : insideF y.1 p with
        | false => rfl
        | true => exact absurd (hn.2 ⟨y, hy, e⟩) g
      · intro h y hy
        exact (h y hy).2
  unfold fitsF
  rcases at_split hup p with ⟨A, B, e, hA, hB, ea⟩ | ⟨A, z, B, e, hA, hz, hB, ea⟩
  · rw [ea]
    exact main A.length (hN A B (fun y hy => .inl (hA y hy)) hB e)
  · rw [ea]
    have := hN (A ++ [z]) B (fun y hy => by
      rcases List.mem_append.1 hy with hy | hy
      · exact .inl (hA y hy)
      · rw [List.mem_singleton] at hy; exact .inr (by rw [hy, hz])) hB (by rw [e]; simp)
    rw [List.length_append] at this
    exact main (A.length + 1) this

theorem fits_iff {T : List Fl} (hT : Tree T) {p : ByteArray} (hp : valid p = true) : fitsF T p = true ↔ ∀ y ∈ T, insideF y.1 p = false ∧ insideF p y.1 = false :=
  fits_iffW (fun x hx => (hT.ok x hx).1) hT.up hp

end Go.Proofs.Ytmocfgghccmdgaa.TrPlain

