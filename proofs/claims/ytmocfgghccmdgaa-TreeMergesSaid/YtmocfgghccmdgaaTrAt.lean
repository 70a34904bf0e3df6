/- tree.sorted's at, over files: the walk. -/
import Derived.Test.YtmocfgghccmdgaaTrLib
namespace Go.Proofs.Ytmocfgghccmdgaa.TrAt
open Go Go.Proofs Go.RowKit Go.Proofs.YtmocfgghccmdgaaW.PrintWords Go.Proofs.Ytmocfgghccmdgaa.RowsLib Go.Proofs.Ytmocfgghccmdgaa.TrLib Go.Proofs.Ytmocfgghccmdgaa.PathBase
set_option linter.unusedVariables false
set_option linter.unusedSimpArgs false

/-- The closure f.Path. -/
theorem key_calls (x : Fl) (w : World) : Calls Try.prog 66 #[.agg #[.string x.1, .string x.2]] w fun e w' => e = .returned (.string x.1) ∧ Below w.heap.size w w' := by
  go_enter Try.func66, Try.ntmps66
  go_wp2
  go_ret
  exact ⟨rfl, (Below.refl _ w).alloc (Nat.le_refl _) _⟩

/-- What the closure that compares holds to: a pointer's box, and what it points to. -/
structure Hold (W : World) (bx B : Nat) : Prop where
  box : W.heap[bx]? = some (.cells #[.pointer (some ⟨B, 0, none⟩)] 51 (0, 0))
  obj : ∃ v, W.heap[B]? = some (.cells #[v, .func (.func 66) #[] #[], .func (.func 47) #[] #[]] 58 (0, 0))
theorem Hold.later {W W' : World} {bx B : Nat} (h : Hold W bx B) (hb : Below W.heap.size W W') : Hold W' bx B :=
  ⟨block_later h.box hb, by obtain ⟨v, hv⟩ := h.obj; exact ⟨v, block_later hv hb⟩⟩

theorem S_of {W w' : World} {bx B n : Nat} {x : Fl} {v : Value} (c0 : W.cell? ⟨bx, 0, none⟩ = some (.pointer (some ⟨B, 0, none⟩))) (l0 : bx < W.heap.size) (c1 : W.cell? ⟨B, 1, none⟩ = some (.func (.func 66) #[] #[])) (c2 : W.cell? ⟨B, 2, none⟩ = some (.func (.func 47) #[] #[])) (l1 : B < W.heap.size)
    (c3 : W.cell? ⟨n, 0, none⟩ = some (.string x.1)) (c4 : W.cell? ⟨n, 1, none⟩ = some (.string x.2)) (l2 : n < W.heap.size) (hb : Below W.heap.size W w') :
    w'.cell? ⟨bx, 0, none⟩ = some (.pointer (some ⟨B, 0, none⟩)) ∧ w'.cell? ⟨B, 1, none⟩ = some (.func (.func 66) #[] #[]) ∧ w'.cell? ⟨B, 2, none⟩ = some (.func (.func 47) #[] #[]) ∧ w'.cell? ⟨n, 0, none⟩ = some (.string x.1) ∧ w'.cell? ⟨n, 1, none⟩ = some (.string x.2) ∧ Below W.heap.size W w' :=
  ⟨(hb.cell (p := ⟨bx, 0, none⟩) l0).trans c0, (hb.cell (p := ⟨B, 1, none⟩) l1).trans c1, (hb.cell (p := ⟨B, 2, none⟩) l1).trans c2, (hb.cell (p := ⟨n, 0, none⟩) l2).trans c3, (hb.cell (p := ⟨n, 1, none⟩) l2).trans c4, hb⟩

set_option maxHeartbeats 4000000 in
set_option maxRecDepth 100000 in
theorem cmp_calls (x : Fl) (k : ByteArray) (hx : x.1.size ≤ 1099511627776) (hk : k.size ≤ 1099511627776) (bx B : Nat) (w : World) (h : Hold w bx B) :
    Calls Try.prog 70 #[.agg #[.string x.1, .string x.2], .string k, .pointer (some ⟨bx, 0, none⟩)] w fun e w' => e = .returned (.int .i64 (cmpP x.1 k)) ∧ Below w.heap.size w w' := by
  go_enter Try.func70, Try.ntmps70
  go_wp2_with fail
  obtain ⟨W, hW⟩ : ∃ W, w.alloc (Obj.cells #[Value.string x.1, Value.string x.2] 24) = W := ⟨_, rfl⟩
  have b0 : Below w.heap.size w W := by rw [← hW]; exact (Below.refl _ w).alloc (Nat.le_refl _) _
  have hs : W.heap.size = w.heap.size + 1 := by rw [← hW]; simp
  have c3 : W.cell? ⟨w.heap.size, 0, none⟩ = some (.string x.1) := by rw [← hW]; simp [go_sem]
  have c4 : W.cell? ⟨w.heap.size, 1, none⟩ = some (.string x.2) := by rw [← hW]; simp [go_sem]
  rw [hW]
  have hH := h.later b0
  obtain ⟨v, hv⟩ := hH.obj
  have c0 := (box_cell (k := 0) hH.box rfl).1
  have c1 := (box_cell (k := 1) hv rfl).1
  have c2 := (box_cell (k := 2) hv rfl).1
  have l0 := block_lt hH.box
  have l1 := block_lt hv
  have l2 : w.heap.size < W.heap.size := by omega
  have hB : Below W.heap.size W W := Below.refl _ _
  have hBd : Below W.heap.size W W.drew := hB.drew
  have B0 := Aside0.mk b0
  have HKEY : Aside0 (∀ W' : World, Below W.heap.size W W' → Calls Try.prog 66 #[.agg #[.string x.1, .string x.2]] W' fun e w' => e = .returned (.string x.1) ∧ Below W.heap.size W w') :=
    ⟨fun W' hb => (key_calls x W').mono fun e w' ⟨h1, h2⟩ => ⟨h1, hb.trans (h2.mono hb.size)⟩⟩
  have HCMP : Aside0 (∀ W' : World, Below W.heap.size W W' → Calls Try.prog 47 #[.string x.1, .string k] W' fun e w' => e = .returned (.int .i64 (cmpP x.1 k)) ∧ Below W.heap.size W w') :=
    ⟨fun W' hb => (Compare_calls x.1 k hx hk W').mono fun e w' ⟨h1, h2⟩ => ⟨h1, hb.trans (h2.mono hb.size)⟩⟩
  clear h hH hv hW b0 hs hx hk
  go_region_held3 (fun w' => w'.cell? ⟨bx, 0, none⟩ = some (.pointer (some ⟨B, 0, none⟩)) ∧ w'.cell? ⟨B, 1, none⟩ = some (.func (.func 66) #[] #[]) ∧ w'.cell? ⟨B, 2, none⟩ = some (.func (.func 47) #[] #[]) ∧ w'.cell? ⟨w.heap.size, 0, none⟩ = some (.string x.1) ∧ w'.cell? ⟨w.heap.size, 1, none⟩ = some (.string x.2) ∧ Below W.heap.size W w')
    (first
      | exact S_of (v := v) c0 l0 c1 c2 l1 c3 c4 l2 hB
      | exact S_of (v := v) c0 l0 c1 c2 l1 c3 c4 l2 hBd
      | exact S_of (v := v) c0 l0 c1 c2 l1 c3 c4 l2 hbb
      | exact S_of (v := v) c0 l0 c1 c2 l1 c3 c4 l2 (by go_split_ands; assumption)
      | (go_split_ands; exact S_of (v := v) c0 l0 c1 c2 l1 c3 c4 l2 (by assumption))
      | go_keep)
    (first
      | (go_at_call 66; refine (HKEY.out _ (by first | exact hBd | (go_split_ands; assumption))).mono ?_; rintro e w' ⟨rfl, hbb⟩)
      | (go_at_call 47; refine (HCMP.out _ (by first | exact hBd | (go_split_ands; assumption))).mono ?_; rintro e w' ⟨rfl, hbb⟩))
  go_wp2_with fail
  go_ret
  exact ⟨rfl, B0.out.trans (hbb.mono B0.out.size)⟩

def pF (l : List Fl) (k : ByteArray) (i : Nat) : Bool := decide (cmpP (l.getD i (⟨#[]⟩, ⟨#[]⟩)).1 k < 0)
theorem pF_at {l : List Fl} {k : ByteArray} {i : Nat} (h : i < l.length) : pF l k i = decide (cmpP l[i].1 k < 0) := by
  unfold pF
  simp [List.getD, List.getElem?_eq_getElem h]
theorem atI_bs (l : List Fl) (k : ByteArray) : ∀ n, l.length - 0 ≤ n → bs (pF l k) n 0 l.length = atI l k := fun n hn => bs_more (pF l k) n (l.length + 1) 0 l.length hn (by omega) (Nat.zero_le _)
theorem bs_up {p : Nat → Bool} {lo hi r : Nat} (hlt : lo < hi) (h : ∀ n, hi - lo ≤ n → bs p n lo hi = r) (hp : p ((lo + hi) / 2) = true) : ∀ n, hi - ((lo + hi) / 2 + 1) ≤ n → bs p n ((lo + hi) / 2 + 1) hi = r := fun n hn => by
  have h1 := h (hi - lo + 1) (by omega)
  rw [bs, if_pos hlt, if_pos hp] at h1
  rw [← h1]
  exact bs_more p n (hi - lo) _ _ hn (by omega) (by omega)
theorem bs_dn {p : Nat → Bool} {lo hi r : Nat} (hlt : lo < hi) (h : ∀ n, hi - lo ≤ n → bs p n lo hi = r) (hp : p ((lo + hi) / 2) = false) : ∀ n, (lo + hi) / 2 - lo ≤ n → bs p n lo ((lo + hi) / 2) = r := fun n hn => by
  have h1 := h (hi - lo + 1) (by omega)
  rw [bs, if_pos hlt, if_neg (by rw [hp]; decide)] at h1
  rw [← h1]
  exact bs_more p n (hi - lo) _ _ hn (by omega) (by omega)

set_option maxHeartbeats 4000000 in
set_option maxRecDepth 100000 in
theorem bin_calls (l : List Fl) (k : ByteArray) (hx : ∀ x ∈ l, x.1.size ≤ 1099511627776) (hk : k.size ≤ 1099511627776) (bx B : Nat) (A : Option Addr) (c : Nat) (w : World) (hr : Kd.C kF w A l.length l) (hl : l.length ≤ 4611686018427387000) (h : Hold w bx B) :
    Calls Try.prog 69 #[.slice A l.length c, .string k, .func (.func 70) #[] #[.pointer (some ⟨bx, 0, none⟩)]] w
      fun e w' => e = .returned (.tuple #[.int .i64 (atF l k).1, .bool (atF l k).2]) ∧ Below w.heap.size w w' := by
  have HR := Aside0.mk hr
  have H := Aside0.mk h
  have HX := Aside0.mk hx
  have HCMP : Aside0 (∀ (W' : World) (x : Fl), x ∈ l → Below w.heap.size w W' → Calls Try.prog 70 #[.agg #[.string x.1, .string x.2], .string k, .pointer (some ⟨bx, 0, none⟩)] W' fun e w' => e = .returned (.int .i64 (cmpP x.1 k)) ∧ Below w.heap.size w w') :=
    ⟨fun W' x hm hb => (cmp_calls x k (hx x hm) hk bx B W' (h.later hb)).mono fun e w' ⟨h1, h2⟩ => ⟨h1, hb.trans (h2.mono hb.size)⟩⟩
  have HAT : Aside0 (∀ n, l.length - 0 ≤ n → bs (pF l k) n 0 l.length = atI l k) := ⟨atI_bs l k⟩
  have HFIN : Aside0 ((atF l k).2 = (decide (atI l k < l.length) && decide (cmpP (l.getD (atI l k) (⟨#[]⟩, ⟨#[]⟩)).1 k = 0))) := ⟨rfl⟩
  have HFI1 : Aside0 ((atF l k).1 = atI l k) := ⟨rfl⟩
  obtain ⟨r, hrr⟩ : ∃ r, atF l k = r := ⟨_, rfl⟩
  rw [hrr] at HFIN HFI1 ⊢
  obtain ⟨r1, r2⟩ := r
  simp only at HFIN HFI1 ⊢
  clear hr h hx hrr
  go_enter Try.func69, Try.ntmps69
  go_wp2
  go_loopg [9, 10] l.length (fun kx s9 s10 wr => ∃ lo hi : Nat, s9 = .int .i64 lo ∧ s10 = .int .i64 hi ∧ lo ≤ hi ∧ hi ≤ l.length ∧ hi - lo ≤ kx ∧ Aside0 (Below w.heap.size w wr) ∧ Aside0 (∀ n, hi - lo ≤ n → bs (pF l k) n lo hi = atI l k))
  case atStart => exact ⟨0, l.length, rfl, rfl, Nat.zero_le _, Nat.le_refl _, by omega, ⟨Below.refl _ _⟩, HAT⟩
  case round =>
    obtain ⟨lo, hi, rfl, rfl, hlh, hin, hg, BW, I⟩ := hrel
    by_cases hlt : lo < hi
    · have hm : (lo + hi) / 2 < l.length := by omega
      obtain ⟨ad, hA, q0, q1⟩ := at_F (Kd.C_below HR.out BW.out) hm
      obtain rfl := hA
      have hP := pF_at (k := k) hm
      have hC := HCMP.out wr l[(lo + hi) / 2] (List.getElem_mem hm) BW.out
      obtain ⟨x, hxx⟩ : ∃ x, l[(lo + hi) / 2] = x := ⟨_, rfl⟩
      rw [hxx] at q0 q1 hC hP
      have HPA := Aside0.mk hP
      clear hP hxx
      by_cases hyx : cmpP x.1 k < 0
      · have hup := Aside0.mk (bs_up hlt I.out (HPA.out.trans (decide_eq_true hyx)))
        clear I HPA
        go_wp2_with (go_at_call 70; refine hC.mono ?_; rintro e w' ⟨rfl, hb'⟩)
        go_roundg (hi - ((lo + hi) / 2 + 1))
        case measure => omega
        case rel => exact ⟨(lo + hi) / 2 + 1, hi, by rw [show ((lo : Int) + (hi : Int)) / 2 + 1 = (((lo + hi) / 2 + 1 : Nat) : Int) by omega], rfl, by omega, hin, Nat.le_refl _, ⟨hb'⟩, hup⟩
      · have hdn := Aside0.mk (bs_dn hlt I.out (HPA.out.trans (decide_eq_false hyx)))
        clear I HPA
        go_wp2_with (go_at_call 70; refine hC.mono ?_; rintro e w' ⟨rfl, hb'⟩)
        go_roundg ((lo + hi) / 2 - lo)
        case measure => omega
        case rel => exact ⟨lo, (lo + hi) / 2, rfl, by rw [show ((lo : Int) + (hi : Int)) / 2 = (((lo + hi) / 2 : Nat) : Int) by omega], by omega, by omega, Nat.le_refl _, ⟨hb'⟩, hdn⟩
    · obtain rfl : hi = lo := by omega
      have e0 : atI l k = hi := by
        rw [← I.out 0 (by omega)]; rfl
      have F2 := HFIN.out
      have F1 := HFI1.out
      rw [e0] at F2 F1
      subst F1
      have HF := Aside0.mk F2
      clear F2 I HFIN HFI1 HAT e0
      by_cases hn : r1 < l.length
      · obtain ⟨ad, hA, q0, q1⟩ := at_F (Kd.C_below HR.out BW.out) hn
        obtain rfl := hA
        have hC := HCMP.out wr l[r1] (List.getElem_mem hn) BW.out
        have hgd : l.getD r1 (⟨#[]⟩, ⟨#[]⟩) = l[r1] := by simp [List.getD, List.getElem?_eq_getElem hn]
        have F3 := HF.out
        rw [hgd, decide_eq_true hn, Bool.true_and] at F3
        obtain ⟨x, hxx⟩ : ∃ x, l[r1] = x := ⟨_, rfl⟩
        rw [hxx] at q0 q1 hC F3
        have HF3 := Aside0.mk F3
        clear hxx hgd F3 HF
        by_cases hyx : cmpP x.1 k = 0
        · have HF4 := Aside0.mk (HF3.out.trans (decide_eq_true hyx))
          clear HF3
          go_wp2_with (go_at_call 70; refine hC.mono ?_; rintro e w' ⟨rfl, hb'⟩)
          go_ret2
          exact ⟨by rw [HF4.out]; simp [hyx], hb'⟩
        · have HF4 := Aside0.mk (HF3.out.trans (decide_eq_false hyx))
          clear HF3
          go_wp2_with (go_at_call 70; refine hC.mono ?_; rintro e w' ⟨rfl, hb'⟩)
          go_ret2
          exact ⟨by rw [HF4.out]; simp [hyx], hb'⟩
      · have F3 := HF.out
        rw [decide_eq_false hn, Bool.false_and] at F3
        have HF3 := Aside0.mk F3
        clear F3 HF
        go_wp2
        go_ret2
        exact ⟨by rw [HF3.out]; try simp [hn], BW.out⟩

/-- A list in an order: its files in a row of the call's own. -/
def Sf (w : World) (base B : Nat) (l : List Fl) : Prop := ∃ v, w.heap[B]? = some (.cells #[v, .func (.func 66) #[] #[], .func (.func 47) #[] #[]] 58 (0, 0)) ∧ w.ownsRow base 24 2 v l.length (cellsF l) ∧ base ≤ B
theorem Sf.lt {w : World} {base B : Nat} {l : List Fl} (h : Sf w base B l) : B < w.heap.size := by
  obtain ⟨v, h1, _⟩ := h
  exact block_lt h1
theorem Sf.later {w w1 : World} {base B : Nat} {l : List Fl} (h : Sf w base B l) (hb : Below w.heap.size w w1) : Sf w1 base B l := by
  obtain ⟨v, h1, h2, h3⟩ := h
  exact ⟨v, block_later h1 hb, own_later h2 hb, h3⟩

set_option maxHeartbeats 4000000 in
set_option maxRecDepth 100000 in
theorem at_calls (base B : Nat) (l : List Fl) (k : ByteArray) (hx : ∀ x ∈ l, x.1.size ≤ 1099511627776) (hk : k.size ≤ 1099511627776) (hl : l.length ≤ 4611686018427387000) (w : World) (h : Sf w base B l) :
    Calls Try.prog 44 #[.pointer (some ⟨B, 0, none⟩), .string k] w fun e w' => e = .returned (.tuple #[.int .i64 (atF l k).1, .bool (atF l k).2]) ∧ Below w.heap.size w w' := by
  have b0 : Below w.heap.size w (w.alloc (.cells #[.pointer (some ⟨B, 0, none⟩)] 51)) := (Below.refl _ w).alloc (Nat.le_refl _) _
  have h1 := h.later b0
  obtain ⟨v, hv, ho, hB⟩ := h1
  obtain ⟨A, c, rfl, hlc, hC⟩ := own_C ho
  have hbx : (w.alloc (.cells #[.pointer (some ⟨B, 0, none⟩)] 51)).heap[w.heap.size]? = some (.cells #[.pointer (some ⟨B, 0, none⟩)] 51 (0, 0)) := heap_alloc_new w _
  have HBIN := Aside0.mk (bin_calls l k hx hk w.heap.size B A c _ hC hl ⟨hbx, _, hv⟩)
  have c0 := (box_cell (k := 0) hv rfl).1
  have c1 := (box_cell (k := 0) hbx rfl).1
  have B0 := Aside0.mk b0
  obtain ⟨W, hW⟩ : ∃ W, w.alloc (.cells #[.pointer (some ⟨B, 0, none⟩)] 51) = W := ⟨_, rfl⟩
  have hne : B ≠ w.heap.size := by have := h.lt; omega
  clear h ho hC hbx b0 hx hk
  go_enter Try.func44, Try.ntmps44
  go_upto_region 1 with fail
  rw [hW] at HBIN c0 c1 B0 hv
  try rw [hW]
  clear hv hW
  go_wp2_with fail
  refine HBIN.out.mono ?_
  rintro e w1 ⟨rfl, hb1⟩
  have HB1 := Aside0.mk (B0.out.trans (hb1.mono B0.out.size))
  clear hb1 HBIN
  go_wp2_with fail
  go_ret2
  exact ⟨rfl, HB1.out⟩
end Go.Proofs.Ytmocfgghccmdgaa.TrAt
