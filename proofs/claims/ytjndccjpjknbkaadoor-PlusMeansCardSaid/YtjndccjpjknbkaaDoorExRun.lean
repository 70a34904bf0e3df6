/- expr.Eval and what it calls: the walk. The conditions: the machine's sizes. -/
import Derived.Test.YtjndccjpjknbkaaDoorExSem
import Derived.Deep.RegionHeld3
import Derived.Laws.EntriesVeiled
namespace Go.Proofs.YtjndccjpjknbkaaDoor.ExRun
open Go Go.Proofs Go.RowKit Go.Proofs.YtjndccjpjknbkaaDoorW.PrintWords Go.Proofs.YtjndccjpjknbkaaDoor.BytesLib Go.Proofs.YtjndccjpjknbkaaDoor.ExLib Go.Proofs.YtjndccjpjknbkaaDoor.RowsLib Go.Proofs.YtjndccjpjknbkaaDoor.ExNode Go.Proofs.YtjndccjpjknbkaaDoor.ExTag Go.Proofs.YtjndccjpjknbkaaDoor.ExSem
open Go.Proofs.YtjndccjpjknbkaaDoor.ExCheck (checkF Check_calls)
set_option linter.unusedVariables false
set_option linter.unusedSimpArgs false

/-! ### The closures -/
set_option maxRecDepth 100000 in
theorem not1_calls (a b : Bool) (w : World) : Calls Tryd.prog 60 #[.bool a, .bool b] w fun e w' => e = .returned (.bool (!a)) ∧ w = w' := by
  go_enter Tryd.func60, Tryd.ntmps60
  cases a <;> (go_wp2_with fail; go_ret; exact ⟨rfl, rfl⟩)
set_option maxRecDepth 100000 in
theorem and2_calls (a b : Bool) (w : World) : Calls Tryd.prog 61 #[.bool a, .bool b] w fun e w' => e = .returned (.bool (a && b)) ∧ w = w' := by
  go_enter Tryd.func61, Tryd.ntmps61
  cases a <;> cases b <;> (go_wp2_with fail; go_ret; exact ⟨rfl, rfl⟩)
set_option maxRecDepth 100000 in
theorem or3_calls (a b : Bool) (w : World) : Calls Tryd.prog 62 #[.bool a, .bool b] w fun e w' => e = .returned (.bool (a || b)) ∧ w = w' := by
  go_enter Tryd.func62, Tryd.ntmps62
  cases a <;> cases b <;> (go_wp2_with fail; go_ret; exact ⟨rfl, rfl⟩)

set_option maxRecDepth 100000 in
theorem has_calls (b : Nat) (A : Option Addr) (c : Nat) (tags : List ByteArray) (t : ByteArray) (w : World) (hb : w.cell? ⟨b, 0, none⟩ = some (.slice A tags.length c)) (hC : Kd.C Kd.string w A tags.length tags) :
    Calls Tryd.prog 39 #[.string t, .pointer (some ⟨b, 0, none⟩)] w fun e w' => e = .returned (.bool (Lib.containsS tags t)) ∧ ∃ m, w' = w.drewN m := by
  have H := Aside0.mk (contains_calls (c := c) hC t)
  clear hC
  go_enter Tryd.func39, Tryd.ntmps39
  go_wp2_with fail
  refine H.out.mono ?_
  rintro e w1 ⟨rfl, ⟨m, rfl⟩⟩
  go_wp2_with fail
  go_ret
  exact ⟨rfl, m, rfl⟩

/-! ### A row of truths that is filled -/
def rowB (vs : List Bool) (n : Nat) : Array Value := (vs.map Value.bool ++ List.replicate (n - vs.length) (Value.bool false)).toArray
theorem rowB_at {vs : List Bool} {n j : Nat} (h : j < vs.length) : (rowB vs n)[j]? = some (.bool (vs.getD j false)) := by
  unfold rowB
  rw [List.getElem?_toArray, List.getElem?_append_left (by simpa using h), List.getElem?_map, List.getElem?_eq_getElem h, List.getD_eq_getElem?_getD, List.getElem?_eq_getElem h]
  rfl
theorem rowB_new {vs : List Bool} {n : Nat} (h : vs.length < n) : (rowB vs n)[vs.length]? = some (.bool false) := by
  unfold rowB
  rw [List.getElem?_toArray, List.getElem?_append_right (by simp), List.length_map, Nat.sub_self, List.getElem?_replicate, if_pos (by omega)]
theorem rowB_set {vs : List Bool} {n : Nat} (h : vs.length < n) (x : Bool) : (rowB vs n).setIfInBounds vs.length (.bool x) = rowB (vs ++ [x]) n := by
  unfold rowB
  rw [List.setIfInBounds_toArray]
  congr 1
  obtain ⟨m, hm⟩ : ∃ m, n - vs.length = m + 1 := ⟨n - vs.length - 1, by omega⟩
  have hm2 : n - (vs ++ [x]).length = m := by simp; omega
  rw [hm, hm2, List.replicate_succ, List.map_append, List.set_append_right _ _ (by simp), List.length_map, Nat.sub_self, List.set_cons_zero]
  simp
theorem rowB_made (n : Nat) : madeCells #[Value.bool false] n = rowB [] n := by
  unfold rowB
  rw [← Array.toArray_toList (xs := madeCells #[Value.bool false] n), toList_madeCells_one]
  simp
theorem infoB : (Tryd.prog.info? 4).map (fun i => (i.zero, i.size, i.bytes)) = some (some (.bool false), 1, 1) := by kernel_rfl

/-- plain's value. -/
def logV (f : Value) : Value := .agg #[f, .nilFunc, .func (.func 60) #[] #[], .func (.func 61) #[] #[], .func (.func 62) #[] #[]]
set_option maxRecDepth 100000 in
theorem plain_calls (f : Nat) (cs : Array Value) (w : World) : Calls Tryd.prog 38 #[.func (.func f) #[] cs] w fun e w' => e = .returned (logV (.func (.func f) #[] cs)) ∧ Below w.heap.size w w' := by
  go_enter Tryd.func38, Tryd.ntmps38
  go_wp2_with fail
  refine bodyPost_ret (v := logV (.func (.func f) #[] cs)) (by simp [results, Tryd.results38, go_sem]; rfl) rfl ⟨rfl, ?_⟩
  exact (Below.refl _ w).alloc (Nat.le_refl _) _

/-- The cells of a list's element that came in. -/
theorem node_cells {α : Type} {d : Kd α} (hsz : d.sz = 4) {enc : α → Nd} (hK : ∀ {w x cs}, d.K w x cs → cs = encN (enc x)) {A : Option Addr} {l : List α} {w : World} (h : Kd.C d w A l.length l) {k : Nat} (hk : k < l.length) :
    ∃ ad : Addr, A = some ad ∧ ∃ n : Nd, enc l[k] = n ∧ w.cell? (ad.add (k * 4)) = some (.int .i64 n.kind) ∧ w.cell? ⟨(ad.add (k * 4)).block, (ad.add (k * 4)).off + 1, none⟩ = some (.string n.tag) ∧
      w.cell? ⟨(ad.add (k * 4)).block, (ad.add (k * 4)).off + 2, none⟩ = some (.int .i64 n.a) ∧ w.cell? ⟨(ad.add (k * 4)).block, (ad.add (k * 4)).off + 3, none⟩ = some (.int .i64 n.b) := by
  obtain ⟨ad, cs, rfl, hcl, hk4, hc⟩ := Kd.C_get h (l[k]) (k : Int) (by omega) (by omega)
  rw [hsz] at hcl hc
  have hgd : l.getD (k : Int).toNat l[k] = l[k] := by
    simp [List.getD, List.getElem?_eq_getElem hk]
  rw [hgd] at hk4
  rw [hK hk4] at hc
  simp only [Int.toNat_natCast] at hc
  refine ⟨ad, rfl, enc l[k], rfl, ?_, ?_, ?_, ?_⟩
  · have := hc 0 _ rfl
    simpa using this
  · have h := hc 1 _ rfl
    rw [← RowsLib.add_add] at h
    exact h
  · have h := hc 2 _ rfl
    rw [← RowsLib.add_add] at h
    exact h
  · have h := hc 3 _ rfl
    rw [← RowsLib.add_add] at h
    exact h

theorem box_cell {w : World} {B k : Nat} {cs : Array Value} {T : TypeId} {u : Value} (h : w.heap[B]? = some (.cells cs T (0, 0))) (hk : cs[k]? = some u) : w.cell? ⟨B, k, none⟩ = some u ∧ w.frozen? ⟨B, k, none⟩ = false :=
  ⟨by simp [World.cell?, h]; exact hk, by simp [World.frozen?, h]⟩

theorem far_cell {W : World} {p q : Addr} {v u : Value} (h : W.cell? q = some u) (hne : p ≠ q) : (W.setCell p v).drew.cell? q = some u :=
  (World.cell?_setCell_other W p q v (fun e => hne (by first | exact e | exact e.symm))).trans h
theorem round_end {w W : World} {g : Array Value} {T1 T2 : TypeId} {vs : List Bool} {n k : Nat} (hk : k = vs.length) (hn : k < n) (h0 : W.heap[w.heap.size]? = some (.cells g T1 (0, 0))) (h1 : W.heap[w.heap.size + 1]? = some (.cells (rowB vs n) T2 (0, 0))) (hb : Below w.heap.size w W) (x : Bool) :
    (W.setCell ⟨w.heap.size + 1, k, none⟩ (.bool x)).heap[w.heap.size]? = some (.cells g T1 (0, 0)) ∧ (W.setCell ⟨w.heap.size + 1, k, none⟩ (.bool x)).heap[w.heap.size + 1]? = some (.cells (rowB (vs ++ [x]) n) T2 (0, 0)) ∧ Below w.heap.size w (W.setCell ⟨w.heap.size + 1, k, none⟩ (.bool x)) := by
  subst hk
  refine ⟨(Below.heap_setCell W ⟨w.heap.size + 1, vs.length, none⟩ (.bool x) w.heap.size (by show w.heap.size ≠ w.heap.size + 1; omega)).trans h0, ?_, hb.setCell (p := ⟨w.heap.size + 1, vs.length, none⟩) (by show w.heap.size ≤ w.heap.size + 1; omega) _⟩
  rw [set_heap W (w.heap.size + 1) vs.length _ _ _ h1, rowB_set hn]

set_option maxRecDepth 100000 in
set_option maxHeartbeats 8000000 in
theorem run_calls {α : Type} (d : Kd α) (hsz : d.sz = 4) (enc : α → Nd) (hK : ∀ {w x cs}, d.K w x cs → cs = encN (enc x)) (b : Nat) (tg : ByteArray → Bool) (A : Option Addr) (c : Nat) (l : List α) (w : World) (hr : Kd.C d w A l.length l)
    (hl0 : 0 < l.length) (hl60 : l.length ≤ 60) (href : ∀ (j : Nat) (n : Nd), (l.map enc)[j]? = some n → okRef j n)
    (hT : ∀ (t : ByteArray) (W : World), Below w.heap.size w W → Calls Tryd.prog 39 #[.string t, .pointer (some ⟨b, 0, none⟩)] W fun e w' => e = .returned (.bool (tg t)) ∧ ∃ m, w' = W.drewN m) :
    Calls Tryd.prog 41 #[logV (.func (.func 39) #[] #[.pointer (some ⟨b, 0, none⟩)]), .slice A l.length c] w fun e w' => e = .returned (.bool (runF tg (l.map enc))) ∧ Below w.heap.size w w' := by
  have HR := Aside0.mk hr
  have HREF := Aside0.mk href
  have HT := Aside0.mk hT
  have HNC := Aside0.mk (fun (W : World) (h : Kd.C d W A l.length l) (k : Nat) (hk : k < l.length) => node_cells hsz (fun h => hK h) h hk)
  have hmk := run_make_row' (P := Tryd.prog) 92 4 (.bool false) 1 Tryd.underlying92 infoB rfl .i64 .i64 l.length (by omega) (by omega)
  rw [rowB_made] at hmk
  have hlen := Aside0.mk (vals_len tg (l.map enc) [])
  clear hr href hT hK
  unfold logV
  go_enter Tryd.func41, Tryd.ntmps41
  go_wp2_with fail
  go_loopg [13] l.length (fun gg s13 wr => ∃ (k : Nat) (vs : List Bool), k ≤ l.length ∧ l.length - k ≤ gg ∧ s13 = .int .i64 k ∧ k ≤ vs.length ∧ vs.length ≤ k ∧ Aside0 (vals tg ((l.map enc).drop k) vs = vals tg (l.map enc) []) ∧
    Aside0 (wr.heap[w.heap.size]? = some (.cells #[.func (.func 39) #[] #[.pointer (some ⟨b, 0, none⟩)], .nilFunc, .func (.func 60) #[] #[], .func (.func 61) #[] #[], .func (.func 62) #[] #[]] 65 (0, 0))) ∧
    Aside0 (wr.heap[w.heap.size + 1]? = some (.cells (rowB vs l.length) 4 (0, 0))) ∧ Aside0 (Below w.heap.size w wr))
  case atStart =>
    refine ⟨0, [], Nat.zero_le _, by omega, rfl, Nat.zero_le _, Nat.le_refl _, ⟨rfl⟩, ⟨?_⟩, ⟨?_⟩, ⟨((Below.refl _ w).alloc (Nat.le_refl _) _).alloc (by simp) _⟩⟩
    · rw [Below.heap_alloc _ _ _ (by simp)]; exact heap_alloc_new w _
    · have h := heap_alloc_new (w.alloc (.cells #[.func (.func 39) #[] #[.pointer (some ⟨b, 0, none⟩)], .nilFunc, .func (.func 60) #[] #[], .func (.func 61) #[] #[], .func (.func 62) #[] #[]] 65)) (.cells (rowB [] l.length) 4)
      rw [show (w.alloc (.cells #[.func (.func 39) #[] #[.pointer (some ⟨b, 0, none⟩)], .nilFunc, .func (.func 60) #[] #[], .func (.func 61) #[] #[], .func (.func 62) #[] #[]] 65)).heap.size = w.heap.size + 1 from by simp] at h
      exact h
  case round =>
    obtain ⟨k, vs, hk, hg, rfl, hv1, hv2, HV, HG, HB, BW⟩ := hrel
    by_cases hlt : k < l.length
    · obtain ⟨ad, rfl, n, hn, q0, q1, q2, q3⟩ := HNC.out wr (Kd.C_below HR.out BW.out) k hlt
      obtain ⟨h0, h3, ha0, hb0, hab, hz⟩ := HREF.out k n (by rw [List.getElem?_map, List.getElem?_eq_getElem hlt, ← hn]; rfl)
      have hvn : vals tg ((l.map enc).drop (k + 1)) (vs ++ [val tg n vs]) = vals tg (l.map enc) [] := by
        have h := HV.out
        rw [List.drop_eq_getElem_cons (by simpa using hlt), vals] at h
        rw [← hn]
        simpa using h
      have HVN := Aside0.mk hvn
      have hlt' : (k : Int) < (l.length : Int) := by omega
      have hkk := Aside0.mk (show k = vs.length from by omega)
      have hsw := BW.out.size
      clear hvn hn HV HREF HNC hlen
      have hbz : w.heap.size + 1 < wr.heap.size := (Array.getElem?_eq_some_iff.1 HB.out).1
      by_cases e0 : n.kind = 0
      · have d4 : (n.kind == 0) = true := by rw [e0]; rfl
        have HVAL := Aside0.mk (show val tg n vs = tg n.tag from by unfold val; rw [if_pos e0])
        clear e0 hz hab
        go_upto_region 6 with fail
        obtain ⟨W, hW⟩ : ∃ W, wr.alloc (.cells #[.int .i64 n.kind, .string n.tag, .int .i64 n.a, .int .i64 n.b] 52) = W := ⟨_, rfl⟩
        have b1 : W.cell? ⟨wr.heap.size, 1, none⟩ = some (.string n.tag) := by rw [← hW]; simp [go_sem]
        have HG1 : Aside0 (W.heap[w.heap.size]? = some (.cells #[.func (.func 39) #[] #[.pointer (some ⟨b, 0, none⟩)], .nilFunc, .func (.func 60) #[] #[], .func (.func 61) #[] #[], .func (.func 62) #[] #[]] 65 (0, 0))) := by rw [← hW]; exact ⟨(Below.heap_alloc _ _ _ (by omega)).trans HG.out⟩
        have HB1 : Aside0 (W.heap[w.heap.size + 1]? = some (.cells (rowB vs l.length) 4 (0, 0))) := by rw [← hW]; exact ⟨(Below.heap_alloc _ _ _ (by omega)).trans HB.out⟩
        have BW1 : Aside0 (Below w.heap.size w W) := by rw [← hW]; exact ⟨BW.out.alloc hsw _⟩
        rw [hW]
        clear hW q0 q1 q2 q3 HG HB BW
        have g0 := (box_cell HG1.out (k := 0) rfl).1
        have HTC := Aside0.mk (HT.out n.tag W BW1.out)
        go_wp2_with fail
        refine HTC.out.mono ?_
        rintro e w1 ⟨rfl, m, hw1⟩
        have HG2 : Aside0 (w1.heap[w.heap.size]? = some (.cells #[.func (.func 39) #[] #[.pointer (some ⟨b, 0, none⟩)], .nilFunc, .func (.func 60) #[] #[], .func (.func 61) #[] #[], .func (.func 62) #[] #[]] 65 (0, 0))) := by rw [hw1]; exact HG1
        have HB2 : Aside0 (w1.heap[w.heap.size + 1]? = some (.cells (rowB vs l.length) 4 (0, 0))) := by rw [hw1]; exact HB1
        have BW2 : Aside0 (Below w.heap.size w w1) := by rw [hw1]; exact ⟨pw_below_drewN BW1.out m⟩
        obtain ⟨z0, z1⟩ := box_cell HB2.out (k := k) (by rw [hkk.out]; exact rowB_new (by omega))
        clear hw1 HTC HG1 HB1 BW1 g0 b1
        go_wp2_with fail
        obtain ⟨r0, r1, r2⟩ := round_end hkk.out hlt HG2.out HB2.out BW2.out (tg n.tag)
        go_roundg (l.length - (k + 1))
        case measure => omega
        case rel => exact ⟨k + 1, vs ++ [tg n.tag], by omega, Nat.le_refl _, by go_num, by simp; omega, by simp; omega, ⟨by rw [← HVAL.out]; exact HVN.out⟩, ⟨r0⟩, ⟨r1⟩, ⟨r2⟩⟩
      · have d4 : (n.kind == 0) = false := by rw [beq_eq_false_iff_ne]; exact e0
        obtain ⟨kd, tn, na, nb⟩ := n
        simp only at q0 q1 q2 q3 h0 h3 ha0 hb0 hab hz HVN d4 e0
        obtain ⟨an, rfl⟩ := Int.eq_ofNat_of_zero_le ha0
        obtain ⟨bn, rfl⟩ := Int.eq_ofNat_of_zero_le hb0
        obtain ⟨hak, hbk⟩ := hab (by omega)
        clear hz hab ha0 hb0
        have hanl : (an : Int) < (l.length : Int) := by omega
        have hbnl : (bn : Int) < (l.length : Int) := by omega
        have hk3 : kd = 1 ∨ kd = 2 ∨ kd = 3 := by omega
        clear e0 h0 h3
        rcases hk3 with rfl | rfl | rfl
        · have HVAL := Aside0.mk (show val tg ⟨1, tn, (an : Int), (bn : Int)⟩ vs = (!(vs.getD an false)) from rfl)
          go_upto_region 7 with fail
          obtain ⟨W, hW⟩ : ∃ W, wr.alloc (.cells #[.int .i64 1, .string tn, .int .i64 an, .int .i64 bn] 52) = W := ⟨_, rfl⟩
          have b0 : W.cell? ⟨wr.heap.size, 0, none⟩ = some (.int .i64 1) := by rw [← hW]; simp [go_sem]
          have b2 : W.cell? ⟨wr.heap.size, 2, none⟩ = some (.int .i64 an) := by rw [← hW]; simp [go_sem]
          have b3 : W.cell? ⟨wr.heap.size, 3, none⟩ = some (.int .i64 bn) := by rw [← hW]; simp [go_sem]
          have HG1 : Aside0 (W.heap[w.heap.size]? = some (.cells #[.func (.func 39) #[] #[.pointer (some ⟨b, 0, none⟩)], .nilFunc, .func (.func 60) #[] #[], .func (.func 61) #[] #[], .func (.func 62) #[] #[]] 65 (0, 0))) := by rw [← hW]; exact ⟨(Below.heap_alloc _ _ _ (by omega)).trans HG.out⟩
          have HB1 : Aside0 (W.heap[w.heap.size + 1]? = some (.cells (rowB vs l.length) 4 (0, 0))) := by rw [← hW]; exact ⟨(Below.heap_alloc _ _ _ (by omega)).trans HB.out⟩
          have BW1 : Aside0 (Below w.heap.size w W) := by rw [← hW]; exact ⟨BW.out.alloc hsw _⟩
          rw [hW]
          clear hW q0 q1 q2 q3 HG HB BW
          have g0 := (box_cell HG1.out (k := 2) rfl).1
          have va := (box_cell HB1.out (k := an) (rowB_at (by omega))).1
          have vb := (box_cell HB1.out (k := bn) (rowB_at (by omega))).1
          obtain ⟨z0, z1⟩ := box_cell HB1.out (k := k) (by rw [hkk.out]; exact rowB_new (by omega))
          obtain ⟨xa, hxa⟩ : ∃ x, vs.getD an false = x := ⟨_, rfl⟩
          obtain ⟨xb, hxb⟩ : ∃ x, vs.getD bn false = x := ⟨_, rfl⟩
          rw [hxa] at va HVAL
          rw [hxb] at vb
          clear hxa hxb
          have hk0 : (0 : Int) ≤ (k : Int) := by omega
          have ha0 : (0 : Int) ≤ (an : Int) := by omega
          have hb0 : (0 : Int) ≤ (bn : Int) := by omega
          go_region_held3 (fun w' => w'.cell? ⟨wr.heap.size, 0, none⟩ = some (.int .i64 1) ∧ w'.cell? ⟨wr.heap.size, 2, none⟩ = some (.int .i64 an) ∧ w'.cell? ⟨wr.heap.size, 3, none⟩ = some (.int .i64 bn) ∧
              w'.cell? ⟨w.heap.size, 2, none⟩ = some (.func (.func 60) #[] #[]) ∧ w'.cell? ⟨w.heap.size + 1, an, none⟩ = some (.bool xa) ∧ w'.cell? ⟨w.heap.size + 1, bn, none⟩ = some (.bool xb))
            (first
              | exact ⟨b0, b2, b3, g0, va, vb⟩
              | exact ⟨far_cell b0 (by intro e; injection e; omega), far_cell b2 (by intro e; injection e; omega), far_cell b3 (by intro e; injection e; omega), far_cell g0 (by intro e; injection e; omega), far_cell va (by intro e; injection e; omega), far_cell vb (by intro e; injection e; omega)⟩
              | go_keep)
            (first
              | (go_at_call 60; refine (not1_calls xa xb _).mono ?_; rintro e w' ⟨rfl, rfl⟩))
          go_wp2_with fail
          obtain ⟨r0, r1, r2⟩ := round_end hkk.out hlt HG1.out HB1.out BW1.out (!xa)
          go_roundg (l.length - (k + 1))
          case measure => omega
          case rel => exact ⟨k + 1, vs ++ [(!xa)], by omega, Nat.le_refl _, by go_num, by simp; omega, by simp; omega, ⟨by rw [← HVAL.out]; exact HVN.out⟩, ⟨r0⟩, ⟨r1⟩, ⟨r2.drew⟩⟩
        · have HVAL := Aside0.mk (show val tg ⟨2, tn, (an : Int), (bn : Int)⟩ vs = (vs.getD an false && vs.getD bn false) from rfl)
          go_upto_region 7 with fail
          obtain ⟨W, hW⟩ : ∃ W, wr.alloc (.cells #[.int .i64 2, .string tn, .int .i64 an, .int .i64 bn] 52) = W := ⟨_, rfl⟩
          have b0 : W.cell? ⟨wr.heap.size, 0, none⟩ = some (.int .i64 2) := by rw [← hW]; simp [go_sem]
          have b2 : W.cell? ⟨wr.heap.size, 2, none⟩ = some (.int .i64 an) := by rw [← hW]; simp [go_sem]
          have b3 : W.cell? ⟨wr.heap.size, 3, none⟩ = some (.int .i64 bn) := by rw [← hW]; simp [go_sem]
          have HG1 : Aside0 (W.heap[w.heap.size]? = some (.cells #[.func (.func 39) #[] #[.pointer (some ⟨b, 0, none⟩)], .nilFunc, .func (.func 60) #[] #[], .func (.func 61) #[] #[], .func (.func 62) #[] #[]] 65 (0, 0))) := by rw [← hW]; exact ⟨(Below.heap_alloc _ _ _ (by omega)).trans HG.out⟩
          have HB1 : Aside0 (W.heap[w.heap.size + 1]? = some (.cells (rowB vs l.length) 4 (0, 0))) := by rw [← hW]; exact ⟨(Below.heap_alloc _ _ _ (by omega)).trans HB.out⟩
          have BW1 : Aside0 (Below w.heap.size w W) := by rw [← hW]; exact ⟨BW.out.alloc hsw _⟩
          rw [hW]
          clear hW q0 q1 q2 q3 HG HB BW
          have g0 := (box_cell HG1.out (k := 3) rfl).1
          have va := (box_cell HB1.out (k := an) (rowB_at (by omega))).1
          have vb := (box_cell HB1.out (k := bn) (rowB_at (by omega))).1
          obtain ⟨z0, z1⟩ := box_cell HB1.out (k := k) (by rw [hkk.out]; exact rowB_new (by omega))
          obtain ⟨xa, hxa⟩ : ∃ x, vs.getD an false = x := ⟨_, rfl⟩
          obtain ⟨xb, hxb⟩ : ∃ x, vs.getD bn false = x := ⟨_, rfl⟩
          rw [hxa] at va HVAL
          rw [hxb] at vb HVAL
          clear hxa hxb
          have hk0 : (0 : Int) ≤ (k : Int) := by omega
          have ha0 : (0 : Int) ≤ (an : Int) := by omega
          have hb0 : (0 : Int) ≤ (bn : Int) := by omega
          go_region_held3 (fun w' => w'.cell? ⟨wr.heap.size, 0, none⟩ = some (.int .i64 2) ∧ w'.cell? ⟨wr.heap.size, 2, none⟩ = some (.int .i64 an) ∧ w'.cell? ⟨wr.heap.size, 3, none⟩ = some (.int .i64 bn) ∧
              w'.cell? ⟨w.heap.size, 3, none⟩ = some (.func (.func 61) #[] #[]) ∧ w'.cell? ⟨w.heap.size + 1, an, none⟩ = some (.bool xa) ∧ w'.cell? ⟨w.heap.size + 1, bn, none⟩ = some (.bool xb))
            (first
              | exact ⟨b0, b2, b3, g0, va, vb⟩
              | exact ⟨far_cell b0 (by intro e; injection e; omega), far_cell b2 (by intro e; injection e; omega), far_cell b3 (by intro e; injection e; omega), far_cell g0 (by intro e; injection e; omega), far_cell va (by intro e; injection e; omega), far_cell vb (by intro e; injection e; omega)⟩
              | go_keep)
            (first
              | (go_at_call 61; refine (and2_calls xa xb _).mono ?_; rintro e w' ⟨rfl, rfl⟩))
          go_wp2_with fail
          obtain ⟨r0, r1, r2⟩ := round_end hkk.out hlt HG1.out HB1.out BW1.out (xa && xb)
          go_roundg (l.length - (k + 1))
          case measure => omega
          case rel => exact ⟨k + 1, vs ++ [(xa && xb)], by omega, Nat.le_refl _, by go_num, by simp; omega, by simp; omega, ⟨by rw [← HVAL.out]; exact HVN.out⟩, ⟨r0⟩, ⟨r1⟩, ⟨r2.drew⟩⟩
        · have HVAL := Aside0.mk (show val tg ⟨3, tn, (an : Int), (bn : Int)⟩ vs = (vs.getD an false || vs.getD bn false) from rfl)
          go_upto_region 7 with fail
          obtain ⟨W, hW⟩ : ∃ W, wr.alloc (.cells #[.int .i64 3, .string tn, .int .i64 an, .int .i64 bn] 52) = W := ⟨_, rfl⟩
          have b0 : W.cell? ⟨wr.heap.size, 0, none⟩ = some (.int .i64 3) := by rw [← hW]; simp [go_sem]
          have b2 : W.cell? ⟨wr.heap.size, 2, none⟩ = some (.int .i64 an) := by rw [← hW]; simp [go_sem]
          have b3 : W.cell? ⟨wr.heap.size, 3, none⟩ = some (.int .i64 bn) := by rw [← hW]; simp [go_sem]
          have HG1 : Aside0 (W.heap[w.heap.size]? = some (.cells #[.func (.func 39) #[] #[.pointer (some ⟨b, 0, none⟩)], .nilFunc, .func (.func 60) #[] #[], .func (.func 61) #[] #[], .func (.func 62) #[] #[]] 65 (0, 0))) := by rw [← hW]; exact ⟨(Below.heap_alloc _ _ _ (by omega)).trans HG.out⟩
          have HB1 : Aside0 (W.heap[w.heap.size + 1]? = some (.cells (rowB vs l.length) 4 (0, 0))) := by rw [← hW]; exact ⟨(Below.heap_alloc _ _ _ (by omega)).trans HB.out⟩
          have BW1 : Aside0 (Below w.heap.size w W) := by rw [← hW]; exact ⟨BW.out.alloc hsw _⟩
          rw [hW]
          clear hW q0 q1 q2 q3 HG HB BW
          have g0 := (box_cell HG1.out (k := 4) rfl).1
          have va := (box_cell HB1.out (k := an) (rowB_at (by omega))).1
          have vb := (box_cell HB1.out (k := bn) (rowB_at (by omega))).1
          obtain ⟨z0, z1⟩ := box_cell HB1.out (k := k) (by rw [hkk.out]; exact rowB_new (by omega))
          obtain ⟨xa, hxa⟩ : ∃ x, vs.getD an false = x := ⟨_, rfl⟩
          obtain ⟨xb, hxb⟩ : ∃ x, vs.getD bn false = x := ⟨_, rfl⟩
          rw [hxa] at va HVAL
          rw [hxb] at vb HVAL
          clear hxa hxb
          have hk0 : (0 : Int) ≤ (k : Int) := by omega
          have ha0 : (0 : Int) ≤ (an : Int) := by omega
          have hb0 : (0 : Int) ≤ (bn : Int) := by omega
          go_region_held3 (fun w' => w'.cell? ⟨wr.heap.size, 0, none⟩ = some (.int .i64 3) ∧ w'.cell? ⟨wr.heap.size, 2, none⟩ = some (.int .i64 an) ∧ w'.cell? ⟨wr.heap.size, 3, none⟩ = some (.int .i64 bn) ∧
              w'.cell? ⟨w.heap.size, 4, none⟩ = some (.func (.func 62) #[] #[]) ∧ w'.cell? ⟨w.heap.size + 1, an, none⟩ = some (.bool xa) ∧ w'.cell? ⟨w.heap.size + 1, bn, none⟩ = some (.bool xb))
            (first
              | exact ⟨b0, b2, b3, g0, va, vb⟩
              | exact ⟨far_cell b0 (by intro e; injection e; omega), far_cell b2 (by intro e; injection e; omega), far_cell b3 (by intro e; injection e; omega), far_cell g0 (by intro e; injection e; omega), far_cell va (by intro e; injection e; omega), far_cell vb (by intro e; injection e; omega)⟩
              | go_keep)
            (first
              | (go_at_call 62; refine (or3_calls xa xb _).mono ?_; rintro e w' ⟨rfl, rfl⟩))
          go_wp2_with fail
          obtain ⟨r0, r1, r2⟩ := round_end hkk.out hlt HG1.out HB1.out BW1.out (xa || xb)
          go_roundg (l.length - (k + 1))
          case measure => omega
          case rel => exact ⟨k + 1, vs ++ [(xa || xb)], by omega, Nat.le_refl _, by go_num, by simp; omega, by simp; omega, ⟨by rw [← HVAL.out]; exact HVN.out⟩, ⟨r0⟩, ⟨r1⟩, ⟨r2.drew⟩⟩
    · have ek : k = l.length := by omega
      have hlt' : ¬ ((k : Int) < (l.length : Int)) := by omega
      subst ek
      have hv := HV.out
      rw [List.drop_of_length_le (by simp)] at hv
      have hv2 : vs = vals tg (l.map enc) [] := by rw [← hv]; rfl
      have hlast := (box_cell HB.out (k := l.length - 1) (rowB_at (by omega))).1
      have hrun : vs.getD (l.length - 1) false = runF tg (l.map enc) := by unfold runF; rw [← hv2, List.length_map]
      rw [hrun] at hlast
      have e1 : (l.length : Int) - 1 = ((l.length - 1 : Nat) : Int) := by omega
      have hlc : (l.length : Int) - 1 < (l.length : Int) := by omega
      have hl1 : 0 ≤ (l.length : Int) - 1 := by omega
      have hidx : ((l.length : Int) - 1).toNat = l.length - 1 := by omega
      clear hv hv2 HV hrun e1 HNC HREF HR hlen HT HG HB
      go_wp2_with fail
      go_ret
      exact ⟨rfl, BW.out⟩

/-! ### Eval -/
set_option maxRecDepth 100000 in
set_option maxHeartbeats 4000000 in
theorem Eval_calls {α : Type} (d : Kd α) (hsz : d.sz = 4) (enc : α → Nd) (hK : ∀ {w x cs}, d.K w x cs → cs = encN (enc x)) (A T : Option Addr) (c ct : Nat) (l : List α) (tags : List ByteArray) (w : World) (hr : Kd.C d w A l.length l) (ht : Kd.C Kd.string w T tags.length tags)
    (htag : ∀ x ∈ l, (enc x).tag.size ≤ 4611686018427387904) :
    Calls Tryd.prog 17 #[.slice A l.length c, .slice T tags.length ct] w fun e w' => e = .returned (.bool (evalF (l.map enc) tags)) ∧ Below w.heap.size w w' := by
  obtain ⟨W, hW⟩ : ∃ W, w.alloc (.cells #[.slice T tags.length ct] 23) = W := ⟨_, rfl⟩
  have hb0 : Below w.heap.size w W := by rw [← hW]; exact (Below.refl _ w).alloc (Nat.le_refl _) _
  have hsz1 : w.heap.size < W.heap.size := by rw [← hW]; simp
  have hcell : W.cell? ⟨w.heap.size, 0, none⟩ = some (.slice T tags.length ct) := by rw [← hW]; simp [go_sem]
  have HCK := Aside0.mk (Check_calls d hsz enc (fun h => hK h) A c l W (Kd.C_below hr hb0) htag)
  have hrun : checkF (l.map enc) = 0 → ∀ W1, Below W.heap.size W W1 → Calls Tryd.prog 41 #[logV (.func (.func 39) #[] #[.pointer (some ⟨w.heap.size, 0, none⟩)]), .slice A l.length c] W1 fun e w' => e = .returned (.bool (runF (fun t => Lib.containsS tags t) (l.map enc))) ∧ Below W1.heap.size W1 w' := by
    intro h W1 hb1
    obtain ⟨h1, h2, h3⟩ := check_ref h
    rw [List.length_map] at h1 h2
    refine run_calls d hsz enc (fun h => hK h) w.heap.size (fun t => Lib.containsS tags t) A c l W1 (Kd.C_below (Kd.C_below hr hb0) hb1) h1 h2 h3 (fun t W2 hb2 => ?_)
    have hb3 : Below W.heap.size W W2 := hb1.trans (hb2.mono hb1.size)
    exact has_calls w.heap.size T ct tags t W2 ((hb3.cell (p := ⟨w.heap.size, 0, none⟩) (by exact hsz1)).trans hcell) (Kd.C_below (Kd.C_below ht hb0) hb3)
  have HRUN := Aside0.mk hrun
  have HB0 := Aside0.mk hb0
  clear hr ht htag hK hrun hb0 hcell
  go_enter Tryd.func17, Tryd.ntmps17
  go_wp2_with fail
  refine HCK.out.mono ?_
  rintro e w1 ⟨rfl, hb1⟩
  have HB1 := Aside0.mk hb1
  have hsw : w.heap.size ≤ W.heap.size := by omega
  by_cases hc : checkF (l.map enc) = 0
  · have HR := Aside0.mk (HRUN.out hc)
    have hce : (checkF (l.map enc) == 0) = true := by rw [hc]; rfl
    have HEV := Aside0.mk (show evalF (l.map enc) tags = runF (fun t => Lib.containsS tags t) (l.map enc) from by unfold evalF; rw [decide_eq_true hc]; rfl)
    have HP := Aside0.mk (fun W => plain_calls 39 #[.pointer (some ⟨w.heap.size, 0, none⟩)] W)
    clear hc hb1 hW HRUN HCK
    go_wp2_with fail
    refine (HP.out _).mono ?_
    rintro e w2 ⟨rfl, hb2⟩
    have HB2 := Aside0.mk (HB1.out.trans (hb2.mono HB1.out.size))
    have HR2 := Aside0.mk (HR.out w2 HB2.out)
    clear hb2 HP HR HB1
    unfold logV at *
    go_wp2_with fail
    refine HR2.out.mono ?_
    rintro e w3 ⟨rfl, hb3⟩
    have HB3 := Aside0.mk (HB0.out.trans ((HB2.out.trans (hb3.mono HB2.out.size)).mono hsw))
    clear hb3 HR2
    obtain ⟨q, hq⟩ : ∃ q, runF (fun t => Lib.containsS tags t) (l.map enc) = q := ⟨_, rfl⟩
    rw [hq] at HEV ⊢
    clear hq
    go_wp2_with fail
    go_ret
    rw [HEV.out]
    exact ⟨rfl, HB3.out⟩
  · have hce : (checkF (l.map enc) == 0) = false := by rw [beq_eq_false_iff_ne]; exact hc
    have HEV := Aside0.mk (show evalF (l.map enc) tags = false from by unfold evalF; rw [decide_eq_false hc]; rfl)
    have HB3 := Aside0.mk (HB0.out.trans (hb1.mono hsw))
    clear hc hb1 hW HRUN HCK
    go_wp2_with fail
    go_ret
    rw [HEV.out]
    exact ⟨rfl, HB3.out⟩
end Go.Proofs.YtjndccjpjknbkaaDoor.ExRun
