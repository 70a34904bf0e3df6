/- expr.Any: the walk. The conditions: the machine's sizes. -/
import Derived.Test.YtjndccjpjknbkaaDoorExRun
namespace Go.Proofs.YtjndccjpjknbkaaDoor.ExAny
open Go Go.Proofs Go.RowKit Go.Proofs.YtjndccjpjknbkaaDoorW.PrintWords Go.Proofs.YtjndccjpjknbkaaDoor.BytesLib Go.Proofs.YtjndccjpjknbkaaDoor.ExLib Go.Proofs.YtjndccjpjknbkaaDoor.RowsLib Go.Proofs.YtjndccjpjknbkaaDoor.ExNode Go.Proofs.YtjndccjpjknbkaaDoor.ExTag Go.Proofs.YtjndccjpjknbkaaDoor.ExSem Go.Proofs.YtjndccjpjknbkaaDoor.ExRun
open Go.Proofs.YtjndccjpjknbkaaDoor.ExCheck (checkF Check_calls)
set_option linter.unusedVariables false
set_option linter.unusedSimpArgs false

def cellsP (vs : List (Bool × Bool)) : List Value := vs.flatMap fun p => [Value.bool p.1, Value.bool p.2]
theorem cellsP_cons (p : Bool × Bool) (vs : List (Bool × Bool)) : cellsP (p :: vs) = Value.bool p.1 :: Value.bool p.2 :: cellsP vs := by simp [cellsP]
theorem cellsP_app (a b : List (Bool × Bool)) : cellsP (a ++ b) = cellsP a ++ cellsP b := by simp [cellsP, List.flatMap_append]
theorem cellsP_len : ∀ vs, (cellsP vs).length = vs.length * 2
  | [] => rfl
  | p :: vs => by rw [cellsP_cons, List.length_cons, List.length_cons, cellsP_len vs, List.length_cons]; omega
theorem cellsP_at : ∀ (vs : List (Bool × Bool)) (j : Nat), j < vs.length → (cellsP vs)[j * 2]? = some (Value.bool (vs.getD j (false, false)).1) ∧ (cellsP vs)[j * 2 + 1]? = some (Value.bool (vs.getD j (false, false)).2)
  | [], j, h => absurd h (Nat.not_lt_zero _)
  | p :: vs, 0, h => ⟨by rw [cellsP_cons]; rfl, by rw [cellsP_cons]; rfl⟩
  | p :: vs, j + 1, h => by
    obtain ⟨h1, h2⟩ := cellsP_at vs j (by simpa using h)
    rw [cellsP_cons, show (j + 1) * 2 = j * 2 + 1 + 1 from by omega]
    refine ⟨?_, ?_⟩
    · rw [List.getElem?_cons_succ, List.getElem?_cons_succ, h1]; rfl
    · rw [List.getElem?_cons_succ, List.getElem?_cons_succ, h2]; rfl
def rowP (vs : List (Bool × Bool)) (n : Nat) : Array Value := (cellsP vs ++ List.replicate ((n - vs.length) * 2) (Value.bool false)).toArray
theorem rowP_at {vs : List (Bool × Bool)} {n j : Nat} (h : j < vs.length) : (rowP vs n)[j * 2]? = some (Value.bool (vs.getD j (false, false)).1) ∧ (rowP vs n)[j * 2 + 1]? = some (Value.bool (vs.getD j (false, false)).2) := by
  unfold rowP
  have hl := cellsP_len vs
  obtain ⟨h1, h2⟩ := cellsP_at vs j h
  rw [List.getElem?_toArray, List.getElem?_toArray, List.getElem?_append_left (by omega), List.getElem?_append_left (by omega)]
  exact ⟨h1, h2⟩
theorem rowP_new {vs : List (Bool × Bool)} {n k : Nat} (hk : k = vs.length) (h : k < n) : (rowP vs n)[k * 2]? = some (Value.bool false) ∧ (rowP vs n)[k * 2 + 1]? = some (Value.bool false) := by
  unfold rowP
  have hl := cellsP_len vs
  rw [List.getElem?_toArray, List.getElem?_toArray, List.getElem?_append_right (by omega), List.getElem?_append_right (by omega), List.getElem?_replicate, List.getElem?_replicate, if_pos (by omega), if_pos (by omega)]
  exact ⟨rfl, rfl⟩
theorem rowP_any {vs : List (Bool × Bool)} {n j : Nat} (hv : vs.length ≤ n) (h : j < n) : (rowP vs n)[j * 2]? = some (Value.bool (vs.getD j (false, false)).1) ∧ (rowP vs n)[j * 2 + 1]? = some (Value.bool (vs.getD j (false, false)).2) := by
  by_cases hj : j < vs.length
  · exact rowP_at hj
  · have hd : vs.getD j (false, false) = (false, false) := by rw [List.getD_eq_getElem?_getD, List.getElem?_eq_none (by omega)]; rfl
    rw [hd]
    unfold rowP
    have hl := cellsP_len vs
    rw [List.getElem?_toArray, List.getElem?_toArray, List.getElem?_append_right (by omega), List.getElem?_append_right (by omega), List.getElem?_replicate, List.getElem?_replicate, if_pos (by omega), if_pos (by omega)]
    exact ⟨rfl, rfl⟩
theorem rowP_set {vs : List (Bool × Bool)} {n k : Nat} (hk : k = vs.length) (h : k < n) (x y : Bool) : ((rowP vs n).setIfInBounds (k * 2) (.bool x)).setIfInBounds (k * 2 + 1) (.bool y) = rowP (vs ++ [(x, y)]) n := by
  unfold rowP
  have hl := cellsP_len vs
  rw [List.setIfInBounds_toArray, List.setIfInBounds_toArray]
  congr 1
  obtain ⟨m, hm⟩ : ∃ m, n - vs.length = m + 1 := ⟨n - vs.length - 1, by omega⟩
  have hm2 : n - (vs ++ [(x, y)]).length = m := by simp; omega
  rw [hm, hm2, show (m + 1) * 2 = m * 2 + 1 + 1 from by omega, List.replicate_succ, List.replicate_succ, cellsP_app]
  rw [List.set_append_right _ _ (by omega), List.set_append_right _ _ (by omega), show k * 2 - (cellsP vs).length = 0 from by omega, show k * 2 + 1 - (cellsP vs).length = 1 from by omega]
  simp [cellsP]
theorem rowP_made (n : Nat) : madeCells #[Value.bool false, Value.bool false] (n * 2) = rowP [] n := by
  apply Array.ext'
  unfold rowP
  apply List.ext_getElem?
  intro i
  simp only [madeCells, cellsP, List.flatMap_nil, List.nil_append, List.length_nil, Nat.sub_zero, List.getElem?_replicate]
  rw [Array.toList_map, List.getElem?_map, Array.toList_range]
  by_cases h : i < n * 2
  · rw [if_pos h, List.getElem?_range h]
    have : i % 2 = 0 ∨ i % 2 = 1 := by omega
    rcases this with h1 | h1 <;> simp [h1]
  · rw [if_neg h, List.getElem?_eq_none (by simpa using h)]
    rfl
theorem infoP : (Tryd.prog.info? 69).map (fun i => (i.zero, i.size, i.bytes)) = some (some (.agg #[.bool false, .bool false]), 2, 2) := by kernel_rfl
theorem made_P (n : Nat) (hn : n ≤ 65536) (w : World) : (Instr.makeSlice 67 (.int .i64 (n : Int)) (.int .i64 (n : Int))).run Tryd.prog w = .ok (.slice (some ⟨w.heap.size, 0, none⟩) n n) (w.alloc (.cells (rowP [] n) 69)) := by
  obtain ⟨i, hi, hz, hs, hb⟩ := info_parts infoP
  have h := run_make (P := Tryd.prog) w 67 69 i (.agg #[.bool false, .bool false]) Tryd.underlying67 hi hz .i64 .i64 (n : Int) (n : Int) (by omega) (Int.le_refl _) (by rw [hb]; omega) (by omega)
  rw [hs] at h
  simp only [Int.toNat_natCast] at h
  rw [← rowP_made]
  exact h

def pick (k : Int) (a b c d : Bool) : Bool := if k = 0 then a else if k = 1 then b else if k = 2 then c else d
theorem ixk (k : Int) (h0 : 0 ≤ k) (h3 : k ≤ 3) (v0 v1 v2 v3 v4 v5 v6 v7 : Bool) (w : World) : (Instr.index 70 (.agg #[.bool v0, .bool v1, .bool v2, .bool v3, .bool v4, .bool v5, .bool v6, .bool v7]) (.int .i64 k)).run Tryd.prog w = .ok (.agg #[.bool (pick k v0 v2 v4 v6), .bool (pick k v1 v3 v5 v7)]) w := by
  have hk : k = 0 ∨ k = 1 ∨ k = 2 ∨ k = 3 := by omega
  rcases hk with rfl | rfl | rfl | rfl <;> (show _ = Result.ok _ _; kernel_rfl)
theorem ig_eq (t : ByteArray) : decide (t ≠ ⟨#[105, 103, 110, 111, 114, 101]⟩) = !(t.toList == [105, 103, 110, 111, 114, 101]) := by
  by_cases h : t = ⟨#[105, 103, 110, 111, 114, 101]⟩
  · subst h; rw [decide_eq_false (fun h => h rfl), toList_L]; rfl
  · rw [decide_eq_true h]
    have : (t.toList == [105, 103, 110, 111, 114, 101]) = false := by
      rw [beq_eq_false_iff_ne]
      intro e
      refine h (L_inj ?_)
      rw [← toList_L, e]; rfl
    rw [this]; rfl
theorem al1 {W : World} {p : Addr} {u : Value} (h : W.cell? p = some u) (o : Obj) : (W.alloc o).cell? p = some u := (World.cell?_alloc_lt W o p (World.block_lt_of_cell? W p h)).trans h
theorem al2 {W : World} {p : Addr} {u : Value} (h : W.cell? p = some u) (o o' : Obj) : ((W.alloc o).alloc o').cell? p = some u := al1 (al1 h o) o'
theorem round_endP {w W : World} {T : TypeId} {vs : List (Bool × Bool)} {n k : Nat} (hk : k = vs.length) (hn : k < n) (h1 : W.heap[w.heap.size]? = some (.cells (rowP vs n) T (0, 0))) (hb : Below w.heap.size w W) (x y : Bool) :
    ((W.setCell ⟨w.heap.size, k * 2, none⟩ (.bool x)).setCell ⟨w.heap.size, k * 2 + 1, none⟩ (.bool y)).heap[w.heap.size]? = some (.cells (rowP (vs ++ [(x, y)]) n) T (0, 0)) ∧ Below w.heap.size w ((W.setCell ⟨w.heap.size, k * 2, none⟩ (.bool x)).setCell ⟨w.heap.size, k * 2 + 1, none⟩ (.bool y)) := by
  refine ⟨?_, (hb.setCell (p := ⟨w.heap.size, k * 2, none⟩) (Nat.le_refl _) _).setCell (p := ⟨w.heap.size, k * 2 + 1, none⟩) (Nat.le_refl _) _⟩
  rw [set_heap _ w.heap.size (k * 2 + 1) _ _ _ (set_heap W w.heap.size (k * 2) _ _ _ h1), rowP_set hk hn]

set_option maxRecDepth 100000 in
set_option maxHeartbeats 8000000 in
theorem Any_calls {α : Type} (d : Kd α) (hsz : d.sz = 4) (enc : α → Nd) (hK : ∀ {w x cs}, d.K w x cs → cs = encN (enc x)) (A : Option Addr) (c : Nat) (l : List α) (w0 : World) (hr0 : Kd.C d w0 A l.length l)
    (htag : ∀ x ∈ l, (enc x).tag.size ≤ 4611686018427387904) :
    Calls Tryd.prog 18 #[.slice A l.length c] w0 fun e w' => e = .returned (.bool (anyF (l.map enc))) ∧ Below w0.heap.size w0 w' := by
  have HCK := Aside0.mk (Check_calls d hsz enc (fun h => hK h) A c l w0 hr0 htag)
  have HNC := Aside0.mk (fun (W : World) (h : Kd.C d W A l.length l) (k : Nat) (hk : k < l.length) => node_cells hsz (fun h => hK h) h hk)
  have HR0 := Aside0.mk hr0
  clear hr0 htag hK
  go_enter Tryd.func18, Tryd.ntmps18
  go_wp2_with fail
  refine HCK.out.mono ?_
  rintro e w ⟨rfl, hb⟩
  have HB0 := Aside0.mk hb
  by_cases hck : checkF (l.map enc) = 0
  · have hce : (checkF (l.map enc) != 0) = false := by rw [hck]; rfl
    have HEV := Aside0.mk (show anyF (l.map enc) = ((vals2 (l.map enc) []).getD ((l.map enc).length - 1) (false, false)).1 from by unfold anyF; rw [decide_eq_true hck]; rfl)
    obtain ⟨hl0, hl60, href⟩ := check_ref hck
    rw [List.length_map] at hl0 hl60 HEV
    have hmk := made_P l.length (by omega)
    have HREF := Aside0.mk href
    have HR := Aside0.mk (Kd.C_below HR0.out hb)
    have hlen := Aside0.mk (vals2_len (l.map enc) [])
    clear hck hb HCK HR0 href
    go_wp2_with fail
    go_loopg [16] l.length (fun gg s16 wr => ∃ (k : Nat) (vs : List (Bool × Bool)), k ≤ l.length ∧ l.length - k ≤ gg ∧ s16 = .int .i64 k ∧ k ≤ vs.length ∧ vs.length ≤ k ∧ Aside0 (vals2 ((l.map enc).drop k) vs = vals2 (l.map enc) []) ∧
      Aside0 (wr.heap[w.heap.size]? = some (.cells (rowP vs l.length) 69 (0, 0))) ∧ Aside0 (Below w.heap.size w wr))
    case atStart => exact ⟨0, [], Nat.zero_le _, by omega, rfl, Nat.zero_le _, Nat.le_refl _, ⟨rfl⟩, ⟨heap_alloc_new w _⟩, ⟨(Below.refl _ w).alloc (Nat.le_refl _) _⟩⟩
    case round =>
      obtain ⟨k, vs, hk, hg, rfl, hv1, hv2, HV, HB, BW⟩ := hrel
      by_cases hlt : k < l.length
      · obtain ⟨ad, rfl, n, hn, q0, q1, q2, q3⟩ := HNC.out wr (Kd.C_below HR.out BW.out) k hlt
        obtain ⟨h0, h3, ha0, hb0, hab, hz⟩ := HREF.out k n (by rw [List.getElem?_map, List.getElem?_eq_getElem hlt, ← hn]; rfl)
        have hvn : vals2 ((l.map enc).drop (k + 1)) (vs ++ [val2 n vs]) = vals2 (l.map enc) [] := by
          have h := HV.out
          rw [List.drop_eq_getElem_cons (by simpa using hlt), vals2] at h
          rw [← hn]
          simpa using h
        have HVN := Aside0.mk hvn
        have hlt' : (k : Int) < (l.length : Int) := by omega
        have hkk := Aside0.mk (show k = vs.length from by omega)
        have hsw := BW.out.size
        clear hvn hn HV HREF HNC hlen
        have hbz : w.heap.size < wr.heap.size := (Array.getElem?_eq_some_iff.1 HB.out).1
        obtain ⟨kd, tn, na, nb⟩ := n
        simp only at q0 q1 q2 q3 h0 h3 ha0 hb0 hab hz HVN
        obtain ⟨an, rfl⟩ := Int.eq_ofNat_of_zero_le ha0
        obtain ⟨bn, rfl⟩ := Int.eq_ofNat_of_zero_le hb0
        have hanl : (an : Int) < (l.length : Int) := by
          by_cases e : kd = 0
          · have := (hz e).1; omega
          · have := (hab (by omega)).1; omega
        have hbnl : (bn : Int) < (l.length : Int) := by
          by_cases e : kd = 0
          · have := (hz e).2; omega
          · have := (hab (by omega)).2; omega
        clear hz hab
        go_upto_region 7 with fail
        obtain ⟨W, hW⟩ : ∃ W, wr.alloc (.cells #[.int .i64 kd, .string tn, .int .i64 an, .int .i64 bn] 52) = W := ⟨_, rfl⟩
        have b0 : W.cell? ⟨wr.heap.size, 0, none⟩ = some (.int .i64 kd) := by rw [← hW]; simp [go_sem]
        have b1 : W.cell? ⟨wr.heap.size, 1, none⟩ = some (.string tn) := by rw [← hW]; simp [go_sem]
        have b2 : W.cell? ⟨wr.heap.size, 2, none⟩ = some (.int .i64 an) := by rw [← hW]; simp [go_sem]
        have b3 : W.cell? ⟨wr.heap.size, 3, none⟩ = some (.int .i64 bn) := by rw [← hW]; simp [go_sem]
        have b4 : wr.heap.size < W.heap.size := by rw [← hW]; simp
        have HB1 : Aside0 (W.heap[w.heap.size]? = some (.cells (rowP vs l.length) 69 (0, 0))) := by rw [← hW]; exact ⟨(Below.heap_alloc _ _ _ (by omega)).trans HB.out⟩
        have BW1 : Aside0 (Below w.heap.size w W) := by rw [← hW]; exact ⟨BW.out.alloc hsw _⟩
        rw [hW]
        clear hW q0 q1 q2 q3 HB BW
        obtain ⟨va0, va1⟩ := rowP_any (vs := vs) (n := l.length) (j := an) (by omega) (by omega)
        obtain ⟨vb0, vb1⟩ := rowP_any (vs := vs) (n := l.length) (j := bn) (by omega) (by omega)
        have ca0 := (box_cell HB1.out va0).1
        have ca1 := (box_cell HB1.out va1).1
        have cb0 := (box_cell HB1.out vb0).1
        have cb1 := (box_cell HB1.out vb1).1
        clear va0 va1 vb0 vb1
        obtain ⟨xa, hxa⟩ : ∃ x, vs.getD an (false, false) = x := ⟨_, rfl⟩
        obtain ⟨xb, hxb⟩ : ∃ x, vs.getD bn (false, false) = x := ⟨_, rfl⟩
        have HXA := Aside0.mk hxa
        have HXB := Aside0.mk hxb
        rw [hxa] at ca0 ca1
        rw [hxb] at cb0 cb1
        clear hxa hxb
        obtain ⟨a1, a2⟩ := xa
        obtain ⟨e1, e2⟩ := xb
        simp only at ca0 ca1 cb0 cb1
        go_cut [6, 7] (fun s6 s7 we => ∃ p q : Nat, s6 = .pointer (some ⟨p, 0, none⟩) ∧ s7 = .pointer (some ⟨q, 0, none⟩) ∧ Aside0 (we.cell? ⟨p, 0, none⟩ = some (.bool a1) ∧ we.cell? ⟨p, 1, none⟩ = some (.bool a2) ∧ we.cell? ⟨q, 0, none⟩ = some (.bool e1) ∧ we.cell? ⟨q, 1, none⟩ = some (.bool e2)) ∧ Aside0 (Below W.heap.size W we))
        case first =>
          have f2 := al1 b2
          have f3 := al1 b3
          have f4 := al1 ca0
          have f5 := al1 ca1
          have f6 := al1 cb0
          have f7 := al1 cb1
          have g2 := al2 b2
          have g3 := al2 b3
          have g4 := al2 ca0
          have g5 := al2 ca1
          have g6 := al2 cb0
          have g7 := al2 cb1
          go_region
          all_goals (
            go_wp2_with fail
            go_meet
            case rel => exact ⟨_, _, rfl, rfl, ⟨by simp [go_sem], by simp [go_sem], by simp [go_sem], by simp [go_sem]⟩, ⟨(((Below.refl _ W).alloc (Nat.le_refl _) _).alloc (by simp) _).drew⟩⟩)
        case rest =>
          obtain ⟨p, q, rfl, rfl, HC, BE⟩ := hcut
          have r0 : wc.cell? ⟨wr.heap.size, 0, none⟩ = some (.int .i64 kd) := (BE.out.cell (p := ⟨wr.heap.size, 0, none⟩) (by exact b4)).trans b0
          have r1 : wc.cell? ⟨wr.heap.size, 1, none⟩ = some (.string tn) := (BE.out.cell (p := ⟨wr.heap.size, 1, none⟩) (by exact b4)).trans b1
          obtain ⟨p0, p1, q0, q1⟩ := HC.out
          have HB2 := Aside0.mk ((BE.out.block w.heap.size (by omega)).trans HB1.out)
          have BW2 := Aside0.mk (BW1.out.trans (BE.out.mono BW1.out.size))
          obtain ⟨nw0, nw1⟩ := rowP_new hkk.out hlt
          obtain ⟨z0, z1⟩ := box_cell HB2.out nw0
          obtain ⟨z2, z3⟩ := box_cell HB2.out nw1
          clear b0 b1 b2 b3 ca0 ca1 cb0 cb1 HB1 BW1 HC BE nw0 nw1
          have hval : val2 ⟨kd, tn, (an : Int), (bn : Int)⟩ vs = (pick kd (!(tn.toList == [105, 103, 110, 111, 114, 101])) a2 (a1 && e1) (a1 || e1), pick kd true a1 (a2 || e2) (a2 && e2)) := by
            unfold val2 pick
            simp only [Int.toNat_natCast, ig_eq]
            rw [HXA.out, HXB.out]
            split
            · rfl
            · split
              · rfl
              · split <;> rfl
          rw [hval] at HVN
          have hix := ixk kd h0 h3
          clear hval HXA HXB h0 h3
          cases a1 <;> cases a2
          all_goals (
            go_wp2_with fail
            obtain ⟨r0, r1⟩ := round_endP hkk.out hlt HB2.out BW2.out _ _
            go_roundg (l.length - (k + 1))
            case measure => omega
            case rel => exact ⟨k + 1, _, by omega, Nat.le_refl _, by go_num, by simp; omega, by simp; omega, HVN, ⟨r0⟩, ⟨r1⟩⟩)
      · have ek : k = l.length := by omega
        have hlt' : ¬ ((k : Int) < (l.length : Int)) := by omega
        subst ek
        have hv := HV.out
        rw [List.drop_of_length_le (by simp)] at hv
        have hv2 : vs = vals2 (l.map enc) [] := by rw [← hv]; rfl
        have hlast := (box_cell HB.out (rowP_at (vs := vs) (n := l.length) (j := l.length - 1) (by omega)).1).1
        rw [hv2, ← HEV.out] at hlast
        have hl1 : 0 ≤ (l.length : Int) - 1 := by omega
        have hidx : ((l.length : Int) - 1).toNat = l.length - 1 := by omega
        have hb0 := HB0.out
        have HBE := Aside0.mk (HB0.out.trans (BW.out.mono HB0.out.size))
        clear hv hv2 HV HNC HREF HR hlen HB HEV hb0
        go_wp2_with fail
        go_ret
        exact ⟨rfl, HBE.out⟩
  · have hce : (checkF (l.map enc) != 0) = true := by rw [bne_iff_ne]; exact hck
    have HEV := Aside0.mk (show anyF (l.map enc) = false from by unfold anyF; rw [decide_eq_false hck]; rfl)
    clear hck hb HCK HR0
    go_wp2_with fail
    go_ret
    rw [HEV.out]
    exact ⟨rfl, HB0.out⟩
end Go.Proofs.YtjndccjpjknbkaaDoor.ExAny
