/- expr.both: the walk. The conditions: the machine's sizes. -/
import Derived.Test.YtjndccjpjknbkaaDoorExRun
import Derived.Test.YtjndccjpjknbkaaDoorExPar
namespace Go.Proofs.YtjndccjpjknbkaaDoor.ExBoth
open Go Go.Proofs Go.RowKit Go.Proofs.YtjndccjpjknbkaaDoorW.PrintWords Go.Proofs.YtjndccjpjknbkaaDoor.BytesLib Go.Proofs.YtjndccjpjknbkaaDoor.ExLib Go.Proofs.YtjndccjpjknbkaaDoor.RowsLib Go.Proofs.YtjndccjpjknbkaaDoor.ExNode Go.Proofs.YtjndccjpjknbkaaDoor.ExRun
set_option linter.unusedVariables false
set_option linter.unusedSimpArgs false

/-- A node whose names are so many more. -/
def shiftN (m : Int) (n : Nd) : Nd := ⟨n.kind, n.tag, if 0 < n.kind then wrap64 (n.a + m) else n.a, if 1 < n.kind then wrap64 (n.b + m) else n.b⟩
def bothN (kind : Int) (a b : List Nd) : List Nd := a ++ b.map (shiftN a.length) ++ [⟨kind, ⟨#[]⟩, wrap64 ((a.length : Int) - 1), wrap64 ((a.length : Int) + (b.length : Int) - 1)⟩]

theorem cellsN_snoc (l : List Nd) (n : Nd) : cellsN (l ++ [n]) = cellsN l ++ encN n := by unfold cellsN; rw [cellsL_app, cellsL_one]

set_option maxRecDepth 100000 in
set_option maxHeartbeats 8000000 in
theorem both_calls {α β : Type} (d : Kd α) (hsz : d.sz = 4) (enc : α → Nd) (hK : ∀ {w x cs}, d.K w x cs → cs = encN (enc x)) (e : Kd β) (hsz2 : e.sz = 4) (enc2 : β → Nd) (hK2 : ∀ {w x cs}, e.K w x cs → cs = encN (enc2 x))
    (kind : Int) (A1 A2 : Option Addr) (c1 c2 : Nat) (l1 : List α) (l2 : List β) (w : World) (hr1 : Kd.C d w A1 l1.length l1) (hr2 : Kd.C e w A2 l2.length l2) (h1 : l1.length ≤ 1000000) (h2 : l2.length ≤ 1000000) :
    Calls Tryd.prog 44 #[.int .i64 kind, .slice A1 l1.length c1, .slice A2 l2.length c2] w fun e w' => ∃ v, e = .returned v ∧ w'.ownsRow w.heap.size 52 4 v (bothN kind (l1.map enc) (l2.map enc2)).length (cellsN (bothN kind (l1.map enc) (l2.map enc2))) ∧ Below w.heap.size w w' := by
  obtain ⟨i0, hi, hz0, hz1, hz2⟩ := info_parts infoN
  have HCL := Aside0.mk (Clone_calls d hsz enc (fun h => hK h) A1 c1 l1 w hr1 (by omega))
  have HNC := Aside0.mk (fun (W : World) (h : Kd.C e W A2 l2.length l2) (k : Nat) (hk : k < l2.length) => node_cells hsz2 (fun h => hK2 h) h hk)
  have HR2 := Aside0.mk hr2
  clear hr1 hr2 hK hK2
  go_enter Tryd.func44, Tryd.ntmps44
  go_wp2_with fail
  refine HCL.out.mono ?_
  rintro ee w1 ⟨v1, rfl, ho1, hb1⟩
  have HO1 := Aside0.mk ho1
  have HB1 := Aside0.mk hb1
  clear ho1 hb1 HCL
  go_wp2_with fail
  go_loopg [7, 14] l2.length (fun gg s7 s14 wr => ∃ (k : Nat) (q : List Nd), k ≤ l2.length ∧ l2.length - k ≤ gg ∧ s14 = .int .i64 k ∧ q.length ≤ l1.length + k ∧ l1.length + k ≤ q.length ∧ Aside0 (q = l1.map enc ++ ((l2.map enc2).take k).map (shiftN l1.length)) ∧
    Aside0 (wr.ownsRow w.heap.size 52 4 s7 q.length (cellsN q)) ∧ Aside0 (Below w.heap.size w wr))
  case atStart => exact ⟨0, l1.map enc, Nat.zero_le _, by omega, rfl, by simp, by simp, ⟨by simp⟩, ⟨by rw [List.length_map]; exact HO1.out⟩, HB1⟩
  case round =>
    obtain ⟨k, q, hk, hg, rfl, hq1, hq2, HQ, HO, BW⟩ := hrel
    by_cases hlt : k < l2.length
    · obtain ⟨ad, rfl, n, hn, q0, q1, q2, q3⟩ := HNC.out wr (Kd.C_below HR2.out BW.out) k hlt
      have hlt' : (k : Int) < (l2.length : Int) := by omega
      have hQ : q ++ [shiftN l1.length n] = l1.map enc ++ ((l2.map enc2).take (k + 1)).map (shiftN l1.length) := by
        rw [List.take_succ_eq_append_getElem (by simpa using hlt), List.map_append, ← List.append_assoc, ← HQ.out, List.getElem_map, hn]
        rfl
      have HQ2 := Aside0.mk hQ
      have hsw := BW.out.size
      clear hQ HQ hn HNC HR2
      by_cases e1 : 1 < n.kind
      · have e0 : 0 < n.kind := by omega
        have HS := Aside0.mk (show shiftN l1.length n = ⟨n.kind, n.tag, wrap64 (n.a + (l1.length : Int)), wrap64 (n.b + (l1.length : Int))⟩ from by unfold shiftN; rw [if_pos e0, if_pos e1])
        go_upto_region 9 with fail
        obtain ⟨W, hW⟩ : ∃ W, wr.alloc (.cells #[.int .i64 n.kind, .string n.tag, .int .i64 (wrap64 (n.a + (l1.length : Int))), .int .i64 (wrap64 (n.b + (l1.length : Int)))] 52) = W := ⟨_, rfl⟩
        have b0 : W.cell? ⟨wr.heap.size, 0, none⟩ = some (.int .i64 n.kind) := by rw [← hW]; simp [go_sem]
        have b1 : W.cell? ⟨wr.heap.size, 1, none⟩ = some (.string n.tag) := by rw [← hW]; simp [go_sem]
        have b2 : W.cell? ⟨wr.heap.size, 2, none⟩ = some (.int .i64 (wrap64 (n.a + (l1.length : Int)))) := by rw [← hW]; simp [go_sem]
        have b3 : W.cell? ⟨wr.heap.size, 3, none⟩ = some (.int .i64 (wrap64 (n.b + (l1.length : Int)))) := by rw [← hW]; simp [go_sem]
        have HOW : Aside0 (W.ownsRow w.heap.size 52 4 u7 q.length (cellsN q)) := by rw [← hW]; exact ⟨HO.out.alloc _⟩
        have BW1 : Aside0 (Below w.heap.size w W) := by rw [← hW]; exact ⟨BW.out.alloc hsw _⟩
        rw [hW]
        clear hW q0 q1 q2 q3 BW HO
        go_wp2_with (at_builtin; refine wpList_append_own _ rfl _ _ 22 rfl w.heap.size 52 i0 (.agg #[.int .i64 0, .string ⟨#[]⟩, .int .i64 0, .int .i64 0]) 4 40 Tryd.underlying22 hi hz0 hz1 hz2 rfl (by decide) _ q.length (cellsN q) rfl (HOW.out.alloc _) ⟨W.heap.size, 0, none⟩ 1 1 [.int .i64 n.kind, .string n.tag, .int .i64 (wrap64 (n.a + (l1.length : Int))), .int .i64 (wrap64 (n.b + (l1.length : Int)))] rfl rfl (World.news_of_block (cs := #[.int .i64 n.kind, .string n.tag, .int .i64 (wrap64 (n.a + (l1.length : Int))), .int .i64 (wrap64 (n.b + (l1.length : Int)))]) (heap_alloc_new W _)) (by simp [Value.oneCell']) (by unfold maxLen; omega) (by omega) (by have := BW1.out.size; simp; omega) ?_; intro v2 w2 hown2 hgrow2 _)
        have HO2 : Aside0 (w2.ownsRow w.heap.size 52 4 v2 (q ++ [shiftN l1.length n]).length (cellsN (q ++ [shiftN l1.length n]))) := by
          rw [List.length_append, cellsN_snoc, HS.out]
          exact ⟨hown2⟩
        have BW2 := Aside0.mk ((BW1.out.alloc BW1.out.size _).grown hgrow2 (by have := BW1.out.size; simp; omega) (fun k hk => own_ge HOW.out k hk))
        clear hown2 hgrow2 HOW BW1 b0 b1 b2 b3
        go_wp2_with fail
        go_roundg (l2.length - (k + 1))
        case measure => omega
        case rel => exact ⟨k + 1, q ++ [shiftN l1.length n], by omega, Nat.le_refl _, by go_num, by simp; omega, by simp; omega, HQ2, HO2, BW2⟩
      · by_cases e0 : 0 < n.kind
        · have HS := Aside0.mk (show shiftN l1.length n = ⟨n.kind, n.tag, wrap64 (n.a + (l1.length : Int)), n.b⟩ from by unfold shiftN; rw [if_pos e0, if_neg e1])
          go_upto_region 9 with fail
          obtain ⟨W, hW⟩ : ∃ W, wr.alloc (.cells #[.int .i64 n.kind, .string n.tag, .int .i64 (wrap64 (n.a + (l1.length : Int))), .int .i64 n.b] 52) = W := ⟨_, rfl⟩
          have b0 : W.cell? ⟨wr.heap.size, 0, none⟩ = some (.int .i64 n.kind) := by rw [← hW]; simp [go_sem]
          have b1 : W.cell? ⟨wr.heap.size, 1, none⟩ = some (.string n.tag) := by rw [← hW]; simp [go_sem]
          have b2 : W.cell? ⟨wr.heap.size, 2, none⟩ = some (.int .i64 (wrap64 (n.a + (l1.length : Int)))) := by rw [← hW]; simp [go_sem]
          have b3 : W.cell? ⟨wr.heap.size, 3, none⟩ = some (.int .i64 n.b) := by rw [← hW]; simp [go_sem]
          have HOW : Aside0 (W.ownsRow w.heap.size 52 4 u7 q.length (cellsN q)) := by rw [← hW]; exact ⟨HO.out.alloc _⟩
          have BW1 : Aside0 (Below w.heap.size w W) := by rw [← hW]; exact ⟨BW.out.alloc hsw _⟩
          rw [hW]
          clear hW q0 q1 q2 q3 BW HO
          go_wp2_with (at_builtin; refine wpList_append_own _ rfl _ _ 22 rfl w.heap.size 52 i0 (.agg #[.int .i64 0, .string ⟨#[]⟩, .int .i64 0, .int .i64 0]) 4 40 Tryd.underlying22 hi hz0 hz1 hz2 rfl (by decide) _ q.length (cellsN q) rfl (HOW.out.alloc _) ⟨W.heap.size, 0, none⟩ 1 1 [.int .i64 n.kind, .string n.tag, .int .i64 (wrap64 (n.a + (l1.length : Int))), .int .i64 n.b] rfl rfl (World.news_of_block (cs := #[.int .i64 n.kind, .string n.tag, .int .i64 (wrap64 (n.a + (l1.length : Int))), .int .i64 n.b]) (heap_alloc_new W _)) (by simp [Value.oneCell']) (by unfold maxLen; omega) (by omega) (by have := BW1.out.size; simp; omega) ?_; intro v2 w2 hown2 hgrow2 _)
          have HO2 : Aside0 (w2.ownsRow w.heap.size 52 4 v2 (q ++ [shiftN l1.length n]).length (cellsN (q ++ [shiftN l1.length n]))) := by
            rw [List.length_append, cellsN_snoc, HS.out]
            exact ⟨hown2⟩
          have BW2 := Aside0.mk ((BW1.out.alloc BW1.out.size _).grown hgrow2 (by have := BW1.out.size; simp; omega) (fun k hk => own_ge HOW.out k hk))
          clear hown2 hgrow2 HOW BW1 b0 b1 b2 b3
          go_wp2_with fail
          go_roundg (l2.length - (k + 1))
          case measure => omega
          case rel => exact ⟨k + 1, q ++ [shiftN l1.length n], by omega, Nat.le_refl _, by go_num, by simp; omega, by simp; omega, HQ2, HO2, BW2⟩
        · have HS := Aside0.mk (show shiftN l1.length n = ⟨n.kind, n.tag, n.a, n.b⟩ from by unfold shiftN; rw [if_neg e0, if_neg e1])
          go_upto_region 9 with fail
          obtain ⟨W, hW⟩ : ∃ W, wr.alloc (.cells #[.int .i64 n.kind, .string n.tag, .int .i64 n.a, .int .i64 n.b] 52) = W := ⟨_, rfl⟩
          have b0 : W.cell? ⟨wr.heap.size, 0, none⟩ = some (.int .i64 n.kind) := by rw [← hW]; simp [go_sem]
          have b1 : W.cell? ⟨wr.heap.size, 1, none⟩ = some (.string n.tag) := by rw [← hW]; simp [go_sem]
          have b2 : W.cell? ⟨wr.heap.size, 2, none⟩ = some (.int .i64 n.a) := by rw [← hW]; simp [go_sem]
          have b3 : W.cell? ⟨wr.heap.size, 3, none⟩ = some (.int .i64 n.b) := by rw [← hW]; simp [go_sem]
          have HOW : Aside0 (W.ownsRow w.heap.size 52 4 u7 q.length (cellsN q)) := by rw [← hW]; exact ⟨HO.out.alloc _⟩
          have BW1 : Aside0 (Below w.heap.size w W) := by rw [← hW]; exact ⟨BW.out.alloc hsw _⟩
          rw [hW]
          clear hW q0 q1 q2 q3 BW HO
          go_wp2_with (at_builtin; refine wpList_append_own _ rfl _ _ 22 rfl w.heap.size 52 i0 (.agg #[.int .i64 0, .string ⟨#[]⟩, .int .i64 0, .int .i64 0]) 4 40 Tryd.underlying22 hi hz0 hz1 hz2 rfl (by decide) _ q.length (cellsN q) rfl (HOW.out.alloc _) ⟨W.heap.size, 0, none⟩ 1 1 [.int .i64 n.kind, .string n.tag, .int .i64 n.a, .int .i64 n.b] rfl rfl (World.news_of_block (cs := #[.int .i64 n.kind, .string n.tag, .int .i64 n.a, .int .i64 n.b]) (heap_alloc_new W _)) (by simp [Value.oneCell']) (by unfold maxLen; omega) (by omega) (by have := BW1.out.size; simp; omega) ?_; intro v2 w2 hown2 hgrow2 _)
          have HO2 : Aside0 (w2.ownsRow w.heap.size 52 4 v2 (q ++ [shiftN l1.length n]).length (cellsN (q ++ [shiftN l1.length n]))) := by
            rw [List.length_append, cellsN_snoc, HS.out]
            exact ⟨hown2⟩
          have BW2 := Aside0.mk ((BW1.out.alloc BW1.out.size _).grown hgrow2 (by have := BW1.out.size; simp; omega) (fun k hk => own_ge HOW.out k hk))
          clear hown2 hgrow2 HOW BW1 b0 b1 b2 b3
          go_wp2_with fail
          go_roundg (l2.length - (k + 1))
          case measure => omega
          case rel => exact ⟨k + 1, q ++ [shiftN l1.length n], by omega, Nat.le_refl _, by go_num, by simp; omega, by simp; omega, HQ2, HO2, BW2⟩
    · have ek : k = l2.length := by omega
      have hlt' : ¬ ((k : Int) < (l2.length : Int)) := by omega
      subst ek
      have hQ : q = l1.map enc ++ (l2.map enc2).map (shiftN l1.length) := by
        have h := HQ.out
        rw [List.take_of_length_le (by simp)] at h
        exact h
      have HQ2 := Aside0.mk hQ
      have hql := Aside0.mk (show (q.length : Int) = (l1.length : Int) + (l2.length : Int) from by omega)
      obtain ⟨Aq, cq, rfl, hcq, hCq⟩ := ExPar.own_C HO.out
      clear hQ HQ HNC HR2 hCq
      have hqw : (l1.length : Int) - 1 ≤ 1000000 := by omega
      have hqb : (q.length : Int) ≤ 2000000 := by omega
      have hsw := BW.out.size
      go_wp2_with (at_builtin; refine wpList_append_own _ rfl _ _ 22 rfl w.heap.size 52 i0 (.agg #[.int .i64 0, .string ⟨#[]⟩, .int .i64 0, .int .i64 0]) 4 40 Tryd.underlying22 hi hz0 hz1 hz2 rfl (by decide) _ q.length (cellsN q) rfl (HO.out.alloc _) ⟨wr.heap.size, 0, none⟩ 1 1 [.int .i64 kind, .string ⟨#[]⟩, .int .i64 ((l1.length : Int) - 1), .int .i64 ((q.length : Int) - 1)] rfl rfl (World.news_of_block (cs := #[.int .i64 kind, .string ⟨#[]⟩, .int .i64 ((l1.length : Int) - 1), .int .i64 ((q.length : Int) - 1)]) (heap_alloc_new wr _)) (by simp [Value.oneCell']) (by unfold maxLen; omega) (by omega) (by have := BW.out.size; simp; omega) ?_; intro v2 w2 hown2 hgrow2 _)
      have BW2 := Aside0.mk ((BW.out.alloc BW.out.size _).grown hgrow2 (by have := BW.out.size; simp; omega) (fun k hk => own_ge HO.out k hk))
      have hB : bothN kind (l1.map enc) (l2.map enc2) = q ++ [⟨kind, ⟨#[]⟩, (l1.length : Int) - 1, (q.length : Int) - 1⟩] := by
        unfold bothN
        rw [List.length_map, List.length_map, ← HQ2.out, hql.out, show wrap64 ((l1.length : Int) - 1) = (l1.length : Int) - 1 from by unfold wrap64; omega, show wrap64 ((l1.length : Int) + (l2.length : Int) - 1) = (l1.length : Int) + (l2.length : Int) - 1 from by unfold wrap64; omega]
      have HO2 : Aside0 (w2.ownsRow w.heap.size 52 4 v2 (bothN kind (l1.map enc) (l2.map enc2)).length (cellsN (bothN kind (l1.map enc) (l2.map enc2)))) := by
        rw [hB, List.length_append, cellsN_snoc]
        exact ⟨hown2⟩
      clear hown2 hgrow2 HO hB
      go_wp2_with fail
      go_ret
      exact ⟨v2, rfl, HO2.out, BW2.out⟩

/-! ### The reference's moved -/
theorem infoR : (Tryd.prog.info? 61).map (fun i => (i.zero, i.size, i.bytes)) = some (some (.agg #[.int .i64 0, .string ⟨#[]⟩, .int .i64 0, .int .i64 0]), 4, 40) := by kernel_rfl
set_option maxRecDepth 100000 in
set_option maxHeartbeats 8000000 in
theorem moved_calls {β : Type} (e : Kd β) (hsz2 : e.sz = 4) (enc2 : β → Nd) (hK2 : ∀ {w x cs}, e.K w x cs → cs = encN (enc2 x))
    (m : Int) (A2 : Option Addr) (c2 : Nat) (l2 : List β) (w : World) (hr2 : Kd.C e w A2 l2.length l2) (h2 : l2.length ≤ 1000000) :
    Calls Tryd.prog 68 #[.slice A2 l2.length c2, .int .i64 m] w fun e w' => ∃ v, e = .returned v ∧ w'.ownsRow w.heap.size 61 4 v ((l2.map enc2).map (shiftN m)).length (cellsN ((l2.map enc2).map (shiftN m))) ∧ Below w.heap.size w w' := by
  obtain ⟨i0, hi, hz0, hz1, hz2⟩ := info_parts infoR
  have HNC := Aside0.mk (fun (W : World) (h : Kd.C e W A2 l2.length l2) (k : Nat) (hk : k < l2.length) => node_cells hsz2 (fun h => hK2 h) h hk)
  have HR2 := Aside0.mk hr2
  obtain ⟨F, hF⟩ : ∃ F, (l2.map enc2).map (shiftN m) = F := ⟨_, rfl⟩
  rw [hF]
  have HF := Aside0.mk hF
  clear hr2 hK2 hF
  go_enter Tryd.func68, Tryd.ntmps68
  go_wp2_with fail
  go_loopg [5, 6] l2.length (fun gg s5 s6 wr => ∃ (k : Nat) (q : List Nd), k ≤ l2.length ∧ l2.length - k ≤ gg ∧ s6 = .int .i64 k ∧ q.length ≤ k ∧ k ≤ q.length ∧ Aside0 (q = ((l2.map enc2).take k).map (shiftN m)) ∧
    Aside0 (wr.ownsRow w.heap.size 61 4 s5 q.length (cellsN q)) ∧ Aside0 (Below w.heap.size w wr))
  case atStart =>
    exact ⟨0, [], Nat.zero_le _, by omega, rfl, Nat.le_refl _, Nat.le_refl _, ⟨by simp⟩, ⟨⟨rfl, .inr ⟨w.heap.size, 0, #[], rfl, Nat.le_refl _, heap_alloc_new w _, Nat.le_refl _, by unfold maxLen; omega, rfl, rfl⟩⟩⟩, ⟨(Below.refl _ w).alloc (Nat.le_refl _) _⟩⟩
  case round =>
    obtain ⟨k, q, hk, hg, rfl, hq1, hq2, HQ, HO, BW⟩ := hrel
    by_cases hlt : k < l2.length
    · obtain ⟨ad, rfl, n, hn, q0, q1, q2, q3⟩ := HNC.out wr (Kd.C_below HR2.out BW.out) k hlt
      have hlt' : (k : Int) < (l2.length : Int) := by omega
      have hQ : q ++ [shiftN m n] = ((l2.map enc2).take (k + 1)).map (shiftN m) := by
        rw [List.take_succ_eq_append_getElem (by simpa using hlt), List.map_append, ← HQ.out, List.getElem_map, hn]
        rfl
      have HQ2 := Aside0.mk hQ
      have hsw := BW.out.size
      clear hQ HQ hn HNC HR2
      by_cases e1 : 1 < n.kind
      · have e0 : 0 < n.kind := by omega
        have HS := Aside0.mk (show shiftN m n = ⟨n.kind, n.tag, wrap64 (n.a + m), wrap64 (n.b + m)⟩ from by unfold shiftN; rw [if_pos e0, if_pos e1])
        go_upto_region 10 with fail
        obtain ⟨W, hW⟩ : ∃ W, wr.alloc (.cells #[.int .i64 n.kind, .string n.tag, .int .i64 (wrap64 (n.a + m)), .int .i64 (wrap64 (n.b + m))] 61) = W := ⟨_, rfl⟩
        have b0 : W.cell? ⟨wr.heap.size, 0, none⟩ = some (.int .i64 n.kind) := by rw [← hW]; simp [go_sem]
        have b1 : W.cell? ⟨wr.heap.size, 1, none⟩ = some (.string n.tag) := by rw [← hW]; simp [go_sem]
        have b2 : W.cell? ⟨wr.heap.size, 2, none⟩ = some (.int .i64 (wrap64 (n.a + m))) := by rw [← hW]; simp [go_sem]
        have b3 : W.cell? ⟨wr.heap.size, 3, none⟩ = some (.int .i64 (wrap64 (n.b + m))) := by rw [← hW]; simp [go_sem]
        have HOW : Aside0 (W.ownsRow w.heap.size 61 4 u5 q.length (cellsN q)) := by rw [← hW]; exact ⟨HO.out.alloc _⟩
        have BW1 : Aside0 (Below w.heap.size w W) := by rw [← hW]; exact ⟨BW.out.alloc hsw _⟩
        rw [hW]
        clear hW q0 q1 q2 q3 BW HO
        go_wp2_with (at_builtin; refine wpList_append_own _ rfl _ _ 30 rfl w.heap.size 61 i0 (.agg #[.int .i64 0, .string ⟨#[]⟩, .int .i64 0, .int .i64 0]) 4 40 Tryd.underlying30 hi hz0 hz1 hz2 rfl (by decide) _ q.length (cellsN q) rfl (HOW.out.alloc _) ⟨W.heap.size, 0, none⟩ 1 1 [.int .i64 n.kind, .string n.tag, .int .i64 (wrap64 (n.a + m)), .int .i64 (wrap64 (n.b + m))] rfl rfl (World.news_of_block (cs := #[.int .i64 n.kind, .string n.tag, .int .i64 (wrap64 (n.a + m)), .int .i64 (wrap64 (n.b + m))]) (heap_alloc_new W _)) (by simp [Value.oneCell']) (by unfold maxLen; omega) (by omega) (by have := BW1.out.size; simp; omega) ?_; intro v2 w2 hown2 hgrow2 _)
        have HO2 : Aside0 (w2.ownsRow w.heap.size 61 4 v2 (q ++ [shiftN m n]).length (cellsN (q ++ [shiftN m n]))) := by
          rw [List.length_append, cellsN_snoc, HS.out]
          exact ⟨hown2⟩
        have BW2 := Aside0.mk ((BW1.out.alloc BW1.out.size _).grown hgrow2 (by have := BW1.out.size; simp; omega) (fun k hk => own_ge HOW.out k hk))
        clear hown2 hgrow2 HOW BW1 b0 b1 b2 b3
        go_wp2_with fail
        go_roundg (l2.length - (k + 1))
        case measure => omega
        case rel => exact ⟨k + 1, q ++ [shiftN m n], by omega, Nat.le_refl _, by go_num, by simp; omega, by simp; omega, HQ2, HO2, BW2⟩
      · by_cases e0 : 0 < n.kind
        · have HS := Aside0.mk (show shiftN m n = ⟨n.kind, n.tag, wrap64 (n.a + m), n.b⟩ from by unfold shiftN; rw [if_pos e0, if_neg e1])
          go_upto_region 10 with fail
          obtain ⟨W, hW⟩ : ∃ W, wr.alloc (.cells #[.int .i64 n.kind, .string n.tag, .int .i64 (wrap64 (n.a + m)), .int .i64 n.b] 61) = W := ⟨_, rfl⟩
          have b0 : W.cell? ⟨wr.heap.size, 0, none⟩ = some (.int .i64 n.kind) := by rw [← hW]; simp [go_sem]
          have b1 : W.cell? ⟨wr.heap.size, 1, none⟩ = some (.string n.tag) := by rw [← hW]; simp [go_sem]
          have b2 : W.cell? ⟨wr.heap.size, 2, none⟩ = some (.int .i64 (wrap64 (n.a + m))) := by rw [← hW]; simp [go_sem]
          have b3 : W.cell? ⟨wr.heap.size, 3, none⟩ = some (.int .i64 n.b) := by rw [← hW]; simp [go_sem]
          have HOW : Aside0 (W.ownsRow w.heap.size 61 4 u5 q.length (cellsN q)) := by rw [← hW]; exact ⟨HO.out.alloc _⟩
          have BW1 : Aside0 (Below w.heap.size w W) := by rw [← hW]; exact ⟨BW.out.alloc hsw _⟩
          rw [hW]
          clear hW q0 q1 q2 q3 BW HO
          go_wp2_with (at_builtin; refine wpList_append_own _ rfl _ _ 30 rfl w.heap.size 61 i0 (.agg #[.int .i64 0, .string ⟨#[]⟩, .int .i64 0, .int .i64 0]) 4 40 Tryd.underlying30 hi hz0 hz1 hz2 rfl (by decide) _ q.length (cellsN q) rfl (HOW.out.alloc _) ⟨W.heap.size, 0, none⟩ 1 1 [.int .i64 n.kind, .string n.tag, .int .i64 (wrap64 (n.a + m)), .int .i64 n.b] rfl rfl (World.news_of_block (cs := #[.int .i64 n.kind, .string n.tag, .int .i64 (wrap64 (n.a + m)), .int .i64 n.b]) (heap_alloc_new W _)) (by simp [Value.oneCell']) (by unfold maxLen; omega) (by omega) (by have := BW1.out.size; simp; omega) ?_; intro v2 w2 hown2 hgrow2 _)
          have HO2 : Aside0 (w2.ownsRow w.heap.size 61 4 v2 (q ++ [shiftN m n]).length (cellsN (q ++ [shiftN m n]))) := by
            rw [List.length_append, cellsN_snoc, HS.out]
            exact ⟨hown2⟩
          have BW2 := Aside0.mk ((BW1.out.alloc BW1.out.size _).grown hgrow2 (by have := BW1.out.size; simp; omega) (fun k hk => own_ge HOW.out k hk))
          clear hown2 hgrow2 HOW BW1 b0 b1 b2 b3
          go_wp2_with fail
          go_roundg (l2.length - (k + 1))
          case measure => omega
          case rel => exact ⟨k + 1, q ++ [shiftN m n], by omega, Nat.le_refl _, by go_num, by simp; omega, by simp; omega, HQ2, HO2, BW2⟩
        · have HS := Aside0.mk (show shiftN m n = ⟨n.kind, n.tag, n.a, n.b⟩ from by unfold shiftN; rw [if_neg e0, if_neg e1])
          go_upto_region 10 with fail
          obtain ⟨W, hW⟩ : ∃ W, wr.alloc (.cells #[.int .i64 n.kind, .string n.tag, .int .i64 n.a, .int .i64 n.b] 61) = W := ⟨_, rfl⟩
          have b0 : W.cell? ⟨wr.heap.size, 0, none⟩ = some (.int .i64 n.kind) := by rw [← hW]; simp [go_sem]
          have b1 : W.cell? ⟨wr.heap.size, 1, none⟩ = some (.string n.tag) := by rw [← hW]; simp [go_sem]
          have b2 : W.cell? ⟨wr.heap.size, 2, none⟩ = some (.int .i64 n.a) := by rw [← hW]; simp [go_sem]
          have b3 : W.cell? ⟨wr.heap.size, 3, none⟩ = some (.int .i64 n.b) := by rw [← hW]; simp [go_sem]
          have HOW : Aside0 (W.ownsRow w.heap.size 61 4 u5 q.length (cellsN q)) := by rw [← hW]; exact ⟨HO.out.alloc _⟩
          have BW1 : Aside0 (Below w.heap.size w W) := by rw [← hW]; exact ⟨BW.out.alloc hsw _⟩
          rw [hW]
          clear hW q0 q1 q2 q3 BW HO
          go_wp2_with (at_builtin; refine wpList_append_own _ rfl _ _ 30 rfl w.heap.size 61 i0 (.agg #[.int .i64 0, .string ⟨#[]⟩, .int .i64 0, .int .i64 0]) 4 40 Tryd.underlying30 hi hz0 hz1 hz2 rfl (by decide) _ q.length (cellsN q) rfl (HOW.out.alloc _) ⟨W.heap.size, 0, none⟩ 1 1 [.int .i64 n.kind, .string n.tag, .int .i64 n.a, .int .i64 n.b] rfl rfl (World.news_of_block (cs := #[.int .i64 n.kind, .string n.tag, .int .i64 n.a, .int .i64 n.b]) (heap_alloc_new W _)) (by simp [Value.oneCell']) (by unfold maxLen; omega) (by omega) (by have := BW1.out.size; simp; omega) ?_; intro v2 w2 hown2 hgrow2 _)
          have HO2 : Aside0 (w2.ownsRow w.heap.size 61 4 v2 (q ++ [shiftN m n]).length (cellsN (q ++ [shiftN m n]))) := by
            rw [List.length_append, cellsN_snoc, HS.out]
            exact ⟨hown2⟩
          have BW2 := Aside0.mk ((BW1.out.alloc BW1.out.size _).grown hgrow2 (by have := BW1.out.size; simp; omega) (fun k hk => own_ge HOW.out k hk))
          clear hown2 hgrow2 HOW BW1 b0 b1 b2 b3
          go_wp2_with fail
          go_roundg (l2.length - (k + 1))
          case measure => omega
          case rel => exact ⟨k + 1, q ++ [shiftN m n], by omega, Nat.le_refl _, by go_num, by simp; omega, by simp; omega, HQ2, HO2, BW2⟩
    · have ek : k = l2.length := by omega
      have hlt' : ¬ ((k : Int) < (l2.length : Int)) := by omega
      subst ek
      have hQ : q = (l2.map enc2).map (shiftN m) := by
        have h := HQ.out
        rw [List.take_of_length_le (by simp)] at h
        exact h
      have HQ2 := Aside0.mk hQ
      clear hQ HQ HNC HR2
      go_wp2_with fail
      go_ret
      rw [← HF.out, ← HQ2.out]
      exact ⟨_, rfl, HO.out, BW.out⟩
end Go.Proofs.YtjndccjpjknbkaaDoor.ExBoth
