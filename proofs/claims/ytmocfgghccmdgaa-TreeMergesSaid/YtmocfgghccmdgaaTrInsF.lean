/- slices.Insert of one element into a row of the call's own: the walk. -/
import Derived.Test.YtmocfgghccmdgaaTrCopy
import Derived.Shelf.RegionOpenPlain
namespace Go.Proofs.Ytmocfgghccmdgaa.TrInsF
open Go Go.Proofs Go.RowKit Go.Lib Go.Proofs.YtmocfgghccmdgaaW.PrintWords Go.Proofs.Ytmocfgghccmdgaa.RowsLib Go.Proofs.Ytmocfgghccmdgaa.TrLib Go.Proofs.Ytmocfgghccmdgaa.TrCopy
set_option linter.unusedVariables false
set_option linter.unusedSimpArgs false

theorem hov (W : World) (g bx n c cap : Nat) (cur y : Array Value) (hg : W.heap[g]? = some (.cells cur 24 (0, 0))) (hx : W.heap[bx]? = some (.cells y 24 (0, 0))) (hne : bx ≠ g) (h0 : cur.size ≠ 0) (off lb cb : Nat) :
    (callFunc 85 #[.slice (some ⟨bx, 0, none⟩) 1 1, .slice (some ⟨g, off, none⟩) lb cb]).run Try.prog W = .ok (.value (.bool false)) W := by
  rw [run_callFunc_extern Try.func85 (by kernel_rfl) (by kernel_rfl) (by kernel_rfl) (e := Extern.SlicesOverlaps.overlaps #[22, 22] #[4]) (by kernel_rfl),
    Lib.run_overlaps_apart W 22 4 24 Try.underlying22 2 (fun w => by kernel_rfl) ⟨bx, 0, none⟩ ⟨g, off, none⟩ 1 1 lb cb hne 24 24 y.size cur.size (by simp [World.shape?, hx]) (by simp [World.shape?, hg]) h0 (by simp [World.frozen?, hx]) (by simp [World.frozen?, hx])]
  rfl

set_option maxHeartbeats 8000000 in
set_option maxRecDepth 100000 in
theorem Insert_calls (base : Nat) (v : Value) (l : List Fl) (i : Nat) (x : Fl) (bx : Nat) (w : World) (hb0 : base ≤ w.heap.size) (ho : w.ownsRow base 24 2 v l.length (cellsF l)) (hi : i ≤ l.length) (hl : l.length ≤ 1099511627776)
    (hx : w.heap[bx]? = some (.cells (encF x).toArray 24 (0, 0))) (hne : v.ownBlock ≠ some bx) :
    Calls Try.prog 68 #[v, .int .i64 i, .slice (some ⟨bx, 0, none⟩) 1 1] w fun e w' =>
      ∃ v', e = .returned v' ∧ w'.ownsRow base 24 2 v' (l.take i ++ x :: l.drop i).length (cellsF (l.take i ++ x :: l.drop i)) ∧ w.grownBy w' v.ownBlock := by
  obtain ⟨i0, hi0, hz0, hzs, hzb⟩ := info_parts infoF
  have hlen : (l.take i ++ x :: l.drop i).length = l.length + 1 := by simp; omega
  have hxc : ∀ j u, (encF x)[j]? = some u → w.cell? (Addr.add ⟨bx, 0, none⟩ j) = some u := fun j u hj => by
    rw [RowsLib.add_plain, Nat.zero_add]
    exact (box_cell hx (by rw [List.getElem?_toArray]; exact hj)).1
  by_cases hin : i = l.length
  · subst hin
    have hfin : l.take l.length ++ x :: l.drop l.length = l ++ [x] := by rw [List.take_length, List.drop_length]
    rw [hfin] at hlen ⊢
    have HO := Aside0.mk ho
    have HX := Aside0.mk hxc
    have HF := Aside0.mk hfin
    rcases ho.2 with ⟨rfl, h0⟩ | ⟨g, cap, cur, rfl, r⟩
    · have h0' : (l.length : Int) = 0 := by omega
      clear ho hx hxc hfin
      go_enter Try.func68, Try.ntmps68
      go_wp2_with (at_builtin; refine wpList_append_own _ rfl _ _ 22 rfl base 24 i0 (.agg #[.string ⟨#[]⟩, .string ⟨#[]⟩]) 2 32 Try.underlying22 hi0 hz0 hzs hzb rfl (by decide) _ l.length (cellsF l) rfl HO.out ⟨bx, 0, none⟩ 1 1 (encF x) rfl rfl HX.out (encF_one x) (by unfold maxLen; omega) (by omega) hb0 ?_; intro v1 w1 hown1 hgrow1 _)
      go_ret
      refine ⟨v1, rfl, ?_, hgrow1⟩
      try rw [hlen]
      unfold cellsF
      rw [cellsL_app, cellsL_one]
      exact hown1
    · clear ho hx hxc hfin r
      go_enter Try.func68, Try.ntmps68
      go_wp2_with (at_builtin; refine wpList_append_own _ rfl _ _ 22 rfl base 24 i0 (.agg #[.string ⟨#[]⟩, .string ⟨#[]⟩]) 2 32 Try.underlying22 hi0 hz0 hzs hzb rfl (by decide) _ l.length (cellsF l) rfl HO.out ⟨bx, 0, none⟩ 1 1 (encF x) rfl rfl HX.out (encF_one x) (by unfold maxLen; omega) (by omega) hb0 ?_; intro v1 w1 hown1 hgrow1 _)
      all_goals (
        go_ret
        refine ⟨v1, rfl, ?_, hgrow1⟩
        try rw [hlen]
        unfold cellsF
        rw [cellsL_app, cellsL_one]
        exact hown1)
  · obtain ⟨hnl, ⟨rfl, h0⟩ | ⟨g, cap, cur, rfl, hgb, hg, hnc, hcm, hcs, htk⟩⟩ := ho
    · omega
    have hin' : i < l.length := by omega
    have hbg : bx ≠ g := fun e => hne (by rw [e]; rfl)
    obtain ⟨n, hn⟩ : ∃ n, l.length = n := ⟨_, rfl⟩
    rw [hn] at hnl hnc htk hin hin' hi hl hlen ⊢
    have hCL := cellsL_len (n := 2) encF_len l
    have hc63 : cap ≤ 9223372036854775807 := hcm
    have hz2 : ¬ ((i : Int) = (n : Int)) := by omega
    have hw1 : IntKind.i64.wrap ((i : Int) + 1) = (i : Int) + 1 := by rw [IntKind.wrap_i64]; omega
    have hw2 : IntKind.i64.wrap ((n : Int) + 1) = (n : Int) + 1 := by rw [IntKind.wrap_i64]; omega
    have hsz : (Try.prog.info? 24).map (·.size) = some 2 := by rw [hi0]; simp [hzs]
    have hbl : bx < w.heap.size := block_lt hx
    have hgl : g < w.heap.size := block_lt hg
    have hCA : cellsF (l.take i) = (cur.toList.take (n * 2)).take (i * 2) := by rw [htk]; unfold cellsF; exact cellsL_take encF_len l i
    have hCB : cellsF (l.drop i) = (cur.toList.take (n * 2)).drop (i * 2) := by rw [htk]; unfold cellsF; exact cellsL_drop encF_len l i
    have hBl : (cellsF (l.drop i)).length = (n - i) * 2 := by unfold cellsF; rw [cellsL_len (n := 2) encF_len, List.length_drop, hn]
    have hAl : (cellsF (l.take i)).length = i * 2 := by unfold cellsF; rw [cellsL_len (n := 2) encF_len, List.length_take, hn, Nat.min_eq_left (by omega)]
    have hres : cellsF (l.take i ++ x :: l.drop i) = cellsF (l.take i) ++ (encF x ++ cellsF (l.drop i)) := by unfold cellsF; rw [cellsL_app]; unfold cellsL; rw [List.flatMap_cons]
    have h1B : ∀ u ∈ cellsF (l.drop i), u.oneCell' = true := fun u hu => by
      obtain ⟨y, _, hy⟩ := mem_cellsL hu
      exact encF_one y u hy
    have hsrcB : ∀ j u, (cellsF (l.drop i))[j]? = some u → cur[i * 2 + j]? = some u := fun j u hj => by
      rw [hCB, List.getElem?_drop] at hj
      rw [List.getElem?_take] at hj
      split at hj
      · rw [← hj, Array.getElem?_toList]
      · cases hj
    by_cases hroom : n + 1 ≤ cap
    · -- in place
      have hz3 : ¬ ((cap : Int) < (n : Int) + 1) := by omega
      obtain ⟨W1, hW1⟩ : ∃ W1, w.drew.setRow g (cur.toList.take ((i + 1) * 2) ++ cellsF (l.drop i) ++ cur.toList.drop ((i + 1) * 2 + (cellsF (l.drop i)).length)).toArray = W1 := ⟨_, rfl⟩
      obtain ⟨cur1, hcur1⟩ : ∃ cur1, (cur.toList.take ((i + 1) * 2) ++ cellsF (l.drop i) ++ cur.toList.drop ((i + 1) * 2 + (cellsF (l.drop i)).length)).toArray = cur1 := ⟨_, rfl⟩
      rw [hcur1] at hW1
      have hcl : cur.toList.length = cap * 2 := by rw [Array.length_toList, hcs]
      have hfit1 : (i + 1) * 2 + (cellsF (l.drop i)).length ≤ cur.size := by rw [hBl, hcs]; exact fit_shift hin' hroom
      have hcp1 : ∀ ty dc sc, (Builtin.copy_ #[22, 22] ty #[.slice (some ⟨g, (i + 1) * 2, none⟩) (n - i) dc, .slice (some ⟨g, i * 2, none⟩) (n + 1 - i) sc]).run Try.prog w.drew = .ok (goInt ((n - i : Nat) : Int)) W1 := fun ty dc sc => by
        have h := run_copy_rowK (P := Try.prog) 2 w.drew 22 22 ty 24 g ((i + 1) * 2) (n - i) dc ⟨g, i * 2, none⟩ (n + 1 - i) sc cur 24 (cellsF (l.drop i)) (n - i) Try.underlying22 hsz hg (by show min _ _ = _; omega) (by rw [hBl])
          (fun j u hj => by rw [RowsLib.add_plain]; exact (box_cell (w := w) hg (hsrcB j u hj)).1) hfit1 h1B
        rw [hcur1, hW1] at h
        exact h
      have hg1 : W1.heap[g]? = some (.cells cur1 24 (0, 0)) := by rw [← hW1]; exact setRow_heap w.drew g _ _ _ _ hg
      have hx1 : W1.heap[bx]? = some (.cells (encF x).toArray 24 (0, 0)) := by rw [← hW1, setRow_other _ _ _ _ hbg]; exact hx
      have hs1 : cur1.size = cap * 2 := by
        rw [← hcur1, List.size_toArray, List.length_append, List.length_append, List.length_take, List.length_drop, hcl]
        rw [hcs] at hfit1
        omega
      obtain ⟨cur2, hcur2⟩ : ∃ cur2, (cur1.toList.take (i * 2) ++ encF x ++ cur1.toList.drop (i * 2 + (encF x).length)).toArray = cur2 := ⟨_, rfl⟩
      have hfit2 : i * 2 + (encF x).length ≤ cur1.size := by rw [hs1, encF_len x]; exact fit_one hin' hroom
      have hcp2 : ∀ (W : World), W.heap = W1.heap → ∀ ty dc, (Builtin.copy_ #[22, 22] ty #[.slice (some ⟨g, i * 2, none⟩) (n + 1 - i) dc, .slice (some ⟨bx, 0, none⟩) 1 1]).run Try.prog W = .ok (goInt 1) (W.setRow g cur2) := fun W hW ty dc => by
        have h := run_copy_rowK (P := Try.prog) 2 W 22 22 ty 24 g (i * 2) (n + 1 - i) dc ⟨bx, 0, none⟩ 1 1 cur1 24 (encF x) 1 Try.underlying22 hsz (by rw [hW]; exact hg1) (by show min _ _ = _; omega) (by rw [encF_len x])
          (fun j u hj => by rw [RowsLib.add_plain, Nat.zero_add]; exact (box_cell (w := W) (by rw [hW]; exact hx1) (by rw [List.getElem?_toArray]; exact hj)).1) hfit2 (encF_one x)
        rw [hcur2] at h
        exact h
      have hov' : ∀ lb cb, (callFunc 85 #[.slice (some ⟨bx, 0, none⟩) 1 1, .slice (some ⟨g, (i + 1) * 2, none⟩) lb cb]).run Try.prog w = .ok (.value (.bool false)) w := fun lb cb => hov w g bx n 0 cap cur _ hg hx hbg (by rw [hcs]; have := hroom; omega) _ lb cb
      have hfin : cur2.toList.take ((n + 1) * 2) = cellsF (l.take i ++ x :: l.drop i) := by
        rw [← hcur2, ← hcur1, hres, hCA]
        simp only [List.toList_toArray]
        exact shift_row (sz := 2) cur.toList (encF x) (cellsF (l.drop i)) i n cap (encF_len x) hBl hcl hin' hroom
      have hs2 : cur2.size = cap * 2 := by
        rw [← hcur2, List.size_toArray, List.length_append, List.length_append, List.length_take, List.length_drop, Array.length_toList]
        omega
      have HEND : Aside0 (∀ W : World, W.heap = W1.heap → W.os = w.os → W.tape = w.tape → W.output = w.output → (W.setRow g cur2).ownsRow base 24 2 (.slice (some ⟨g, 0, none⟩) (n + 1) cap) (n + 1) (cellsF (l.take i ++ x :: l.drop i)) ∧ w.grownBy (W.setRow g cur2) (Value.slice (some ⟨g, 0, none⟩) n cap).ownBlock) := by
        refine ⟨fun W hW ho2 ht2 hu2 => ⟨⟨?_, .inr ⟨g, cap, cur2, rfl, hgb, ?_, hroom, hcm, hs2, hfin⟩⟩, ⟨ho2, ht2, hu2, ?_, fun k hk hkg => ?_⟩⟩⟩
        · unfold cellsF; rw [cellsL_len (n := 2) encF_len, hlen]
        · exact setRow_heap W g _ _ _ _ (by rw [hW]; exact hg1)
        · rw [setRow_size, hW, ← hW1, setRow_size]; exact Nat.le_refl _
        · have hk2 : k ≠ g := fun e => hkg (by rw [e]; rfl)
          rw [setRow_other _ _ _ _ hk2, hW, ← hW1, setRow_other _ _ _ _ hk2]; rfl
      have hWo : W1.os = w.os ∧ W1.tape = w.tape ∧ W1.output = w.output := by rw [← hW1]; exact ⟨rfl, rfl, rfl⟩
      have H1 := Aside0.mk hcp1
      have H2 := Aside0.mk hcp2
      have HW := Aside0.mk hWo
      clear hcp1 hcp2 hfin hs2 hs1 hfit1 hfit2 hcl hsrcB h1B hres hCA hCB hBl hAl hg1 hx1 hcur1 hcur2 hW1 hxc hx hg htk hcs hne hnl hCL hWo
      try simp only [Nat.mul_one] at H1 H2 hov'
      have hb1 : (0 : Int) ≤ (i : Int) + 1 := by omega
      have htn : ((i : Int) + 1).toNat = i + 1 := by omega
      have htn2 : ((n : Int) + 1).toNat = n + 1 := by omega
      have hb2 : ¬ (cap = i + 1) := by omega
      have hb3 : (i : Int) ≤ (n : Int) + 1 := by omega
      have hb4 : ¬ (cap = i) := by omega
      have hb5 : (n : Int) + 1 ≤ (cap : Int) := by omega
      have hb6 : (i : Int) + 1 ≤ (n : Int) + 1 := by omega
      have hb7 : (i : Int) ≤ (n : Int) := by omega
      go_enter Try.func68, Try.ntmps68
      go_wp2_with (simp only [hov'])
      go_region_law (refine step_copy_runI rfl (.tmp 73) (.tmp 76) 22 22 rfl (.slice (some ⟨g, (i + 1) * 2, none⟩) (n - i) (cap - (i + 1))) (.slice (some ⟨g, i * 2, none⟩) (n + 1 - i) (cap - i)) (by simp [Act.eval, Act.put]) (by simp [Act.eval, Act.put]) (H1.out 3 (cap - (i + 1)) (cap - i)) ?_)
      go_wp2_with (refine wpList_copy_runI _ rfl _ _ 22 22 rfl _ _ rfl rfl (H2.out _ (by first | rfl | simp) _ _) ?_)
      go_ret
      exact ⟨_, rfl, by rw [hlen]; exact (HEND.out _ rfl HW.out.1 HW.out.2.1 HW.out.2.2).1, (HEND.out _ rfl HW.out.1 HW.out.2.1 HW.out.2.2).2⟩
    · -- a new row
      have hz3 : (cap : Int) < (n : Int) + 1 := by omega
      have hkk : (n : Int) + 1 - (i : Int) = ((n + 1 - i : Nat) : Int) := by omega
      have hik : i + (n + 1 - i) = n + 1 := by omega
      obtain ⟨G, hG⟩ : ∃ G, grownCap w (n + 1) cap 24 = G := ⟨_, rfl⟩
      have hGn : n + 1 ≤ G := by rw [← hG]; exact grownCap_ge w _ _ _
      have hGm : G ≤ maxLen := by rw [← hG]; exact grownCap_le_maxLen w (n + 1) cap 24 (by unfold maxLen; omega)
      have hG63 : G ≤ 9223372036854775807 := hGm
      obtain ⟨ROW, hROW⟩ : ∃ ROW : Array Value, (cellsF (l.take i)).toArray ++ Builtin.zeroCells ((.agg #[.string ⟨#[]⟩, .string ⟨#[]⟩]) : Value).cells (n + 1 - i) ++ Builtin.zeroCells ((.agg #[.string ⟨#[]⟩, .string ⟨#[]⟩]) : Value).cells (G - (n + 1)) = ROW := ⟨_, rfl⟩
      have hold : (Builtin.firstCells i0.size i (.slice (some ⟨g, 0, none⟩) i cap)).run Try.prog w.drew = .ok (cellsF (l.take i)).toArray w.drew := by
        rw [hzs]
        exact run_firstCells_some w.drew 2 i ⟨g, 0, none⟩ i cap (cellsF (l.take i)) (by rw [hAl]) (fun j u hj => by
          rw [RowsLib.add_plain, Nat.zero_add]
          rw [hCA, List.take_take, List.getElem?_take] at hj
          split at hj
          · exact (box_cell (w := w) hg (by rw [← hj, Array.getElem?_toList])).1
          · cases hj)
      have hrz : ∀ ty, (Builtin.append_ #[22, 3] ty #[.slice (some ⟨g, 0, none⟩) i cap, .int .i64 ((n : Int) + 1 - (i : Int))]).run Try.prog w =
          .ok (.slice (some ⟨w.heap.size, 0, none⟩) (n + 1) G) (w.drew.alloc (.cells ROW 24)) := fun ty => by
        have h := Lib.run_append_grow_zeros w 22 3 ty 24 i0 _ .i64 .i64 Try.underlying22 Try.underlying3 hi0 hz0 (some ⟨g, 0, none⟩) i cap (cellsF (l.take i)) hold (n + 1 - i) (by omega) (by omega) (by omega) (by omega) (by rw [hzb]; omega) (by rw [hzb, hik]; exact growslice_fits (by omega) (by omega))
        rw [hik] at h
        rw [hkk, ← hROW, ← hG]
        exact h
      have hzl : ((.agg #[.string ⟨#[]⟩, .string ⟨#[]⟩]) : Value).cells.size = 2 := rfl
      have hRs : ROW.size = G * 2 := by
        rw [← hROW, Array.size_append, Array.size_append, List.size_toArray, hAl]
        unfold Builtin.zeroCells
        rw [Array.size_map, Array.size_map, Array.size_range, Array.size_range, hzl, ← Nat.add_mul, ← Nat.add_mul]
        congr 1
        omega
      have hRA : ROW.toList.take (i * 2) = cellsF (l.take i) := by
        rw [← hROW, Array.toList_append, Array.toList_append, List.append_assoc]
        rw [List.take_append_of_le_length (by rw [List.toList_toArray, hAl]; exact Nat.le_refl _), List.toList_toArray, ← hAl, List.take_length]
      obtain ⟨W1, hW1⟩ : ∃ W1, w.drew.alloc (.cells ROW 24) = W1 := ⟨_, rfl⟩
      rw [hW1] at hrz
      have hN1 : W1.heap[w.heap.size]? = some (.cells ROW 24 (0, 0)) := by rw [← hW1]; exact heap_alloc_new w.drew _
      have hold1 : ∀ k, k < w.heap.size → W1.heap[k]? = w.heap[k]? := fun k hk => by rw [← hW1]; exact Below.heap_alloc w.drew _ k hk
      obtain ⟨cur1, hcur1⟩ : ∃ cur1, (ROW.toList.take (i * 2) ++ encF x ++ ROW.toList.drop (i * 2 + (encF x).length)).toArray = cur1 := ⟨_, rfl⟩
      have hfit1 : i * 2 + (encF x).length ≤ ROW.size := by rw [hRs, encF_len x]; exact fit_one hin' hGn
      have hcpA : ∀ (W : World), W.heap = W1.heap → ∀ ty dc, (Builtin.copy_ #[22, 22] ty #[.slice (some ⟨w.heap.size, i * 2, none⟩) (n + 1 - i) dc, .slice (some ⟨bx, 0, none⟩) 1 1]).run Try.prog W = .ok (goInt 1) (W.setRow w.heap.size cur1) := fun W hW ty dc => by
        have h := run_copy_rowK (P := Try.prog) 2 W 22 22 ty 24 w.heap.size (i * 2) (n + 1 - i) dc ⟨bx, 0, none⟩ 1 1 ROW 24 (encF x) 1 Try.underlying22 hsz (by rw [hW]; exact hN1) (by show min _ _ = _; omega) (by rw [encF_len x])
          (fun j u hj => by rw [RowsLib.add_plain, Nat.zero_add]; exact (box_cell (w := W) (by rw [hW, hold1 bx hbl]; exact hx) (by rw [List.getElem?_toArray]; exact hj)).1) hfit1 (encF_one x)
        rw [hcur1] at h
        exact h
      have hs1 : cur1.size = G * 2 := by
        rw [← hcur1, List.size_toArray, List.length_append, List.length_append, List.length_take, List.length_drop, Array.length_toList]
        omega
      obtain ⟨cur2, hcur2⟩ : ∃ cur2, (cur1.toList.take ((i + 1) * 2) ++ cellsF (l.drop i) ++ cur1.toList.drop ((i + 1) * 2 + (cellsF (l.drop i)).length)).toArray = cur2 := ⟨_, rfl⟩
      have hfit2 : (i + 1) * 2 + (cellsF (l.drop i)).length ≤ cur1.size := by rw [hBl, hs1]; exact fit_shift hin' hGn
      have hcpB : ∀ (W : World), W.heap = (W1.setRow w.heap.size cur1).heap → ∀ ty dc sc, (Builtin.copy_ #[22, 22] ty #[.slice (some ⟨w.heap.size, (i + 1) * 2, none⟩) (n - i) dc, .slice (some ⟨g, i * 2, none⟩) (n - i) sc]).run Try.prog W = .ok (goInt ((n - i : Nat) : Int)) (W.setRow w.heap.size cur2) := fun W hW ty dc sc => by
        have h := run_copy_rowK (P := Try.prog) 2 W 22 22 ty 24 w.heap.size ((i + 1) * 2) (n - i) dc ⟨g, i * 2, none⟩ (n - i) sc cur1 24 (cellsF (l.drop i)) (n - i) Try.underlying22 hsz (by rw [hW]; exact setRow_heap W1 _ _ _ _ _ hN1) (by show min _ _ = _; omega) (by rw [hBl])
          (fun j u hj => by rw [RowsLib.add_plain]; exact (box_cell (w := W) (by rw [hW, setRow_other _ _ _ _ (by omega), hold1 g hgl]; exact hg) (hsrcB j u hj)).1) hfit2 h1B
        rw [hcur2] at h
        exact h
      have hfin : cur2.toList.take ((n + 1) * 2) = cellsF (l.take i ++ x :: l.drop i) := by
        rw [← hcur2, ← hcur1, hres, ← hRA]
        simp only [List.toList_toArray]
        exact grow_row (sz := 2) ROW.toList (encF x) (cellsF (l.drop i)) i n (encF_len x) hBl (by rw [Array.length_toList, hRs]; exact Nat.mul_le_mul_right _ hGn) hin'
      have hs2 : cur2.size = G * 2 := by
        rw [← hcur2, List.size_toArray, List.length_append, List.length_append, List.length_take, List.length_drop, Array.length_toList]
        omega
      have HEND : Aside0 (∀ W : World, W.heap = (W1.setRow w.heap.size cur1).heap → W.os = w.os → W.tape = w.tape → W.output = w.output → (W.setRow w.heap.size cur2).ownsRow base 24 2 (.slice (some ⟨w.heap.size, 0, none⟩) (n + 1) G) (n + 1) (cellsF (l.take i ++ x :: l.drop i)) ∧ w.grownBy (W.setRow w.heap.size cur2) (Value.slice (some ⟨g, 0, none⟩) n cap).ownBlock) := by
        have hw1s : W1.heap.size = w.heap.size + 1 := by rw [← hW1]; simp
        refine ⟨fun W hW ho2 ht2 hu2 => ⟨⟨?_, .inr ⟨w.heap.size, G, cur2, rfl, hb0, ?_, hGn, hGm, hs2, hfin⟩⟩, ⟨ho2, ht2, hu2, ?_, fun k hk hkg => ?_⟩⟩⟩
        · unfold cellsF; rw [cellsL_len (n := 2) encF_len, hlen]
        · exact setRow_heap W _ _ _ _ _ (by rw [hW]; exact setRow_heap W1 _ _ _ _ _ hN1)
        · rw [setRow_size, hW, setRow_size, hw1s]; exact Nat.le_succ _
        · rw [setRow_other _ _ _ _ (by omega), hW, setRow_other _ _ _ _ (by omega), hold1 k hk]
      have hWo : W1.os = w.os ∧ W1.tape = w.tape ∧ W1.output = w.output := by rw [← hW1]; exact ⟨rfl, rfl, rfl⟩
      have HZ := Aside0.mk hrz
      have H1 := Aside0.mk hcpA
      have H2 := Aside0.mk hcpB
      have HW := Aside0.mk hWo
      have hgne : g ≠ w.heap.size := by omega
      try simp only [Nat.mul_one] at H1 H2
      clear hcpA hcpB hrz hfin hs2 hs1 hfit1 hfit2 hsrcB h1B hres hCA hCB hBl hAl hN1 hold1 hcur1 hcur2 hxc hx hg htk hcs hne hnl hCL hWo hold hROW hRs hRA hG hkk hik hzl
      have hb1 : (0 : Int) ≤ (i : Int) + 1 := by omega
      have htn : ((i : Int) + 1).toNat = i + 1 := by omega
      have htn2 : ((n : Int) + 1).toNat = n + 1 := by omega
      have hGi : ¬ (G = i) := by omega
      have hGim : ¬ (G = i + 1) := by omega
      have hci : ¬ (cap = i) := by omega
      have hb3 : (i : Int) ≤ (n : Int) := by omega
      have hb4 : (i : Int) ≤ (n : Int) + 1 := by omega
      have hb6 : (i : Int) + 1 ≤ (n : Int) + 1 := by omega
      go_enter Try.func68, Try.ntmps68
      go_upto_region 10 with (at_builtin; refine Lib.wpList_append_run _ rfl _ _ _ _ rfl _ _ rfl rfl _ _ (HZ.out _) ?_)
      go_wp2_with (refine wpList_copy_runI _ rfl _ _ 22 22 rfl _ _ rfl rfl (H1.out _ (by first | rfl | simp) _ _) ?_)
      go_region_law (refine step_copy_runI rfl (.tmp 50) (.tmp 53) 22 22 rfl (.slice (some ⟨w.heap.size, (i + 1) * 2, none⟩) (n - i) (G - (i + 1))) (.slice (some ⟨g, i * 2, none⟩) (n - i) (cap - i)) (by simp [Act.eval, Act.put]) (by simp [Act.eval, Act.put]) (H2.out (World.drew _) (by first | rfl | simp) 3 (G - (i + 1)) (cap - i)) ?_)
      go_wp2_with fail
      go_ret
      have HE := HEND.out ((W1.setRow w.heap.size cur1).drew) rfl HW.out.1 HW.out.2.1 HW.out.2.2
      exact ⟨_, rfl, by rw [hlen]; exact HE.1, HE.2⟩
end Go.Proofs.Ytmocfgghccmdgaa.TrInsF
