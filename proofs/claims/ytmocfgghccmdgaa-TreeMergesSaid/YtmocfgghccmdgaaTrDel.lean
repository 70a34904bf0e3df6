/- slices.Delete of one file of a row of the call's own: the walk. -/
import Derived.Test.YtmocfgghccmdgaaTrCopy
import Derived.Deep.RegionLaw
namespace Go.Proofs.Ytmocfgghccmdgaa.TrDel
open Go Go.Proofs Go.RowKit Go.Lib Go.Proofs.YtmocfgghccmdgaaW.PrintWords Go.Proofs.Ytmocfgghccmdgaa.RowsLib Go.Proofs.Ytmocfgghccmdgaa.TrLib Go.Proofs.Ytmocfgghccmdgaa.TrCopy
set_option linter.unusedVariables false
set_option linter.unusedSimpArgs false

theorem setCells_row {w : World} {g o : Nat} {cur : Array Value} {t : TypeId} {cs : List Value} (hg : w.heap[g]? = some (.cells cur t (0, 0))) (hfit : o + cs.length ≤ cur.size) (h1 : ∀ u ∈ cs, u.oneCell' = true) :
    w.setCells g o cs = w.setRow g (cur.toList.take o ++ cs ++ cur.toList.drop (o + cs.length)).toArray := by
  have a := run_storeCells_at Try.prog g o t cs 0 cur w hg (by simpa using hfit) h1
  have b := run_storeCells_cells (P := Try.prog) g o cs 0 w (fun j hj => by
      have : o + 0 + j < cur.size := by omega
      rw [(box_cell hg (Array.getElem?_eq_getElem this)).1]; rfl) (fun j hj => by
      have : o + 0 + j < cur.size := by omega
      exact (box_cell hg (Array.getElem?_eq_getElem this)).2) h1
  rw [a] at b
  injection b with _ b
  rw [Nat.add_zero] at b
  exact b.symm

theorem run_clear_two (w : World) (ty : TypeId) (g o c : Nat) (cur : Array Value) (hg : w.heap[g]? = some (.cells cur 24 (0, 0))) (hfit : o + 2 ≤ cur.size) :
    (Builtin.clear_ #[22] ty #[.slice (some ⟨g, o, none⟩) 1 c]).run Try.prog w = .ok (.tuple #[]) (w.setRow g (cur.toList.take o ++ [Value.string ⟨#[]⟩, Value.string ⟨#[]⟩] ++ cur.toList.drop (o + 2)).toArray) := by
  have hv : ∀ w, (zeroValue 24).run Try.prog w = .ok (.agg #[.string ⟨#[]⟩, .string ⟨#[]⟩]) w := fun w => by kernel_rfl
  have hzc : (Builtin.zeroCells (Value.agg #[.string ⟨#[]⟩, .string ⟨#[]⟩]).cells 1).toList = [.string ⟨#[]⟩, .string ⟨#[]⟩] := by kernel_rfl
  have a := run_storeCells_at Try.prog g o 24 [.string ⟨#[]⟩, .string ⟨#[]⟩] 0 cur w hg (by simpa using hfit) (by intro v hv; simp at hv; subst hv; rfl)
  simp only [Nat.add_zero] at a
  simp [Builtin.clear_, run_underlying Try.underlying22, hv, hzc, a]

theorem del_row {sz : Nat} (C A Bs Z : List Value) (i n cap : Nat) (hZ : Z.length = sz) (hA : A = C.take (i * sz)) (hB : Bs.length = (n - (i + 1)) * sz) (hC : C.length = cap * sz) (hi : i < n) (hr : n ≤ cap) :
    ((C.take (i * sz) ++ Bs ++ C.drop (i * sz + Bs.length)).take ((n - 1) * sz) ++ Z ++ (C.take (i * sz) ++ Bs ++ C.drop (i * sz + Bs.length)).drop ((n - 1) * sz + sz)).take ((n - 1) * sz) = A ++ Bs := by
  have h3 : i * sz ≤ C.length := by rw [hC]; exact Nat.mul_le_mul_right _ (by omega)
  have hT : (C.take (i * sz)).length = i * sz := by rw [List.length_take]; omega
  have e : i * sz + (n - (i + 1)) * sz = (n - 1) * sz := by rw [← Nat.add_mul]; congr 1; omega
  have hAB : (C.take (i * sz) ++ Bs).length = (n - 1) * sz := by rw [List.length_append, hT, hB, e]
  have a1 : (C.take (i * sz) ++ Bs ++ C.drop (i * sz + Bs.length)).take ((n - 1) * sz) = C.take (i * sz) ++ Bs := by rw [← hAB, List.take_left]
  rw [a1, List.append_assoc, List.take_append_of_le_length (by omega), ← hAB, List.take_length, hA]

set_option maxHeartbeats 8000000 in
set_option maxRecDepth 100000 in
theorem Delete_calls (base : Nat) (v : Value) (l : List Fl) (i : Nat) (w : World) (ho : w.ownsRow base 24 2 v l.length (cellsF l)) (hi : i < l.length) :
    Calls Try.prog 80 #[v, .int .i64 i, .int .i64 ((i + 1 : Nat) : Int)] w fun e w' =>
      ∃ v', e = .returned v' ∧ w'.ownsRow base 24 2 v' (l.take i ++ l.drop (i + 1)).length (cellsF (l.take i ++ l.drop (i + 1))) ∧ w.grownBy w' v.ownBlock := by
  obtain ⟨i0, hi0, hz0, hzs, hzb⟩ := info_parts infoF
  obtain ⟨hnl, ⟨rfl, h0⟩ | ⟨g, cap, cur, rfl, hgb, hg, hnc, hcm, hcs, htk⟩⟩ := ho
  · omega
  have hlen : (l.take i ++ l.drop (i + 1)).length = l.length - 1 := by simp; omega
  obtain ⟨n, hn⟩ : ∃ n, l.length = n := ⟨_, rfl⟩
  rw [hn] at hnl hnc htk hi hlen ⊢
  have hc63 : cap ≤ 9223372036854775807 := hcm
  have hCA : cellsF (l.take i) = cur.toList.take (i * 2) := by
    unfold cellsF
    rw [cellsL_take (n := 2) encF_len l i, show cellsL encF l = cellsF l from rfl, ← htk, List.take_take, Nat.min_eq_left (Nat.mul_le_mul_right _ (by omega))]
  have hCB : cellsF (l.drop (i + 1)) = (cur.toList.take (n * 2)).drop ((i + 1) * 2) := by rw [htk]; unfold cellsF; exact cellsL_drop (n := 2) encF_len l (i + 1)
  have hBl : (cellsF (l.drop (i + 1))).length = (n - (i + 1)) * 2 := by rw [cellsF_len, List.length_drop, hn]
  have hcl : cur.toList.length = cap * 2 := by rw [Array.length_toList, hcs]
  have h1B := cellsF_one (l.drop (i + 1))
  obtain ⟨Bs, hBs⟩ : ∃ Bs, cellsF (l.drop (i + 1)) = Bs := ⟨_, rfl⟩
  have hres : cellsF (l.take i ++ l.drop (i + 1)) = cellsF (l.take i) ++ Bs := by rw [cellsF_app, hBs]
  rw [hBs] at hCB hBl h1B
  have hsrcB : ∀ j u, Bs[j]? = some u → cur[(i + 1) * 2 + j]? = some u := fun j u hj => by
    rw [hCB, List.getElem?_drop, List.getElem?_take] at hj
    split at hj
    · rw [← hj, Array.getElem?_toList]
    · cases hj
  obtain ⟨A, hA, hsrc⟩ : ∃ A : Addr, (if cap = i + 1 then some (⟨g, 0, none⟩ : Addr) else some ⟨g, (i + 1) * 2, none⟩) = some A ∧ ∀ j u, Bs[j]? = some u → w.drew.cell? (A.add j) = some u := by
    by_cases h : cap = i + 1
    · refine ⟨⟨g, 0, none⟩, by rw [if_pos h], fun j u hj => ?_⟩
      have : Bs.length = 0 := by rw [hBl, show n - (i + 1) = 0 from by omega]
      rw [List.length_eq_zero_iff.1 this] at hj
      cases hj
    · refine ⟨⟨g, (i + 1) * 2, none⟩, by rw [if_neg h], fun j u hj => ?_⟩
      rw [RowsLib.add_plain]
      exact (box_cell (w := w) hg (hsrcB j u hj)).1
  have hfit1 : i * 2 + Bs.length ≤ cur.size := by rw [hBl, hcs]; omega
  obtain ⟨cur1, hcur1⟩ : ∃ cur1, (cur.toList.take (i * 2) ++ Bs ++ cur.toList.drop (i * 2 + Bs.length)).toArray = cur1 := ⟨_, rfl⟩
  have hs1 : cur1.size = cap * 2 := by
    rw [← hcur1, List.size_toArray, List.length_append, List.length_append, List.length_take, List.length_drop, hcl]
    omega
  have hset : w.drew.setCells g (0 + i * 2) Bs = w.drew.setRow g cur1 := by
    rw [Nat.zero_add, setCells_row (w := w.drew) hg hfit1 h1B, hcur1]
  obtain ⟨W1, hW1⟩ : ∃ W1, w.drew.setRow g cur1 = W1 := ⟨_, rfl⟩
  rw [hW1] at hset
  have hg1 : W1.heap[g]? = some (.cells cur1 24 (0, 0)) := by rw [← hW1]; exact setRow_heap w.drew g _ _ _ _ hg
  obtain ⟨cur2, hcur2⟩ : ∃ cur2, (cur1.toList.take ((n - 1) * 2) ++ [Value.string ⟨#[]⟩, Value.string ⟨#[]⟩] ++ cur1.toList.drop ((n - 1) * 2 + 2)).toArray = cur2 := ⟨_, rfl⟩
  have hcl2 : ∀ ty c, (Builtin.clear_ #[22] ty #[.slice (some ⟨g, (n - 1) * 2, none⟩) 1 c]).run Try.prog W1 = .ok (.tuple #[]) (W1.setRow g cur2) := fun ty c => by
    rw [← hcur2]
    exact run_clear_two W1 ty g ((n - 1) * 2) c cur1 hg1 (by rw [hs1]; omega)
  have hs2 : cur2.size = cap * 2 := by
    rw [← hcur2, List.size_toArray, List.length_append, List.length_append, List.length_take, List.length_drop, Array.length_toList, hs1]
    simp only [List.length_cons, List.length_nil]
    omega
  have hfin : cur2.toList.take ((n - 1) * 2) = cellsF (l.take i ++ l.drop (i + 1)) := by
    rw [← hcur2, ← hcur1, hres]
    simp only [List.toList_toArray]
    exact del_row (sz := 2) cur.toList (cellsF (l.take i)) Bs _ i n cap rfl hCA hBl hcl hi hnc
  have hend : (W1.setRow g cur2).ownsRow base 24 2 (.slice (some ⟨g, 0, none⟩) (n - 1) cap) (n - 1) (cellsF (l.take i ++ l.drop (i + 1))) ∧ w.grownBy (W1.setRow g cur2) (Value.slice (some ⟨g, 0, none⟩) n cap).ownBlock := by
    refine ⟨⟨by rw [cellsF_len, hlen], .inr ⟨g, cap, cur2, rfl, hgb, setRow_heap W1 g _ _ _ _ hg1, by omega, hcm, hs2, hfin⟩⟩, ⟨by rw [← hW1]; rfl, by rw [← hW1]; rfl, by rw [← hW1]; rfl, ?_, fun k hk hkg => ?_⟩⟩
    · rw [setRow_size, ← hW1, setRow_size]; exact Nat.le_refl _
    · have hk2 : k ≠ g := fun e => hkg (by rw [e]; rfl)
      rw [setRow_other _ _ _ _ hk2, ← hW1, setRow_other _ _ _ _ hk2]; rfl
  have HEND := Aside0.mk hend
  have HSET := Aside0.mk hset
  have HSRC := Aside0.mk hsrc
  have HB := Aside0.mk hBl
  have H1B := Aside0.mk h1B
  have HSP : Aside0 (∀ j, j < Bs.length → (w.drew.cell? ⟨g, 0 + i * 2 + j, none⟩).isSome = true ∧ w.drew.frozen? ⟨g, 0 + i * 2 + j, none⟩ = false) := by
    refine ⟨fun j hj => ?_⟩
    have hlt : 0 + i * 2 + j < cur.size := by omega
    have := box_cell (w := w.drew) hg (Array.getElem?_eq_getElem hlt)
    exact ⟨by rw [this.1]; rfl, this.2⟩
  have hw1 : ((i + 1 : Nat) : Int) = (i : Int) + 1 := by omega
  have hz1 : ¬ ((i : Int) = ((i + 1 : Nat) : Int)) := by omega
  have hic : i ≤ cap := by omega
  have hjc : i + 1 ≤ cap := by omega
  have hin : i ≤ n := by omega
  have hin2 : i + 1 ≤ n := by omega
  have hin3 : i ≤ i + 1 := by omega
  have hn1 : i + (n - (i + 1)) = n - 1 := by omega
  have hn2 : n - (n - 1) = 1 := by omega
  have hn3 : n - 1 ≤ cap := by omega
  have hn4 : ¬ (cap = n - 1) := by omega
  have hn5 : n - 1 ≤ n := by omega
  have hb1 : (0 : Int) ≤ (i : Int) + 1 := by omega
  have hb2 : (i : Int) + 1 ≤ (n : Int) := by omega
  have hb3 : (i : Int) ≤ (i : Int) + 1 := by omega
  have hb4 : ((n : Int) - 1 : Int) = ((n - 1 : Nat) : Int) := by omega
  clear hend hset hsrc hBl h1B hfin hs2 hs1 hfit1 hcl hcur1 hcur2 hg hg1 htk hcs hnl hsrcB hres hCA hCB hW1 hBs
  go_enter Try.func80, Try.ntmps80
  go_wp2_with fail
  go_region_law (refine step_append_room rfl (.tmp 22) (.tmp 25) 22 rfl 24 i0 2 Try.underlying22 hi0 hzs g 0 i cap (by simp [Act.eval, Act.put]) A (n - (i + 1)) (cap - (i + 1)) Bs (by simp [Act.eval, Act.put, hA]) HB.out HSRC.out H1B.out (by omega) HSP.out ?_; rw [HSET.out])
  go_wp2_with fail
  go_ret
  exact ⟨_, rfl, by rw [hlen]; exact HEND.out.1, HEND.out.2⟩
end Go.Proofs.Ytmocfgghccmdgaa.TrDel
