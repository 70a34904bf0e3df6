/- copy at elements of any size, rows of memory; a row that is shifted. -/
import Derived.Test.YtmocfgghccmdgaaTrLib
import Derived.Laws.CopyRow
import Derived.Laws.IdiomCopy
import Derived.Laws.NewBlocks
import Derived.Lib.SliceRun
import Derived.Lib.Walk
import Derived.Lib.AppendZerosOnto
import Derived.Lib.Overlaps
import Derived.Laws.Externs
namespace Go.Proofs.Ytmocfgghccmdgaa.TrCopy
open Go Go.Proofs Go.RowKit Go.Lib Go.Proofs.Ytmocfgghccmdgaa.RowsLib Go.Proofs.Ytmocfgghccmdgaa.TrLib
set_option linter.unusedVariables false
set_option linter.unusedSimpArgs false

section
variable {P : Program}
theorem run_copy_rowK (size : Nat) (w : World) (dT sT ty elem : TypeId) (g o dLen dCap : Nat) (a : Addr) (sLen sCap : Nat) (cur : Array Value) (t : TypeId) (cs : List Value) (m : Nat)
    (hu : P.underlying dT = some (.slice elem)) (hs : (P.info? elem).map (·.size) = some size)
    (hg : w.heap[g]? = some (.cells cur t (0, 0))) (hm : Nat.min sLen dLen = m) (hn : cs.length = m * size)
    (hsrc : ∀ j v, cs[j]? = some v → w.cell? (a.add j) = some v) (hfit : o + cs.length ≤ cur.size) (h1 : ∀ v ∈ cs, v.oneCell' = true) :
    (Builtin.copy_ #[dT, sT] ty #[.slice (some ⟨g, o, none⟩) dLen dCap, .slice (some a) sLen sCap]).run P w =
      .ok (goInt m) (w.setRow g (cur.toList.take o ++ cs ++ cur.toList.drop (o + cs.length)).toArray) := by
  have hl := run_loadCells_list (P := P) w a cs hsrc
  have hst := run_storeCells_at P g o t cs 0 cur w hg (by simpa using hfit) h1
  cases hq : P.info? elem with
  | none => simp [hq] at hs
  | some i =>
    have hi : i.size = size := by simpa [hq] using hs
    rw [hn] at hl
    simp [Builtin.copy_, run_underlying hu, Builtin.lenOf, Builtin.firstCells, sizeOf, typeInfo, hq, hi, hm, hl, hst]

theorem wp_copy_runI (w : World) {o : Oper} {a : Act} {K : Act → World → Prop} {Q : Exit → Act → World → Prop} (d s : Operand) (t t' : TypeId)
    (ho : o.op = .call { callee := .builtin .copy, args := #[d, s], argTypes := #[t, t'] }) (v u : Value) (hd : a.eval d = v) (hs : a.eval s = u) {v' : Value} {w' : World}
    (hr : (Builtin.copy_ #[t, t'] o.type #[v, u]).run P w = .ok v' w') (h : K (a.put o.dst v') w') : o.wp P a w K Q := by
  unfold Oper.wp execOp
  simp only [ho, resolve, invoke, builtin, Sem.run_bind, Sem.run_pure, Result.andThen_ok, List.map_toArray, List.map_cons, List.map_nil, hd, hs, hr]
  exact h
theorem wpList_copy_runI (w : World) {ops : Array Oper} {rest : List Oper} {o : Oper} {a : Act} {Q : Exit → Act → World → Prop} (hgd : o.guard = none) (d s : Operand) (t t' : TypeId)
    (ho : o.op = .call { callee := .builtin .copy, args := #[d, s], argTypes := #[t, t'] }) (v u : Value) (hd : a.eval d = v) (hs : a.eval s = u) {v' : Value} {w' : World}
    (hr : (Builtin.copy_ #[t, t'] o.type #[v, u]).run P w = .ok v' w') (h : wpList P ops Q rest (a.put o.dst v') w') : wpList P ops Q (o :: rest) a w :=
  wpList_plain hgd fun _ hK => wp_copy_runI w d s t t' ho v u hd hs hr (hK _ _ h)
theorem step_copy_runI {ops : Array Oper} {o : Oper} {a : Act} {w : World} {K : Act → World → Prop} {Q : Exit → Act → World → Prop} {E : Prop}
    (hg : o.guard = none) (d x : Operand) (dT sT : TypeId) (hop : o.op = Op.call { callee := Callee.builtin Builtin.copy, args := #[d, x], argTypes := #[dT, sT] })
    (v u : Value) (hd : a.eval d = v) (hx : a.eval x = u) {v' : Value} {w' : World} (hr : (Builtin.copy_ #[dT, sT] o.type #[v, u]).run P w = .ok v' w') (hK : K (a.put o.dst v') w') :
    if Region.wanted o (yielded ops a.tmps) = true then Oper.wp P o a w K Q else E := by
  have hw : Region.wanted o (yielded ops a.tmps) = true := by simp [Region.wanted, hg]
  rw [if_pos hw]
  unfold Oper.wp
  simp [execOp, hop, resolve, invoke, builtin, hd, hx, hr, Result.andThen]
  exact hK
end

theorem cellsL_take {α : Type} {f : α → List Value} {n : Nat} (hf : ∀ x, (f x).length = n) (l : List α) (i : Nat) : cellsL f (l.take i) = (cellsL f l).take (i * n) := by
  by_cases h : i ≤ l.length
  · have e : cellsL f l = cellsL f (l.take i) ++ cellsL f (l.drop i) := by rw [← cellsL_app, List.take_append_drop]
    have hl : (cellsL f (l.take i)).length = i * n := by rw [cellsL_len hf, List.length_take, Nat.min_eq_left h]
    rw [e, ← hl, List.take_left]
  · rw [List.take_of_length_le (by omega), List.take_of_length_le]
    rw [cellsL_len hf]
    exact Nat.mul_le_mul_right _ (by omega)
theorem cellsL_drop {α : Type} {f : α → List Value} {n : Nat} (hf : ∀ x, (f x).length = n) (l : List α) (i : Nat) : cellsL f (l.drop i) = (cellsL f l).drop (i * n) := by
  by_cases h : i ≤ l.length
  · have e : cellsL f l = cellsL f (l.take i) ++ cellsL f (l.drop i) := by rw [← cellsL_app, List.take_append_drop]
    have hl : (cellsL f (l.take i)).length = i * n := by rw [cellsL_len hf, List.length_take, Nat.min_eq_left h]
    rw [e, ← hl, List.drop_left]
  · rw [List.drop_of_length_le (by omega), List.drop_of_length_le]
    · rfl
    · rw [cellsL_len hf]
      exact Nat.mul_le_mul_right _ (by omega)
theorem fit_shift {i n cap sz : Nat} (h : i < n) (hr : n + 1 ≤ cap) : (i + 1) * sz + (n - i) * sz ≤ cap * sz := by
  rw [← Nat.add_mul]
  exact Nat.mul_le_mul_right _ (by omega)
theorem fit_one {i n cap sz : Nat} (h : i < n) (hr : n + 1 ≤ cap) : i * sz + sz ≤ cap * sz := by
  have : (i + 1) * sz ≤ cap * sz := Nat.mul_le_mul_right _ (by omega)
  rw [Nat.add_mul, Nat.one_mul] at this
  exact this
theorem shift_row {sz : Nat} (C X Bs : List Value) (i n cap : Nat) (hX : X.length = sz) (hB : Bs.length = (n - i) * sz) (hC : C.length = cap * sz) (hi : i < n) (hr : n + 1 ≤ cap) :
    ((C.take ((i + 1) * sz) ++ Bs ++ C.drop ((i + 1) * sz + Bs.length)).take (i * sz) ++ X ++ (C.take ((i + 1) * sz) ++ Bs ++ C.drop ((i + 1) * sz + Bs.length)).drop (i * sz + X.length)).take ((n + 1) * sz) = (C.take (n * sz)).take (i * sz) ++ (X ++ Bs) := by
  have e1 : (i + 1) * sz = i * sz + sz := by rw [Nat.add_mul, Nat.one_mul]
  have e2 : (n + 1) * sz = i * sz + sz + (n - i) * sz := by rw [← Nat.succ_mul, ← Nat.add_mul]; congr 1; omega
  have h3 : i * sz + sz ≤ C.length := by rw [hC, ← e1]; exact Nat.mul_le_mul_right _ (by omega)
  have h4 : i * sz ≤ n * sz := Nat.mul_le_mul_right _ (by omega)
  have hT : (C.take ((i + 1) * sz)).length = i * sz + sz := by rw [List.length_take, e1]; omega
  have a1 : (C.take ((i + 1) * sz) ++ Bs ++ C.drop ((i + 1) * sz + Bs.length)).take (i * sz) = C.take (i * sz) := by
    rw [List.append_assoc, List.take_append_of_le_length (by omega), List.take_take, Nat.min_eq_left (by omega)]
  have a2 : (C.take ((i + 1) * sz) ++ Bs ++ C.drop ((i + 1) * sz + Bs.length)).drop (i * sz + X.length) = Bs ++ C.drop ((i + 1) * sz + Bs.length) := by
    rw [List.append_assoc, hX, ← hT, List.drop_left]
  rw [a1, a2, List.take_take, Nat.min_eq_left h4, ← List.append_assoc, ← List.append_assoc, e2]
  have hlen : (C.take (i * sz) ++ X ++ Bs).length = i * sz + sz + (n - i) * sz := by
    rw [List.length_append, List.length_append, List.length_take, hX, hB]
    omega
  rw [← hlen, List.take_left]
theorem grow_row {sz : Nat} (C X Bs : List Value) (i n : Nat) (hX : X.length = sz) (hB : Bs.length = (n - i) * sz) (hC : (n + 1) * sz ≤ C.length) (hi : i < n) :
    ((C.take (i * sz) ++ X ++ C.drop (i * sz + X.length)).take ((i + 1) * sz) ++ Bs ++ (C.take (i * sz) ++ X ++ C.drop (i * sz + X.length)).drop ((i + 1) * sz + Bs.length)).take ((n + 1) * sz) = C.take (i * sz) ++ (X ++ Bs) := by
  have e1 : (i + 1) * sz = i * sz + sz := by rw [Nat.add_mul, Nat.one_mul]
  have e2 : (n + 1) * sz = i * sz + sz + (n - i) * sz := by rw [← Nat.succ_mul, ← Nat.add_mul]; congr 1; omega
  have hT : (C.take (i * sz)).length = i * sz := by rw [List.length_take]; omega
  have hTX : (C.take (i * sz) ++ X).length = (i + 1) * sz := by rw [List.length_append, hT, hX, e1]
  have a1 : (C.take (i * sz) ++ X ++ C.drop (i * sz + X.length)).take ((i + 1) * sz) = C.take (i * sz) ++ X := by rw [← hTX, List.take_left]
  have hl : (C.take (i * sz) ++ X ++ Bs).length = (n + 1) * sz := by rw [List.length_append, hTX, hB, e1, e2]
  rw [a1, ← hl, List.take_left, List.append_assoc]
end Go.Proofs.Ytmocfgghccmdgaa.TrCopy

