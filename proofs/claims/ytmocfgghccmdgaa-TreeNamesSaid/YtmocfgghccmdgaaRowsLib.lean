/- Lists of structs in rows of memory: their cells, one element's cells behind another one's. -/
import Derived.Test.YtmocfgghccmdgaaWWords
import Derived.OwnWalk
namespace Go.Proofs.Ytmocfgghccmdgaa.RowsLib
open Go Go.Proofs Go.RowKit Go.Proofs.YtmocfgghccmdgaaW.PrintWords
set_option linter.unusedVariables false

/-- The cells of a list's elements. -/
def cellsL {α : Type} (f : α → List Value) (l : List α) : List Value := l.flatMap f
theorem cellsL_len {α : Type} {f : α → List Value} {n : Nat} (hf : ∀ x, (f x).length = n) : ∀ l : List α, (cellsL f l).length = l.length * n
  | [] => by simp [cellsL]
  | x :: l => by
    have := cellsL_len hf l
    unfold cellsL at this ⊢
    rw [List.flatMap_cons, List.length_append, this, hf, List.length_cons, Nat.succ_mul]
    omega
theorem cellsL_app {α : Type} (f : α → List Value) (a b : List α) : cellsL f (a ++ b) = cellsL f a ++ cellsL f b := by
  unfold cellsL; rw [List.flatMap_append]
theorem cellsL_one {α : Type} (f : α → List Value) (x : α) : cellsL f [x] = f x := by simp [cellsL]
theorem cellsL_at {α : Type} {f : α → List Value} {n : Nat} (hf : ∀ x, (f x).length = n) {l : List α} {j : Nat} {p : α} (h : l[j]? = some p) : ((cellsL f l).drop (j * n)).take n = f p := by
  obtain ⟨hj, rfl⟩ := List.getElem?_eq_some_iff.1 h
  have e : l = l.take j ++ (l[j] :: l.drop (j + 1)) := by rw [← List.drop_eq_getElem_cons hj, List.take_append_drop]
  have h2 : cellsL f l = cellsL f (l.take j) ++ (f l[j] ++ cellsL f (l.drop (j + 1))) := by
    conv => lhs; rw [e]
    rw [cellsL_app]
    rfl
  have hl : (cellsL f (l.take j)).length = j * n := by rw [cellsL_len hf, List.length_take]; rw [Nat.min_eq_left (by omega)]
  rw [h2, ← hl, List.drop_left, ← hf l[j], List.take_left]
/-- One cell of a list's cells. -/
theorem cellsL_get {α : Type} {f : α → List Value} {n : Nat} (hf : ∀ x, (f x).length = n) {l : List α} {i : Nat} {u : Value} (h : (cellsL f l)[i]? = some u) : ∃ (j k : Nat) (p : α), l[j]? = some p ∧ (f p)[k]? = some u ∧ i = j * n + k ∧ k < n := by
  obtain ⟨hi, _⟩ := List.getElem?_eq_some_iff.1 h
  rw [cellsL_len hf] at hi
  have hn : 0 < n := by
    rcases Nat.eq_zero_or_pos n with h0 | h0
    · subst h0; simp at hi
    · exact h0
  have hj : i / n < l.length := by rw [Nat.div_lt_iff_lt_mul hn]; exact hi
  have hk : i % n < n := Nat.mod_lt _ hn
  have e : i = i / n * n + i % n := by rw [Nat.mul_comm]; exact (Nat.div_add_mod i n).symm
  refine ⟨i / n, i % n, l[i / n], List.getElem?_eq_getElem hj, ?_, e, hk⟩
  rw [← cellsL_at hf (List.getElem?_eq_getElem hj), List.getElem?_take, if_pos hk, List.getElem?_drop, ← e]
  exact h

/-- A row of the call's own, in the print's word. -/
theorem R_of {α : Type} {d : Kd α} {f : α → List Value} {n : Nat} (hf : ∀ x, (f x).length = n) (hs : d.sz = n) {T : TypeId} {w : World} {base B : Nat} {v : Value} {l : List α} (hM : ∀ ok x, d.M w B ok x (f x))
    (h : w.ownsRow base T n v l.length (cellsL f l)) (hB : B ≤ base) : Kd.R d T w B (fun _ => True) v l := by
  subst hs
  refine ⟨fun _ _ => trivial, cellsL f l, ⟨h.1, ?_⟩, ?_⟩
  · rcases h.2 with h0 | ⟨g, cap, cur, h1, h2, h3⟩
    · exact .inl h0
    · exact .inr ⟨g, cap, cur, h1, Nat.le_trans hB h2, h3⟩
  · refine ⟨cellsL_len hf l, fun j p hj => ?_⟩
    rw [cellsL_at hf hj]
    exact hM _ p

theorem add_plain (b off j : Nat) : (⟨b, off, none⟩ : Addr).add j = ⟨b, off + j, none⟩ := by
  unfold Addr.add
  split
  · rename_i h; subst h; rfl
  · rfl
theorem add_add (b : Addr) (p q : Nat) : (b.add p).add q = b.add (p + q) := by
  unfold Addr.add
  rcases Nat.eq_zero_or_pos p with rfl | hp
  · simp
  · rcases Nat.eq_zero_or_pos q with rfl | hq
    · simp
    · rw [if_neg (by omega), if_neg (by omega), if_neg (by omega)]
      simp [Nat.add_assoc]
/-- The cells of a list that came in, as they lie. -/
theorem C_cells {α : Type} {d : Kd α} {f : α → List Value} {n : Nat} (hf : ∀ x, (f x).length = n) (hs : d.sz = n) (hK : ∀ {w x cs}, d.K w x cs → cs = f x) {w : World} {ad : Addr} {l : List α} (h : Kd.C d w (some ad) l.length l) :
    ∀ (i : Nat) (u : Value), (cellsL f l)[i]? = some u → w.cell? (ad.add i) = some u := by
  subst hs
  intro i u hu
  obtain ⟨j, k, p, hj, hk, rfl, hkn⟩ := cellsL_get hf hu
  obtain ⟨hj1, hj2⟩ := List.getElem?_eq_some_iff.1 hj
  obtain ⟨ad2, cs, e, hl, hKK, hc⟩ := Kd.C_get h p (j : Int) (by omega) (by omega)
  obtain rfl := Option.some.inj e
  have hg : l.getD (j : Int).toNat p = p := by simp [List.getD, hj]
  rw [hg] at hKK
  obtain rfl := hK hKK
  exact hc k u hk
theorem mem_cellsL {α : Type} {f : α → List Value} {l : List α} {u : Value} (h : u ∈ cellsL f l) : ∃ x ∈ l, u ∈ f x := List.mem_flatMap.1 h
end Go.Proofs.Ytmocfgghccmdgaa.RowsLib
