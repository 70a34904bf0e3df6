/- Expressions in plain words: what Check takes, the reference's walk from the last node down takes, and counts as deep. -/
import Derived.Test.YtjndccjpjknbkaaDoorExLaw2
namespace Go.Proofs.YtjndccjpjknbkaaDoor.ExLaw3
open Go Go.Proofs Go.RowKit Go.Proofs.YtjndccjpjknbkaaDoor.ExNode Go.Proofs.YtjndccjpjknbkaaDoor.ExTag Go.Proofs.YtjndccjpjknbkaaDoor.ExSem Go.Proofs.YtjndccjpjknbkaaDoor.ExLaw Go.Proofs.YtjndccjpjknbkaaDoor.ExLaw2 Go.Proofs.YtjndccjpjknbkaaDoor.ExBoth
open Go.Proofs.YtjndccjpjknbkaaDoor.ExCheck (checkF goC stepC badF namesF aF bF depF step_good step_bad)
set_option linter.unusedVariables false

/-- More rounds than places change nothing. -/
theorem whole_fuel (l : List Nd) : ∀ (n m a : Nat), a < n → a < m → wholeF l n a = wholeF l m a
  | 0, _, a, h, _ => absurd h (Nat.not_lt_zero _)
  | _ + 1, 0, a, _, h => absurd h (Nat.not_lt_zero _)
  | n + 1, m + 1, a, h1, h2 => by
    rw [wholeF, wholeF]
    cases hx : l[a]? with
    | none => rfl
    | some x =>
      simp only
      split
      · rfl
      · split
        · split
          · rename_i hc
            rw [whole_fuel l n m (a - 1) (by omega) (by omega)]
          · rfl
        · split
          · rename_i hc
            have e := whole_fuel l n m (a - 1) (by omega) (by omega)
            rw [e]
            split
            · rename_i hd
              have hle : (wholeF l m (a - 1)).1 ≤ ((a - 1 : Nat) : Int) := by
                rcases Int.lt_or_le (wholeF l m (a - 1)).1 0 with h0 | h0
                · omega
                · obtain ⟨f, hf, hfa, _⟩ := whole_steps l m (a - 1) _ _ rfl h0
                  rw [hf]; omega
              rw [whole_fuel l n m ((wholeF l m (a - 1)).1 - 1).toNat (by omega) (by omega)]
            · rfl
          · rfl
/-- The open nodes: each one's nodes begin where the one's ahead of it end. -/
inductive Stk (l : List Nd) : List Int → List Int → Int → Prop
  | nil : Stk l [] [] 0
  | snoc {o d : List Int} {f : Int} (y : Nat) (p : Int) (h : Stk l o d f) (hw : wholeF l (y + 1) y = (f, p)) : Stk l (o ++ [(y : Int)]) (d ++ [p]) ((y : Int) + 1)
theorem stk_end {l : List Nd} {o d : List Int} {e : Int} (h : Stk l o d e) : 0 ≤ e ∧ o.length = d.length := by
  cases h with
  | nil => exact ⟨Int.le_refl _, rfl⟩
  | snoc y p h hw =>
    refine ⟨by omega, ?_⟩
    have : ∀ {o d : List Int} {f : Int}, Stk l o d f → o.length = d.length := by
      intro o d f hs
      induction hs with
      | nil => rfl
      | snoc y p _ _ ih => simp [ih]
    simp [this h]
theorem stk_inv {l : List Nd} {o d : List Int} {y p e : Int} (h : Stk l (o ++ [y]) (d ++ [p]) e) : ∃ (n : Nat) (f : Int), y = (n : Int) ∧ e = y + 1 ∧ Stk l o d f ∧ wholeF l (n + 1) n = (f, p) := by
  generalize ho : o ++ [y] = o' at h
  generalize hd : d ++ [p] = d' at h
  cases h with
  | nil => simp at ho
  | snoc n q h hw =>
    obtain ⟨rfl, h1⟩ := List.append_inj' ho rfl
    obtain ⟨rfl, h2⟩ := List.append_inj' hd rfl
    injection h1 with h1
    injection h2 with h2
    subst h1 h2
    exact ⟨n, _, rfl, rfl, h, hw⟩
theorem tag_of_good {o : List Int} {n : Nd} (h : badF o n = false) : (n.kind = 0 → tagOk n.tag = true) ∧ (0 < n.kind → n.tag.toList = []) := by
  unfold badF at h
  simp only [Bool.or_eq_false_iff, decide_eq_false_iff_not] at h
  obtain ⟨⟨⟨⟨h1, h2⟩, h3⟩, h4⟩, h5⟩ := h
  refine ⟨fun hk => ?_, fun hk => ?_⟩
  · have e : (n.kind == 0) = true := by rw [hk]; rfl
    rw [e] at h4
    simpa using h4
  · rw [decide_eq_true hk] at h5
    simpa using h5
theorem snoc_of {α : Type} {l : List α} {n : Nat} (h : l.length = n + 1) : ∃ q x, l = q ++ [x] ∧ q.length = n := by
  refine ⟨l.take n, l[n], ?_, by simp; omega⟩
  rw [← List.take_succ_eq_append_getElem (by omega), List.take_of_length_le (by omega)]
theorem stk_step {l : List Nd} {o d o' d' : List Int} {i : Nat} {n : Nd} (hs : Stk l o d (i : Int)) (hn : l[i]? = some n) (h : stepC o d i n = some (o', d')) : Stk l o' d' ((i : Int) + 1) := by
  obtain ⟨_, hlen⟩ := stk_end hs
  obtain ⟨nm, K, hb, hnm, hnm2, h0, h3, hK, ha, hbb, rfl, rfl⟩ := step_some h
  obtain ⟨t0, t1⟩ := tag_of_good hb
  obtain ⟨k, t, xa, xb⟩ := n
  simp only at ha hbb hnm h0 h3 t0 t1
  have hW : wholeF l (i + 1) i = if k = 0 then (if tagOk t = true ∧ xa = 0 ∧ xb = 0 then ((i : Int), 1) else (-1, 0))
      else if k = 1 then (if t.toList = [] ∧ xb = 0 ∧ xa = (i : Int) - 1 ∧ 0 < i then ((wholeF l i (i - 1)).1, (wholeF l i (i - 1)).2 + 1) else (-1, 0))
      else if (k = 2 ∨ k = 3) ∧ t.toList = [] ∧ xb = (i : Int) - 1 ∧ 1 < i then
        (if 0 < (wholeF l i (i - 1)).1 ∧ xa = (wholeF l i (i - 1)).1 - 1 then ((wholeF l i ((wholeF l i (i - 1)).1 - 1).toNat).1, max (wholeF l i (i - 1)).2 (wholeF l i ((wholeF l i (i - 1)).1 - 1).toNat).2 + 1) else (-1, 0))
      else (-1, 0) := by
    rw [wholeF, hn]
  have hk4 : k = 0 ∨ k = 1 ∨ k = 2 ∨ k = 3 := by omega
  rcases hk4 with rfl | rfl | hk
  · have e0 : nm = 0 := by have : ((0 : Nat) : Int) = (nm : Int) := hnm; omega
    subst e0
    have eo : o.take K = o := List.take_of_length_le (by omega)
    have ed : d.take K = d := List.take_of_length_le (by omega)
    rw [eo, ed]
    refine Stk.snoc i _ hs ?_
    rw [hW, if_pos rfl, if_pos ⟨t0 rfl, by rw [ha]; rfl, by rw [hbb]; rfl⟩]
    rfl
  · have e0 : nm = 1 := by have : ((1 : Nat) : Int) = (nm : Int) := hnm; omega
    subst e0
    obtain ⟨qo, y, rfl, hqo⟩ := snoc_of (l := o) (n := K) (by omega)
    obtain ⟨qd, p, rfl, hqd⟩ := snoc_of (l := d) (n := K) (by omega)
    obtain ⟨m, f, rfl, he, hst, hw⟩ := stk_inv hs
    rw [List.take_left' hqo, List.take_left' hqd, List.drop_left' hqd]
    have him : i = m + 1 := by omega
    subst him
    refine Stk.snoc (m + 1) _ hst ?_
    have hxa : xa = (m : Int) := by
      rw [ha]; unfold aF; rw [if_pos (by decide), ← hqo]
      exact getD_snoc_eq
    rw [hW, if_neg (by decide), if_pos rfl, if_pos ⟨t1 (by decide), by rw [hbb]; rfl, by rw [hxa]; omega, by omega⟩]
    rw [show m + 1 - 1 = m from by omega, hw]
    unfold depF
    rw [if_pos (by decide), max_one, Int.add_comm]
  · have e0 : nm = 2 := by
      have : namesF k = ((2 : Nat) : Int) := by rcases hk with rfl | rfl <;> rfl
      omega
    subst e0
    obtain ⟨qo1, y2, rfl, hqo1⟩ := snoc_of (l := o) (n := K + 1) (by omega)
    obtain ⟨qo, y1, rfl, hqo⟩ := snoc_of (l := qo1) (n := K) hqo1
    obtain ⟨qd1, p2, rfl, hqd1⟩ := snoc_of (l := d) (n := K + 1) (by omega)
    obtain ⟨qd, p1, rfl, hqd⟩ := snoc_of (l := qd1) (n := K) hqd1
    obtain ⟨m2, f2, rfl, he2, hst2, hw2⟩ := stk_inv hs
    obtain ⟨m1, f1, rfl, he1, hst1, hw1⟩ := stk_inv hst2
    rw [List.append_assoc, List.append_assoc, List.take_left' hqo, List.take_left' hqd, List.drop_left' hqd]
    have him : i = m2 + 1 := by omega
    subst him
    refine Stk.snoc (m2 + 1) _ hst1 ?_
    have hxa : xa = (m1 : Int) := by
      rw [ha]; unfold aF; rw [if_pos (by decide), ← hqo, List.append_assoc]
      rw [List.getD_eq_getElem?_getD, List.getElem?_append_right (Nat.le_refl _), Nat.sub_self]
      rfl
    have hxb : xb = (m2 : Int) := by
      rw [hbb]; unfold bF; rw [if_pos rfl, ← hqo1]
      exact getD_snoc_eq
    have hk0 : k ≠ 0 := by omega
    have hk1 : k ≠ 1 := by omega
    have hm12 : m1 ≤ m2 := by
      obtain ⟨f, hf, hfa, _⟩ := whole_steps l (m2 + 1) m2 _ _ hw2 (by rw [he1]; omega)
      omega
    have hm1lt : m1 < m2 := by
      obtain ⟨f, hf, hfa, _⟩ := whole_steps l (m2 + 1) m2 _ _ hw2 (by rw [he1]; omega)
      omega
    rw [hW, if_neg hk0, if_neg hk1, if_pos ⟨hk, t1 (by omega), by rw [hxb]; omega, by omega⟩]
    rw [show m2 + 1 - 1 = m2 from by omega, hw2, he1]
    simp only
    rw [if_pos ⟨by omega, by rw [hxa]; omega⟩, show ((m1 : Int) + 1 - 1).toNat = m1 from by omega, whole_fuel l (m2 + 1) (m1 + 1) m1 (by omega) (by omega), hw1]
    simp only
    unfold depF
    show _ = (f1, if 1 ≤ 2 then 1 + Lib.maxOf [p1, p2] else 1)
    rw [if_pos (by decide), max_two', Int.max_comm, Int.add_comm]
theorem stk_steps {l : List Nd} : ∀ (r : List Nd) (i : Nat) (o d o' d' : List Int), l.drop i = r → stepsC r (i : Int) o d = some (o', d') → Stk l o d (i : Int) → Stk l o' d' ((i : Int) + (r.length : Int))
  | [], i, o, d, o', d', hr, h, hs => by
    injection h with h
    injection h with h1 h2
    subst h1 h2
    simpa using hs
  | n :: r, i, o, d, o', d', hr, h, hs => by
    rw [stepsC] at h
    cases hst : stepC o d i n with
    | none => rw [hst] at h; cases h
    | some q =>
      rw [hst] at h
      obtain ⟨o1, d1⟩ := q
      have hn : l[i]? = some n := by
        have := congrArg (fun z => z[0]?) hr
        simpa using this
      have h1 := stk_step hs hn hst
      have hr2 : l.drop (i + 1) = r := by
        have := congrArg List.tail hr
        simpa using this
      have h2 := stk_steps r (i + 1) o1 d1 o' d' hr2 (by rw [show ((i + 1 : Nat) : Int) = (i : Int) + 1 from rfl]; exact h) (by rw [show ((i + 1 : Nat) : Int) = (i : Int) + 1 from rfl]; exact h1)
      rw [List.length_cons]
      rw [show ((i : Int) + ((r.length + 1 : Nat) : Int)) = ((i + 1 : Nat) : Int) + (r.length : Int) from by omega]
      exact h2
theorem stk_nil {l : List Nd} {o d : List Int} {f : Int} (h : Stk l o d f) (ho : o = []) : f = 0 := by
  cases h with
  | nil => rfl
  | snoc y p h hw => simp at ho
/-- What is an expression, the reference's walk takes whole. -/
theorem ex_whole {l : List Nd} {dp : Int} (h : Ex l dp) : wholeF l l.length (l.length - 1) = (0, dp) := by
  have h1 := stk_steps (l := l) l 0 [] [] _ _ List.drop_zero h.1 Stk.nil
  obtain ⟨n, f, hn, he, hst, hw⟩ := stk_inv (o := []) (d := []) (y := (l.length : Int) - 1) (p := dp) h1
  have hpos := h.2
  have : n = l.length - 1 := by omega
  subst this
  have hf := stk_nil hst rfl
  subst hf
  rw [whole_fuel l l.length (l.length - 1 + 1) (l.length - 1) (by omega) (by omega)]
  exact hw
end Go.Proofs.YtjndccjpjknbkaaDoor.ExLaw3
