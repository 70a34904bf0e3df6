/- Expressions in plain words: Check step by step, the reference's walk from the last node down, what may be so. -/
import Derived.Test.YtjndccjpjknbkaaDoorExSem
namespace Go.Proofs.YtjndccjpjknbkaaDoor.ExLaw
open Go Go.Proofs Go.Proofs.YtjndccjpjknbkaaDoor.ExNode Go.Proofs.YtjndccjpjknbkaaDoor.ExTag Go.Proofs.YtjndccjpjknbkaaDoor.ExSem
open Go.Proofs.YtjndccjpjknbkaaDoor.ExCheck (checkF goC stepC badF namesF aF bF depF step_good step_bad bad_no)
set_option linter.unusedVariables false

def stepsC : List Nd → Int → List Int → List Int → Option (List Int × List Int)
  | [], _, o, d => some (o, d)
  | n :: r, i, o, d => match stepC o d i n with
    | none => none
    | some (o', d') => stepsC r (i + 1) o' d'
theorem steps_cons {n : Nd} {r : List Nd} {i : Int} {o d o' d' : List Int} (h : stepC o d i n = some (o', d')) : stepsC (n :: r) i o d = stepsC r (i + 1) o' d' := by
  rw [stepsC, h]
theorem go_steps : ∀ (l : List Nd) (i : Int) (o d : List Int), goC l i o d = match stepsC l i o d with | none => 120 | some (o', d') => if o'.length = 1 ∧ d'.getD 0 0 ≤ 40 then 0 else 120
  | [], i, o, d => rfl
  | n :: r, i, o, d => by
    unfold goC stepsC
    cases h : stepC o d i n with
    | none => rfl
    | some p => exact go_steps r (i + 1) p.1 p.2
theorem steps_app : ∀ (a b : List Nd) (i : Int) (o d o' d' : List Int), stepsC a i o d = some (o', d') → stepsC (a ++ b) i o d = stepsC b (i + a.length) o' d'
  | [], b, i, o, d, o', d', h => by
    injection h with h
    injection h with h1 h2
    subst h1 h2
    simp
  | n :: r, b, i, o, d, o', d', h => by
    rw [stepsC] at h
    rw [List.cons_append, stepsC]
    cases hs : stepC o d i n with
    | none => rw [hs] at h; cases h
    | some p =>
      rw [hs] at h
      have := steps_app r b (i + 1) p.1 p.2 o' d' h
      show stepsC (r ++ b) (i + 1) p.1 p.2 = _
      rw [this, List.length_cons]
      congr 1
      omega

theorem names_0 : namesF 0 = ((0 : Nat) : Int) := rfl
theorem names_1 : namesF 1 = ((1 : Nat) : Int) := rfl
theorem e_tag : tagOk ⟨#[]⟩ = false := by decide
theorem take_eq {l : List Int} {n : Nat} (h : l.length = n) : l.take n = l := List.take_of_length_le (by omega)
theorem max_one (x : Int) : Lib.maxOf [x] = x := by simp [Lib.maxOf]
theorem max_two' (x y : Int) : Lib.maxOf [x, y] = max x y := by simp [Lib.maxOf]

theorem step_tag {o d : List Int} {i : Int} {t : ByteArray} (ht : tagOk t = true) (hl : o.length = d.length) : stepC o d i ⟨0, t, 0, 0⟩ = some (o ++ [i], d ++ [1]) := by
  have hb : badF o ⟨0, t, 0, 0⟩ = false := bad_no (show (0 : Int) ≤ 0 by decide) (show (0 : Int) ≤ 3 by decide) (show ¬ (o.length : Int) - namesF 0 < 0 by rw [names_0]; simp) (show ((0 : Int) == 0) = tagOk t by rw [ht]; rfl) (fun h => absurd (show (0 : Int) < 0 from h) (by decide))
  rw [step_good (nm := 0) (K := o.length) hb names_0 (by simp)]
  rw [if_pos (show (⟨0, t, 0, 0⟩ : Nd) = ⟨0, t, aF 0 o o.length, bF 0 o o.length⟩ from rfl), take_eq rfl, take_eq hl.symm]
  rfl
theorem step_not {o d : List Int} {i a p : Int} (hl : o.length = d.length) : stepC (o ++ [a]) (d ++ [p]) i ⟨1, ⟨#[]⟩, a, 0⟩ = some (o ++ [i], d ++ [1 + p]) := by
  have hb : badF (o ++ [a]) ⟨1, ⟨#[]⟩, a, 0⟩ = false := bad_no (show (0 : Int) ≤ 1 by decide) (show (1 : Int) ≤ 3 by decide) (show ¬ ((o ++ [a]).length : Int) - namesF 1 < 0 by rw [names_1]; simp) (show ((1 : Int) == 0) = tagOk ⟨#[]⟩ by rw [e_tag]; rfl) (fun _ => by rw [BytesLib.toList_L]; rfl)
  rw [step_good (nm := 1) (K := o.length) hb names_1 (by simp)]
  have ha : aF 1 (o ++ [a]) o.length = a := by unfold aF; rw [if_pos (by decide)]; simp [List.getD]
  have hbb : bF 1 (o ++ [a]) o.length = 0 := rfl
  rw [ha, hbb, if_pos rfl, List.take_left' rfl, List.take_left' hl.symm, List.drop_left' hl.symm]
  unfold depF
  rw [if_pos (by decide), max_one]
theorem step_two {o d : List Int} {k i a b p q : Int} (hk : k = 2 ∨ k = 3) (hl : o.length = d.length) : stepC (o ++ [a, b]) (d ++ [p, q]) i ⟨k, ⟨#[]⟩, a, b⟩ = some (o ++ [i], d ++ [1 + max p q]) := by
  have hn : namesF k = ((2 : Nat) : Int) := by rcases hk with rfl | rfl <;> rfl
  have hb : badF (o ++ [a, b]) ⟨k, ⟨#[]⟩, a, b⟩ = false := bad_no (by show 0 ≤ k; omega) (by show k ≤ 3; omega) (by show ¬ ((o ++ [a, b]).length : Int) - namesF k < 0; rw [hn]; simp) (by show (k == 0) = tagOk ⟨#[]⟩; rw [e_tag, beq_eq_false_iff_ne]; omega) (fun _ => by rw [BytesLib.toList_L]; rfl)
  rw [step_good (nm := 2) (K := o.length) hb hn (by simp)]
  have ha : aF 2 (o ++ [a, b]) o.length = a := by unfold aF; rw [if_pos (by decide)]; simp [List.getD]
  have hbb : bF 2 (o ++ [a, b]) o.length = b := by
    unfold bF; rw [if_pos rfl]
    rw [List.getD_eq_getElem?_getD, List.getElem?_append_right (by omega), show o.length + 1 - o.length = 1 from by omega]
    rfl
  rw [ha, hbb, if_pos rfl, List.take_left' rfl, List.take_left' hl.symm, List.drop_left' hl.symm]
  unfold depF
  rw [if_pos (by decide), max_two']

/-! ### The reference's walk -/
def wholeF (l : List Nd) : Nat → Nat → Int × Int
  | 0, _ => (-1, 0)
  | n + 1, at_ =>
    match l[at_]? with
    | none => (-1, 0)
    | some x =>
      if x.kind = 0 then (if tagOk x.tag = true ∧ x.a = 0 ∧ x.b = 0 then ((at_ : Int), 1) else (-1, 0))
      else if x.kind = 1 then (if x.tag.toList = [] ∧ x.b = 0 ∧ x.a = (at_ : Int) - 1 ∧ 0 < at_ then ((wholeF l n (at_ - 1)).1, (wholeF l n (at_ - 1)).2 + 1) else (-1, 0))
      else if (x.kind = 2 ∨ x.kind = 3) ∧ x.tag.toList = [] ∧ x.b = (at_ : Int) - 1 ∧ 1 < at_ then
        (if 0 < (wholeF l n (at_ - 1)).1 ∧ x.a = (wholeF l n (at_ - 1)).1 - 1 then ((wholeF l n ((wholeF l n (at_ - 1)).1 - 1).toNat).1, max (wholeF l n (at_ - 1)).2 (wholeF l n ((wholeF l n (at_ - 1)).1 - 1).toNat).2 + 1) else (-1, 0))
      else (-1, 0)

theorem empty_of {t : ByteArray} (h : t.toList = []) : t = ⟨#[]⟩ := BytesLib.L_inj (by rw [← BytesLib.toList_L, h]; rfl)
theorem seg_snoc {l : List Nd} {f a : Nat} (hf : f ≤ a) (ha : a < l.length) : (l.drop f).take (a + 1 - f) = (l.drop f).take (a - f) ++ [l[a]] := by
  rw [show a + 1 - f = (a - f) + 1 from by omega, List.take_succ_eq_append_getElem (by rw [List.length_drop]; omega), List.getElem_drop]
  congr 3
  omega
theorem seg_join {l : List Nd} {f g a : Nat} (h1 : f ≤ g) (h2 : g ≤ a) : (l.drop f).take (a - f) = (l.drop f).take (g - f) ++ (l.drop g).take (a - g) := by
  rw [show a - f = (g - f) + (a - g) from by omega, List.take_add, List.drop_drop, show f + (g - f) = g from by omega]

theorem whole_steps (l : List Nd) : ∀ (n a : Nat) (fr dp : Int), wholeF l n a = (fr, dp) → 0 ≤ fr →
    ∃ f : Nat, fr = (f : Int) ∧ f ≤ a ∧ a < l.length ∧ 1 ≤ dp ∧ dp ≤ (a : Int) - (f : Int) + 1 ∧ ∀ o d : List Int, o.length = d.length → stepsC ((l.drop f).take (a + 1 - f)) f o d = some (o ++ [(a : Int)], d ++ [dp])
  | 0, a, fr, dp, h, h0 => by
    injection h with h1 h2
    omega
  | n + 1, a, fr, dp, h, h0 => by
    have hno : ((-1 : Int), (0 : Int)) = (fr, dp) → False := fun e => by injection e with e1 e2; omega
    rw [wholeF] at h
    cases hx : l[a]? with
    | none => rw [hx] at h; exact (hno h).elim
    | some x =>
      rw [hx] at h
      obtain ⟨ha, hxa⟩ := List.getElem?_eq_some_iff.1 hx
      obtain ⟨k, t, xa, xb⟩ := x
      simp only at h
      split at h
      · rename_i hk
        subst hk
        split at h
        · rename_i hc
          obtain ⟨h1, rfl, rfl⟩ := hc
          injection h with e1 e2
          subst e1 e2
          refine ⟨a, rfl, Nat.le_refl _, ha, Int.le_refl _, by omega, fun o d hl => ?_⟩
          rw [seg_snoc (Nat.le_refl a) ha, Nat.sub_self, List.take_zero, List.nil_append, hxa, steps_cons (step_tag h1 hl)]
          rfl
        · exact (hno h).elim
      · split at h
        · rename_i hk
          subst hk
          split at h
          · rename_i hc
            obtain ⟨h1, rfl, rfl, h2⟩ := hc
            obtain rfl := empty_of h1
            cases hr : wholeF l n (a - 1) with
            | mk f1 d1 =>
              rw [hr] at h
              injection h with e1 e2
              simp only at e1 e2
              subst e1 e2
              obtain ⟨f, rfl, hf, ha1, hd1, hd2, hs⟩ := whole_steps l n (a - 1) f1 d1 hr h0
              refine ⟨f, rfl, by omega, ha, by omega, by omega, fun o d hl => ?_⟩
              have h3 := hs o d hl
              rw [show a - 1 + 1 - f = a - f from by omega] at h3
              rw [seg_snoc (by omega) ha, hxa, steps_app _ _ _ _ _ _ _ h3]
              have e3 : ((a - 1 : Nat) : Int) = (a : Int) - 1 := by omega
              rw [List.length_take, List.length_drop, Nat.min_eq_left (by omega), e3, steps_cons (step_not hl)]
              rw [stepsC]
              have e4 : (f : Int) + ((a - f : Nat) : Int) = (a : Int) := by omega
              rw [e4, Int.add_comm d1 1]
          · exact (hno h).elim
        · split at h
          · rename_i hc
            obtain ⟨hk, h1, rfl, h2⟩ := hc
            obtain rfl := empty_of h1
            split at h
            · rename_i hd
              obtain ⟨hd0, hda⟩ := hd
              cases hr : wholeF l n (a - 1) with
              | mk f1 d1 =>
                rw [hr] at h hd0 hda
                simp only at h hd0 hda
                obtain ⟨g, rfl, hg, ha1, hd1, hd2, hs⟩ := whole_steps l n (a - 1) f1 d1 hr (by omega)
                have eg : ((g : Int) - 1).toNat = g - 1 := by omega
                rw [eg] at h
                cases hq : wholeF l n (g - 1) with
                | mk f2 d2 =>
                  rw [hq] at h
                  injection h with e1 e2
                  simp only at e1 e2
                  subst e1 e2
                  obtain ⟨f, rfl, hf, hg1, hd3, hd4, hs2⟩ := whole_steps l n (g - 1) f2 d2 hq h0
                  refine ⟨f, rfl, by omega, ha, by omega, by omega, fun o d hl => ?_⟩
                  have h3 := hs2 o d hl
                  rw [show g - 1 + 1 - f = g - f from by omega] at h3
                  have h4 := hs (o ++ [((g - 1 : Nat) : Int)]) (d ++ [d2]) (by simp [hl])
                  rw [show a - 1 + 1 - g = a - g from by omega] at h4
                  rw [seg_snoc (by omega) ha, seg_join (show f ≤ g from by omega) (show g ≤ a from by omega), hxa, List.append_assoc, steps_app _ _ _ _ _ _ _ h3]
                  rw [List.length_take, List.length_drop, Nat.min_eq_left (by omega)]
                  rw [show (f : Int) + ((g - f : Nat) : Int) = (g : Int) from by omega, steps_app _ _ _ _ _ _ _ h4]
                  rw [List.length_take, List.length_drop, Nat.min_eq_left (by omega)]
                  rw [List.append_assoc, List.append_assoc]
                  have e3 : ((a - 1 : Nat) : Int) = (a : Int) - 1 := by omega
                  have e5 : ((g - 1 : Nat) : Int) = xa := by omega
                  rw [e3, e5]
                  show stepsC [⟨k, ⟨#[]⟩, xa, (a : Int) - 1⟩] _ (o ++ [xa, (a : Int) - 1]) (d ++ [d2, d1]) = _
                  rw [steps_cons (step_two hk hl), stepsC, show (g : Int) + ((a - g : Nat) : Int) = (a : Int) from by omega, Int.add_comm, Int.max_comm]
            · exact (hno h).elim
          · exact (hno h).elim

/-! ### What is so may be so -/
theorem vals_app (tg : ByteArray → Bool) : ∀ (a b : List Nd) (vs : List Bool), vals tg (a ++ b) vs = vals tg b (vals tg a vs)
  | [], b, vs => rfl
  | n :: r, b, vs => by rw [List.cons_append, vals, vals, vals_app tg r b]
def Rel (vs : List Bool) (ps : List (Bool × Bool)) : Prop := vs.length = ps.length ∧ ∀ j, j < vs.length → (vs.getD j false = true → (ps.getD j (false, false)).1 = true) ∧ (vs.getD j false = false → (ps.getD j (false, false)).2 = true)
theorem getD_snoc_lt {α : Type} {l : List α} {x d : α} {j : Nat} (h : j < l.length) : (l ++ [x]).getD j d = l.getD j d := by
  rw [List.getD_eq_getElem?_getD, List.getElem?_append_left h, ← List.getD_eq_getElem?_getD]
theorem getD_snoc_eq {α : Type} {l : List α} {x d : α} : (l ++ [x]).getD l.length d = x := by
  rw [List.getD_eq_getElem?_getD, List.getElem?_append_right (Nat.le_refl _), Nat.sub_self]
  rfl
theorem Rel.snoc {vs : List Bool} {ps : List (Bool × Bool)} {x : Bool} {p : Bool × Bool} (h : Rel vs ps) (h1 : x = true → p.1 = true) (h2 : x = false → p.2 = true) : Rel (vs ++ [x]) (ps ++ [p]) := by
  refine ⟨by simp [h.1], fun j hj => ?_⟩
  by_cases hlt : j < vs.length
  · rw [getD_snoc_lt hlt, getD_snoc_lt (by have := h.1; omega)]
    exact h.2 j hlt
  · have e : j = vs.length := by simp at hj; omega
    subst e
    rw [getD_snoc_eq]
    rw [h.1, getD_snoc_eq]
    exact ⟨h1, h2⟩
def notN (l : List Nd) : List Nd := l ++ [⟨1, ⟨#[]⟩, (l.length : Int) - 1, 0⟩]
end Go.Proofs.YtjndccjpjknbkaaDoor.ExLaw

