/- What the reference's Compare and Max come to. -/
import Derived.Test.YtaddonafdllciaaDoorMpa
import Derived.Test.YtaddonafdllciaaDoorPureSemOrd
import Derived.Test.YtaddonafdllciaaDoorPureSemProg
namespace Go.Proofs.YtaddonafdllciaaDoor.Pure
open Go.RowKit Go.Proofs.YtaddonafdllciaaDoor.PAll Go.Proofs.YtaddonafdllciaaDoorW.PrintWords Go.Proofs.YtaddonafdllciaaDoorW.PrintLast
open Go.Proofs.YtaddonafdllciaaDoor.BytesLib Go.Proofs.YtaddonafdllciaaDoor.SemParts Go.Proofs.YtaddonafdllciaaDoor.SemNum Go.Proofs.YtaddonafdllciaaDoor.SemParse Go.Proofs.YtaddonafdllciaaDoor.SemOrder Go.Proofs.YtaddonafdllciaaDoor.SemSplit Go.Proofs.YtaddonafdllciaaDoor.SemCmp
set_option linter.unusedVariables false
set_option linter.unusedSimpArgs false

theorem ref_cmp_loop (xs ys : List ByteArray) (hx : ∀ x ∈ xs, x.size ≤ 60) (hy : ∀ y ∈ ys, y.size ≤ 60) (hl : xs.length ≤ 1000000) (d : Nat) : ∀ (i k : Nat), i ≤ xs.length → i ≤ ys.length → xs.length - i = d → 2 * d + 140 ≤ k →
    graftbedref03_Compare.l0 k xs ys (i : Int) = some (if LC orderF (xs.drop i) (ys.drop i) = 0 then 1 else LC orderF (xs.drop i) (ys.drop i)) := by
  induction d with
  | zero =>
    intro i k h1 h2 h3 h4
    obtain ⟨k, rfl⟩ : ∃ k', k = k' + 2 := ⟨k - 2, by omega⟩
    obtain rfl : i = xs.length := by omega
    have hj : graftbedref03_Compare.j4 (k + 1) xs ys (xs.length : Int) false = some (lessF (decide (xs.length < ys.length))) := by
      simp only [graftbedref03_Compare.j4]
      rw [if_neg (by decide), ref_less, Option.bind_some]
      simp only [Int.ofNat_lt]
    rw [show k + 2 = (k + 1) + 1 from rfl]
    generalize k + 1 = q at hj ⊢
    simp only [graftbedref03_Compare.l0]
    rw [if_neg (by omega), hj, List.drop_of_length_le (Nat.le_refl _)]
    by_cases hlt : xs.length < ys.length
    · rw [decide_eq_true hlt, List.drop_eq_getElem_cons hlt]; rfl
    · rw [decide_eq_false hlt, List.drop_of_length_le (by omega)]; rfl
  | succ d ih =>
    intro i k h1 h2 h3 h4
    obtain ⟨k, rfl⟩ : ∃ k', k = k' + 2 := ⟨k - 2, by omega⟩
    have hlt : i < xs.length := by omega
    by_cases hly : i < ys.length
    · have rx : rdOf ByteArray.empty xs (i : Int) = xs[i] := rdOf_get _ hlt
      have ry : rdOf ByteArray.empty ys (i : Int) = ys[i] := rdOf_get _ hly
      have sx := hx xs[i] (List.getElem_mem hlt)
      have sy := hy ys[i] (List.getElem_mem hly)
      have ih' := ih (i + 1) k (by omega) (by omega) (by omega) (by omega)
      have hj : graftbedref03_Compare.j4 (k + 1) xs ys (i : Int) true = some (if LC orderF (xs.drop i) (ys.drop i) = 0 then 1 else LC orderF (xs.drop i) (ys.drop i)) := by
        simp only [graftbedref03_Compare.j4]
        rw [if_pos trivial, if_pos (by omega), if_pos (by omega), if_pos (by omega), rx, ry, ref_order _ _ (by omega) (by omega) k (by omega), Option.bind_some, w64 (by omega) (by omega)]
        rw [show (i : Int) + 1 = ((i + 1 : Nat) : Int) from rfl, ih', List.drop_eq_getElem_cons hlt, List.drop_eq_getElem_cons hly]
        show _ = some (if orI (orderF xs[i] ys[i]) (LC orderF (xs.drop (i + 1)) (ys.drop (i + 1))) = 0 then 1 else orI (orderF xs[i] ys[i]) (LC orderF (xs.drop (i + 1)) (ys.drop (i + 1))))
        unfold orI
        by_cases h0 : orderF xs[i] ys[i] = 0
        · rw [if_pos h0, if_pos h0]
        · rw [if_neg h0, if_neg h0, if_neg h0]
      rw [show k + 2 = (k + 1) + 1 from rfl]
      generalize k + 1 = q at hj ⊢
      simp only [graftbedref03_Compare.l0]
      rw [if_pos (by omega), decide_eq_true (by omega), hj]
    · have hj : graftbedref03_Compare.j4 (k + 1) xs ys (i : Int) false = some (lessF (decide (xs.length < ys.length))) := by
        simp only [graftbedref03_Compare.j4]
        rw [if_neg (by decide), ref_less, Option.bind_some]
        simp only [Int.ofNat_lt]
      rw [show k + 2 = (k + 1) + 1 from rfl]
      generalize k + 1 = q at hj ⊢
      simp only [graftbedref03_Compare.l0]
      rw [if_pos (by omega), decide_eq_false (by omega), hj, List.drop_eq_getElem_cons hlt, List.drop_of_length_le (l := ys) (by omega), decide_eq_false (by omega)]
      rfl

theorem parse_pre_60 (s : ByteArray) : (parseF s).2.2.2.1.size ≤ 60 := by
  unfold parseF
  split
  · rename_i h
    show (cutB 45 (cutA 43 (s.extract 1 s.size))).size ≤ 60
    have h1 := cutB_le 45 (cutA 43 (s.extract 1 s.size))
    have h2 := cutA_le 43 (s.extract 1 s.size)
    rw [ByteArray.size_extract] at h2
    omega
  · exact Nat.zero_le _

theorem ref_pre (p q : ByteArray) (hp : p.size ≤ 60) (hq : q.size ≤ 60) (hne : p ≠ q) (h1 : p.toList ≠ []) (h2 : q.toList ≠ []) (k : Nat) (hk : 1000 ≤ k) :
    graftbedref03_Compare.l0 k (split 46 p) (split 46 q) 0 = some (preC p q) := by
  have l1 := split_count p
  have l2 := split_count q
  have h := ref_cmp_loop (split 46 p) (split 46 q) (fun x hx => by have := split_len p x hx; omega) (fun x hx => by have := split_len q x hx; omega) (by omega) _ 0 k (Nat.zero_le _) (Nat.zero_le _) rfl (by omega)
  rw [List.drop_zero, List.drop_zero] at h
  have hn : ¬ LC orderF (split 46 p) (split 46 q) = 0 := fun e => hne (split_inj (LC_zero orderF_zero _ _ e))
  rw [if_neg hn] at h
  unfold preC pk
  rw [if_neg h1, if_neg h2]
  exact h

theorem cmpI_less {a b : Int} (h : a ≠ b) : cmpI a b = lessF (decide (a < b)) := by
  unfold cmpI lessF
  by_cases h1 : a < b
  · rw [if_pos h1, decide_eq_true h1, if_pos rfl]
  · rw [if_neg h1, if_pos (by omega), decide_eq_false h1, if_neg (by decide)]
theorem cmpI_ne {a b : Int} (h : a ≠ b) : cmpI a b ≠ 0 := by
  rw [cmpI_less h]
  unfold lessF
  split <;> decide

theorem ref_compare (a b : ByteArray) (ha : a.size ≤ 140737488351232) (hb : b.size ≤ 140737488351232) (k : Nat) (hk : 1010 ≤ k) : graftbedref03_Compare.f k a b = some (VC a b) := by
  obtain ⟨k, rfl⟩ : ∃ k', k = k' + 3 := ⟨k - 3, by omega⟩
  have pa := parse_pre_60 a
  have pb := parse_pre_60 b
  have ta := parse_two a
  have tb := parse_two b
  unfold graftbedref03_Compare.f graftbedref03_Parse.f VC
  rw [if_pos ha, if_pos hb, Option.bind_some, Option.bind_some]
  generalize parseF a = p at pa ta ⊢
  generalize parseF b = q at pb tb ⊢
  obtain ⟨p1, p2, p3, p4, p5, p6⟩ := p
  obtain ⟨q1, q2, q3, q4, q5, q6⟩ := q
  have hj2 : ∀ x : Bool, p4.toList ≠ q4.toList → (x = true → p4.toList = [] ∨ q4.toList = []) → (x = false → p4.toList ≠ [] ∧ q4.toList ≠ []) → graftbedref03_Compare.j2 (k + 1) x p1 p2 p3 p4 p5 q1 q2 q3 q4 q5 = some (preC p4 q4) := by
    intro x hne hx1 hx2
    simp only [graftbedref03_Compare.j2]
    cases x with
    | true =>
      rw [if_pos rfl, ref_less, Option.bind_some]
      unfold preC pk
      by_cases h4 : p4.toList = []
      · have h5 : q4.toList ≠ [] := fun e => hne (h4.trans e.symm)
        rw [if_pos h4, if_neg h5, h4]; rfl
      · have h5 : q4.toList = [] := (hx1 rfl).resolve_left h4
        rw [if_neg h4, if_pos h5, show (p4.toList != []) = true from by rw [bne_iff_ne]; exact h4]; rfl
    | false =>
      obtain ⟨h4, h5⟩ := hx2 rfl
      rw [if_neg (by decide), show graftbedref03_Split.f k p4 46 = some (split 46 p4) from ref_split 46 p4 (by have : p4.size ≤ 60 := pa; omega) k (by have : p4.size ≤ 60 := pa; omega), Option.bind_some, show graftbedref03_Split.f k q4 46 = some (split 46 q4) from ref_split 46 q4 (by have : q4.size ≤ 60 := pb; omega) k (by have : q4.size ≤ 60 := pb; omega), Option.bind_some]
      exact ref_pre p4 q4 pa pb (fun e => hne (by rw [e])) h4 h5 k (by omega)
  by_cases h1 : p6 = 0
  · subst h1
    by_cases h2 : q6 = 0
    · subst h2
      have hj1 : graftbedref03_Compare.j1 (k + 2) 0 false p1 p2 p3 p4 p5 q1 q2 q3 q4 q5 = some (cmpP (p1, p2, p3, p4, p5, 0) (q1, q2, q3, q4, q5, 0)) := by
        rw [show k + 2 = (k + 1) + 1 from rfl]
        generalize k + 1 = n at hj2 ⊢
        simp only [graftbedref03_Compare.j1]
        rw [if_neg (by decide)]
        show _ = some (orI (cmpI p1 q1) (orI (cmpI p2 q2) (orI (cmpI p3 q3) (preC p4 q4))))
        by_cases c1 : p1 = q1
        · subst c1
          rw [if_pos rfl, cmpI_cmp.self]
          by_cases c2 : p2 = q2
          · subst c2
            rw [if_pos rfl, cmpI_cmp.self]
            by_cases c3 : p3 = q3
            · subst c3
              rw [if_pos rfl, cmpI_cmp.self]
              by_cases c4 : p4.toList = q4.toList
              · rw [if_pos c4, toList_inj.1 c4, preC_cmp.self]; rfl
              · rw [if_neg c4]
                by_cases c5 : p4.toList = []
                · rw [if_pos c5, hj2 true c4 (fun _ => .inl c5) (fun e => by cases e)]; rfl
                · rw [if_neg c5]
                  by_cases c6 : q4.toList = []
                  · rw [show (q4.toList == []) = true from beq_iff_eq.2 c6, hj2 true c4 (fun _ => .inr c6) (fun e => by cases e)]; rfl
                  · rw [show (q4.toList == []) = false from beq_eq_false_iff_ne.2 c6, hj2 false c4 (fun e => by cases e) (fun _ => ⟨c5, c6⟩)]; rfl
            · rw [if_neg c3, ref_less, Option.bind_some, ← cmpI_less c3]
              unfold orI
              rw [if_neg (cmpI_ne c3)]; rfl
          · rw [if_neg c2, ref_less, Option.bind_some, ← cmpI_less c2]
            unfold orI
            rw [if_neg (cmpI_ne c2)]; rfl
        · rw [if_neg c1, ref_less, Option.bind_some, ← cmpI_less c1]
          unfold orI
          rw [if_neg (cmpI_ne c1)]
      rw [if_pos rfl]
      rw [show k + 3 = (k + 2) + 1 from rfl]
      generalize k + 2 = n at hj1 ⊢
      simp only [graftbedref03_Compare.j0]
      rw [if_neg (by decide), if_pos trivial, show ((0 : Int) != 0) = false from rfl, hj1]
    · have e : (q6 != 0) = true := by rw [bne_iff_ne]; exact h2
      rw [if_pos rfl]
      have hj1 : graftbedref03_Compare.j1 (k + 2) 0 true p1 p2 p3 p4 p5 q1 q2 q3 q4 q5 = some 1 := by
        simp only [graftbedref03_Compare.j1]
        rw [if_pos trivial, ref_less]; rfl
      rw [show k + 3 = (k + 2) + 1 from rfl]
      generalize k + 2 = n at hj1 ⊢
      simp only [graftbedref03_Compare.j0]
      rw [if_neg (by decide), if_pos trivial, e, hj1]
      unfold cmpP ek
      rw [if_pos rfl, if_neg h2]; rfl
  · obtain h := ta.resolve_left h1
    simp only [Prod.mk.injEq] at h
    obtain ⟨rfl, rfl, rfl, rfl, rfl, rfl⟩ := h
    rw [if_neg (by decide)]
    by_cases h2 : q6 = 0
    · subst h2
      have hj1 : graftbedref03_Compare.j1 (k + 2) 30 true 0 0 0 ⟨#[]⟩ ⟨#[]⟩ q1 q2 q3 q4 q5 = some (-1) := by
        simp only [graftbedref03_Compare.j1]
        rw [if_pos trivial, ref_less]; rfl
      rw [show k + 3 = (k + 2) + 1 from rfl]
      generalize k + 2 = n at hj1 ⊢
      simp only [graftbedref03_Compare.j0]
      rw [if_neg (by decide), if_neg (by decide), hj1]
      rfl
    · obtain h := tb.resolve_left h2
      simp only [Prod.mk.injEq] at h
      obtain ⟨rfl, rfl, rfl, rfl, rfl, rfl⟩ := h
      rw [cmpP_cmp.self]
      simp only [graftbedref03_Compare.j0]
      rw [if_pos (by decide)]

theorem ref_max (a b : ByteArray) (ha : a.size ≤ 140737488351232) (hb : b.size ≤ 140737488351232) (k : Nat) (hk : 1010 ≤ k) : graftbedref03_Max.f k a b = some (maxF a b) := by
  unfold graftbedref03_Max.f maxF
  rw [ref_compare a b ha hb k hk, Option.bind_some]
  split <;> rfl

end Go.Proofs.YtaddonafdllciaaDoor.Pure
