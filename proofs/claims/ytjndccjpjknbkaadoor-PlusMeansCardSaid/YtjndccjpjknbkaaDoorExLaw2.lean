/- Expressions in plain words: And, Or, Not: whether they are expressions, how deep, what they say. -/
import Derived.Test.YtjndccjpjknbkaaDoorExLaw
import Derived.Test.YtjndccjpjknbkaaDoorExBoth
namespace Go.Proofs.YtjndccjpjknbkaaDoor.ExLaw2
open Go Go.Proofs Go.RowKit Go.Proofs.YtjndccjpjknbkaaDoor.ExNode Go.Proofs.YtjndccjpjknbkaaDoor.ExTag Go.Proofs.YtjndccjpjknbkaaDoor.ExSem Go.Proofs.YtjndccjpjknbkaaDoor.ExLaw Go.Proofs.YtjndccjpjknbkaaDoor.ExBoth
open Go.Proofs.YtjndccjpjknbkaaDoor.ExCheck (checkF goC stepC badF namesF aF bF depF step_good step_bad)
set_option linter.unusedVariables false

theorem w64v {x : Int} (h1 : -9223372036854775808 ≤ x) (h2 : x ≤ 9223372036854775807) : wrap64 x = x := by unfold wrap64; omega

/-! ### A whole expression, and how deep it is -/
def Ex (l : List Nd) (dp : Int) : Prop := stepsC l 0 [] [] = some ([(l.length : Int) - 1], [dp]) ∧ 0 < l.length
theorem ex_check {l : List Nd} {dp : Int} (h : Ex l dp) : checkF l = if l.length ≤ 60 ∧ dp ≤ 40 then 0 else 120 := by
  unfold checkF
  by_cases h60 : 60 < l.length
  · rw [if_pos h60, if_neg (by omega)]
  · rw [if_neg h60, go_steps, h.1]
    show (if _ then _ else _) = _
    by_cases hd : dp ≤ 40
    · rw [if_pos ⟨rfl, hd⟩, if_pos ⟨by omega, hd⟩]
    · rw [if_neg (fun h => hd h.2), if_neg (fun h => hd h.2)]
theorem ex_ok {l : List Nd} {dp : Int} (h : Ex l dp) : checkF l = 0 ↔ l.length ≤ 60 ∧ dp ≤ 40 := by
  rw [ex_check h]
  split
  · exact ⟨fun _ => by assumption, fun _ => rfl⟩
  · exact ⟨fun h => absurd h (by decide), fun h => by contradiction⟩

/-! ### Nodes behind others -/
theorem bad_shift {m : Int} {o o2 : List Int} {n : Nd} (h : badF o n = false) (hl : o.length ≤ o2.length) : badF o2 (shiftN m n) = false := by
  unfold badF at h ⊢
  simp only [Bool.or_eq_false_iff, decide_eq_false_iff_not] at h ⊢
  obtain ⟨⟨⟨⟨h1, h2⟩, h3⟩, h4⟩, h5⟩ := h
  exact ⟨⟨⟨⟨h1, h2⟩, by show ¬ (o2.length : Int) - namesF n.kind < 0; omega⟩, h4⟩, h5⟩
theorem getD_map {o : List Int} {m : Int} {K : Nat} (h : K < o.length) : (o.map (· + m)).getD K 0 = o.getD K 0 + m := by
  rw [List.getD_eq_getElem?_getD, List.getD_eq_getElem?_getD, List.getElem?_map, List.getElem?_eq_getElem h]
  rfl
theorem getD_app_right {α : Type} {p q : List α} {d : α} {K : Nat} : (p ++ q).getD (p.length + K) d = q.getD K d := by
  rw [List.getD_eq_getElem?_getD, List.getD_eq_getElem?_getD, List.getElem?_append_right (by omega), show p.length + K - p.length = K from by omega]
theorem step_shift {m i : Int} {p e o d o' d' : List Int} {n : Nd} (h : stepC o d i n = some (o', d')) (hpe : p.length = e.length) (hl : o.length = d.length) (hb : ∀ y ∈ o, 0 ≤ y ∧ y < i) (hi : i ≤ 1000000) (hm0 : 0 ≤ m) (hm : m ≤ 1000000) :
    stepC (p ++ o.map (· + m)) (e ++ d) (i + m) (shiftN m n) = some (p ++ o'.map (· + m), e ++ d') := by
  obtain ⟨nm, K, hbad, hn, hnm, h0, h3, hK, ha, hbb, rfl, rfl⟩ := step_some h
  have hnk : (nm : Int) = if 2 < n.kind then 2 else n.kind := by
    rw [← hn]; unfold namesF
    by_cases h2 : 2 < n.kind
    · rw [if_pos h2]; rfl
    · rw [if_neg h2]; split <;> omega
  have hk1 : 0 < n.kind ↔ 1 ≤ nm := by split at hnk <;> omega
  have hk2 : 1 < n.kind ↔ nm = 2 := by split at hnk <;> omega
  have hbs : badF (p ++ o.map (· + m)) (shiftN m n) = false := bad_shift hbad (by simp)
  rw [step_good (nm := nm) (K := p.length + K) hbs (show namesF (shiftN m n).kind = _ from hn) (by simp; omega)]
  have hA : aF nm (p ++ o.map (· + m)) (p.length + K) = (shiftN m n).a := by
    show aF nm _ _ = if 0 < n.kind then wrap64 (n.a + m) else n.a
    by_cases hk : 0 < n.kind
    · have hnm1 := hk1.1 hk
      rw [if_pos hk, ha]
      unfold aF
      rw [if_pos hnm1, if_pos hnm1, getD_app_right, getD_map (by omega)]
      have := hb _ (getD_in (show K < o.length from by omega))
      rw [w64v (by omega) (by omega)]
    · rw [if_neg hk, ha]
      unfold aF
      rw [if_neg (fun h => hk (hk1.2 h)), if_neg (fun h => hk (hk1.2 h))]
  have hB : bF nm (p ++ o.map (· + m)) (p.length + K) = (shiftN m n).b := by
    show bF nm _ _ = if 1 < n.kind then wrap64 (n.b + m) else n.b
    by_cases hk : 1 < n.kind
    · have hnm1 := hk2.1 hk
      rw [if_pos hk, hbb]
      unfold bF
      rw [if_pos hnm1, if_pos hnm1, show p.length + K + 1 = p.length + (K + 1) from rfl, getD_app_right, getD_map (by omega)]
      have := hb _ (getD_in (show K + 1 < o.length from by omega))
      rw [w64v (by omega) (by omega)]
    · rw [if_neg hk, hbb]
      unfold bF
      rw [if_neg (fun h => hk (hk2.2 h)), if_neg (fun h => hk (hk2.2 h))]
  rw [hA, hB, if_pos rfl]
  have e1 : (p ++ o.map (· + m)).take (p.length + K) = p ++ (o.take K).map (· + m) := by rw [List.take_length_add_append, List.map_take]
  have e2 : (e ++ d).take (p.length + K) = e ++ d.take K := by rw [hpe, List.take_length_add_append]
  have e3 : (e ++ d).drop (p.length + K) = d.drop K := by rw [hpe, List.drop_length_add_append]
  rw [e1, e2, e3, List.map_append, List.append_assoc, List.append_assoc]
  rfl
theorem steps_shift {m : Int} {p e : List Int} (hpe : p.length = e.length) (hm0 : 0 ≤ m) (hm : m ≤ 1000000) : ∀ (l : List Nd) (i : Int) (o d o' d' : List Int), stepsC l i o d = some (o', d') → o.length = d.length → (∀ y ∈ o, 0 ≤ y ∧ y < i) → 0 ≤ i → i + (l.length : Int) ≤ 1000000 →
    stepsC (l.map (shiftN m)) (i + m) (p ++ o.map (· + m)) (e ++ d) = some (p ++ o'.map (· + m), e ++ d')
  | [], i, o, d, o', d', h, hl, hb, hi0, hi => by
    injection h with h
    injection h with h1 h2
    subst h1 h2
    rfl
  | n :: r, i, o, d, o', d', h, hl, hb, hi0, hi => by
    rw [stepsC] at h
    cases hs : stepC o d i n with
    | none => rw [hs] at h; cases h
    | some q =>
      rw [hs] at h
      obtain ⟨o1, d1⟩ := q
      have h2 := step_shift (p := p) (e := e) hs hpe hl hb (by rw [List.length_cons] at hi; omega) hm0 hm
      obtain ⟨_, hb1⟩ := step_ref hs hb hi0
      obtain ⟨nm, K, _, _, _, _, _, hK, _, _, rfl, rfl⟩ := step_some hs
      rw [List.map_cons, steps_cons h2, show i + m + 1 = i + 1 + m from by omega]
      exact steps_shift hpe hm0 hm r (i + 1) _ _ o' d' h (by simp; omega) hb1 (by omega) (by rw [List.length_cons] at hi; omega)

theorem ex_not {da : Int} {a : List Nd} (ha : Ex a da) : Ex (notN a) (1 + da) := by
  obtain ⟨h1, h10⟩ := ha
  refine ⟨?_, by unfold notN; simp⟩
  unfold notN
  rw [steps_app _ _ _ _ _ _ _ h1]
  have hst := step_not (o := []) (d := []) (i := 0 + (a.length : Int)) (a := (a.length : Int) - 1) (p := da) rfl
  rw [List.nil_append, List.nil_append, List.nil_append, List.nil_append] at hst
  rw [steps_cons hst, stepsC]
  simp

/-! ### What they say -/
theorem okRef_shift {l : List Nd} (h : checkF l = 0) : ∀ (j : Nat) (n : Nd), l[j]? = some n → okRef (((0 : Nat) : Int) + (j : Int)) n := fun j n hj => by
  have := (check_ref h).2.2 j n hj
  simpa using this
theorem val_shift (tg : ByteArray → Bool) {m : Nat} {p q : List Bool} {n : Nd} (hp : p.length = m) (hr : okRef q.length n) (hq : (q.length : Int) ≤ 1000000) (hm : (m : Int) ≤ 1000000) : val tg (shiftN (m : Int) n) (p ++ q) = val tg n q := by
  obtain ⟨h0, h3, ha, hb, hab, hz⟩ := hr
  unfold val
  show (if n.kind = 0 then _ else _) = _
  by_cases e0 : n.kind = 0
  · rw [if_pos e0, if_pos e0]; rfl
  · obtain ⟨h4, h5⟩ := hab (by omega)
    have hA : (p ++ q).getD (shiftN (m : Int) n).a.toNat false = q.getD n.a.toNat false := by
      have : (shiftN (m : Int) n).a.toNat = p.length + n.a.toNat := by
        show (if 0 < n.kind then wrap64 (n.a + m) else n.a).toNat = _
        rw [if_pos (by omega), w64v (by omega) (by omega)]
        omega
      rw [this, getD_app_right]
    rw [if_neg e0, if_neg e0]
    show (if n.kind = 1 then _ else _) = _
    by_cases e1 : n.kind = 1
    · rw [if_pos e1, if_pos e1, hA]
    · have hB : (p ++ q).getD (shiftN (m : Int) n).b.toNat false = q.getD n.b.toNat false := by
        have : (shiftN (m : Int) n).b.toNat = p.length + n.b.toNat := by
          show (if 1 < n.kind then wrap64 (n.b + m) else n.b).toNat = _
          rw [if_pos (by omega), w64v (by omega) (by omega)]
          omega
        rw [this, getD_app_right]
      rw [if_neg e1, if_neg e1, hA, hB]
      rfl
theorem vals_shift (tg : ByteArray → Bool) {m : Nat} {p : List Bool} (hp : p.length = m) (hm : (m : Int) ≤ 1000000) (l : List Nd) : ∀ (q : List Bool), (∀ (j : Nat) (n : Nd), l[j]? = some n → okRef ((q.length : Int) + (j : Int)) n) → (q.length : Int) + (l.length : Int) ≤ 1000000 → vals tg (l.map (shiftN (m : Int))) (p ++ q) = p ++ vals tg l q := by
  induction l with
  | nil => intro q _ _; rfl
  | cons n r ih =>
    intro q hr hl
    rw [List.length_cons] at hl
    have h1 : okRef q.length n := by have := hr 0 n rfl; simpa using this
    have h2 := val_shift tg hp h1 (by omega) hm
    rw [List.map_cons, vals, vals, h2, List.append_assoc]
    refine ih _ (fun j k hj => ?_) (by simp; omega)
    have := hr (j + 1) k (by simpa using hj)
    rw [List.length_append]
    have e : (((q.length + [val tg n q].length : Nat) : Int) + (j : Int)) = (q.length : Int) + ((j + 1 : Nat) : Int) := by simp; omega
    rw [e]; exact this
theorem run_both (tg : ByteArray → Bool) {k : Int} {a b : List Nd} (ha : checkF a = 0) (hb : checkF b = 0) :
    runF tg (bothN k a b) = if k = 0 then tg ⟨#[]⟩ else if k = 1 then !(runF tg a) else if k = 2 then (runF tg a && runF tg b) else (runF tg a || runF tg b) := by
  obtain ⟨a0, a60, _⟩ := check_ref ha
  obtain ⟨b0, b60, _⟩ := check_ref hb
  have hla := vals_len tg a []
  have hlb := vals_len tg b []
  rw [List.length_nil, Nat.zero_add] at hla hlb
  have hv : vals tg (bothN k a b) [] = vals tg a [] ++ vals tg b [] ++ [val tg ⟨k, ⟨#[]⟩, (a.length : Int) - 1, (a.length : Int) + (b.length : Int) - 1⟩ (vals tg a [] ++ vals tg b [])] := by
    unfold bothN
    rw [vals_app, vals_app]
    have h := vals_shift tg hla (by omega) b [] (okRef_shift hb) (by simp; omega)
    rw [List.append_nil] at h
    rw [h, w64v (by omega) (by omega), w64v (by omega) (by omega)]
    rfl
  unfold runF
  have hlen : (bothN k a b).length - 1 = (vals tg a [] ++ vals tg b []).length := by unfold bothN; simp; omega
  rw [hlen, hv, getD_snoc_eq]
  unfold val
  have eA : (vals tg a [] ++ vals tg b []).getD ((a.length : Int) - 1).toNat false = (vals tg a []).getD (a.length - 1) false := by
    rw [show ((a.length : Int) - 1).toNat = a.length - 1 from by omega, List.getD_eq_getElem?_getD, List.getElem?_append_left (by omega), ← List.getD_eq_getElem?_getD]
  have eB : (vals tg a [] ++ vals tg b []).getD ((a.length : Int) + (b.length : Int) - 1).toNat false = (vals tg b []).getD (b.length - 1) false := by
    rw [show ((a.length : Int) + (b.length : Int) - 1).toNat = (vals tg a []).length + (b.length - 1) from by omega, getD_app_right]
  simp only [eA, eB]
theorem run_not (tg : ByteArray → Bool) {a : List Nd} (h0 : 0 < a.length) : runF tg (notN a) = !(runF tg a) := by
  have hla := vals_len tg a []
  rw [List.length_nil, Nat.zero_add] at hla
  unfold runF notN
  rw [vals_app]
  have hlen : (a ++ [(⟨1, ⟨#[]⟩, (a.length : Int) - 1, 0⟩ : Nd)]).length - 1 = (vals tg a []).length := by simp; omega
  rw [hlen]
  show (vals tg a [] ++ [val tg _ (vals tg a [])]).getD (vals tg a []).length false = _
  rw [getD_snoc_eq]
  show (!((vals tg a []).getD ((a.length : Int) - 1).toNat false)) = _
  rw [show ((a.length : Int) - 1).toNat = a.length - 1 from by omega]
end Go.Proofs.YtjndccjpjknbkaaDoor.ExLaw2

