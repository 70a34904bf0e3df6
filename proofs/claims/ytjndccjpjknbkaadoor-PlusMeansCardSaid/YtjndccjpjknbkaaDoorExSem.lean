/- Expressions in plain words: what Check says of each node; the values of the nodes. -/
import Derived.Test.YtjndccjpjknbkaaDoorExCheck
namespace Go.Proofs.YtjndccjpjknbkaaDoor.ExSem
open Go Go.Proofs Go.Proofs.YtjndccjpjknbkaaDoor.ExNode Go.Proofs.YtjndccjpjknbkaaDoor.ExTag
open Go.Proofs.YtjndccjpjknbkaaDoor.ExCheck (checkF goC stepC badF namesF aF bF depF step_good step_bad)
set_option linter.unusedVariables false

/-- A node at place i names places ahead of it. -/
def okRef (i : Int) (n : Nd) : Prop := 0 ≤ n.kind ∧ n.kind ≤ 3 ∧ 0 ≤ n.a ∧ 0 ≤ n.b ∧ (0 < n.kind → n.a < i ∧ n.b < i) ∧ (n.kind = 0 → n.a = 0 ∧ n.b = 0)

/-- What a step that goes well says. -/
theorem step_some {o d o' d' : List Int} {i : Int} {n : Nd} (h : stepC o d i n = some (o', d')) :
    ∃ nm K : Nat, badF o n = false ∧ namesF n.kind = (nm : Int) ∧ nm ≤ 2 ∧ 0 ≤ n.kind ∧ n.kind ≤ 3 ∧ K + nm = o.length ∧ n.a = aF nm o K ∧ n.b = bF nm o K ∧ o' = o.take K ++ [i] ∧ d' = d.take K ++ [depF nm (d.drop K)] := by
  cases hb : badF o n with
  | true => rw [step_bad hb] at h; cases h
  | false =>
    have hb2 := hb
    obtain ⟨nm, hnm, hnm2⟩ : ∃ nm : Nat, namesF n.kind = (nm : Int) ∧ nm ≤ 2 := by
      refine ⟨(namesF n.kind).toNat, ?_, ?_⟩ <;> (unfold namesF; split <;> split <;> omega)
    have hK : 0 ≤ (o.length : Int) - (nm : Int) ∧ 0 ≤ n.kind ∧ n.kind ≤ 3 := by
      unfold badF at hb2
      simp only [Bool.or_eq_false_iff, decide_eq_false_iff_not] at hb2
      obtain ⟨⟨⟨⟨h1, h2⟩, h3⟩, _⟩, _⟩ := hb2
      rw [hnm] at h3
      omega
    obtain ⟨K, hKK⟩ : ∃ K : Nat, (o.length : Int) - (nm : Int) = (K : Int) := ⟨((o.length : Int) - (nm : Int)).toNat, by omega⟩
    rw [step_good hb hnm hKK] at h
    split at h
    · rename_i he
      injection h with h
      injection h with h1 h2
      refine ⟨nm, K, rfl, hnm, hnm2, hK.2.1, hK.2.2, by omega, ?_, ?_, h1.symm, h2.symm⟩
      · exact (Nd.mk.injEq _ _ _ _ _ _ _ _ ▸ he : _ ∧ _ ∧ _ ∧ _).2.2.1
      · exact (Nd.mk.injEq _ _ _ _ _ _ _ _ ▸ he : _ ∧ _ ∧ _ ∧ _).2.2.2
    · cases h
theorem getD_in {o : List Int} {K : Nat} (h : K < o.length) : o.getD K 0 ∈ o := by
  rw [List.getD_eq_getElem?_getD, List.getElem?_eq_getElem h]
  exact List.getElem_mem h
theorem step_ref {o d o' d' : List Int} {i : Int} {n : Nd} (h : stepC o d i n = some (o', d')) (ho : ∀ y ∈ o, 0 ≤ y ∧ y < i) (hi : 0 ≤ i) : okRef i n ∧ ∀ y ∈ o', 0 ≤ y ∧ y < i + 1 := by
  obtain ⟨nm, K, hb, hnm, hnm2, h0, h3, hK, ha, hbb, rfl, rfl⟩ := step_some h
  have hnk : (nm : Int) = if 2 < n.kind then 2 else n.kind := by
    rw [← hnm]; unfold namesF
    by_cases h2 : 2 < n.kind
    · rw [if_pos h2]; rfl
    · rw [if_neg h2]; split <;> omega
  have hk1 : 0 < n.kind → 1 ≤ nm := by intro hk; split at hnk <;> omega
  have hk0 : n.kind = 0 → nm = 0 := by intro hk; split at hnk <;> omega
  refine ⟨⟨h0, h3, ?_, ?_, fun hk => ⟨?_, ?_⟩, fun hk => ⟨?_, ?_⟩⟩, fun y hy => ?_⟩
  · rw [ha]; unfold aF; split
    · exact (ho _ (getD_in (by omega))).1
    · exact Int.le_refl _
  · rw [hbb]; unfold bF; split
    · exact (ho _ (getD_in (by omega))).1
    · exact Int.le_refl _
  · have := hk1 hk
    rw [ha]; unfold aF; rw [if_pos this]
    exact (ho _ (getD_in (by omega))).2
  · have := hk1 hk
    rw [hbb]; unfold bF; split
    · exact (ho _ (getD_in (by omega))).2
    · have := ho _ (getD_in (show K < o.length from by omega)); omega
  · rw [ha, hk0 hk]; rfl
  · rw [hbb, hk0 hk]; rfl
  · rcases List.mem_append.1 hy with h1 | h1
    · have := ho y (List.mem_of_mem_take h1); omega
    · rw [List.mem_singleton] at h1; omega
theorem go_ref : ∀ (l : List Nd) (i : Int) (o d : List Int), goC l i o d = 0 → (∀ y ∈ o, 0 ≤ y ∧ y < i) → 0 ≤ i → ∀ (j : Nat) (n : Nd), l[j]? = some n → okRef (i + j) n
  | [], i, o, d, h, ho, hi, j, n, hj => by simp at hj
  | m :: l, i, o, d, h, ho, hi, j, n, hj => by
    unfold goC at h
    split at h
    · exact absurd h (by decide)
    · rename_i o' d' hs
      obtain ⟨h1, h2⟩ := step_ref hs ho hi
      cases j with
      | zero =>
        have : m = n := by simpa using hj
        subst this
        simpa using h1
      | succ j =>
        have := go_ref l (i + 1) o' d' h h2 (by omega) j n (by simpa using hj)
        rw [show i + ((j + 1 : Nat) : Int) = i + 1 + (j : Int) from by omega]
        exact this
theorem check_ref {l : List Nd} (h : checkF l = 0) : 0 < l.length ∧ l.length ≤ 60 ∧ ∀ (j : Nat) (n : Nd), l[j]? = some n → okRef j n := by
  unfold checkF at h
  split at h
  · exact absurd h (by decide)
  · refine ⟨?_, by omega, fun j n hj => ?_⟩
    · cases l with
      | nil => exact absurd h (by decide)
      | cons a r => simp
    · have := go_ref l 0 [] [] h (fun y hy => by cases hy) (Int.le_refl _) j n hj
      simpa using this

/-! ### The values of nodes -/
def val (tg : ByteArray → Bool) (n : Nd) (vs : List Bool) : Bool :=
  if n.kind = 0 then tg n.tag else if n.kind = 1 then !(vs.getD n.a.toNat false) else if n.kind = 2 then (vs.getD n.a.toNat false && vs.getD n.b.toNat false) else (vs.getD n.a.toNat false || vs.getD n.b.toNat false)
def vals (tg : ByteArray → Bool) : List Nd → List Bool → List Bool
  | [], vs => vs
  | n :: r, vs => vals tg r (vs ++ [val tg n vs])
def runF (tg : ByteArray → Bool) (l : List Nd) : Bool := (vals tg l []).getD (l.length - 1) false
theorem vals_len (tg : ByteArray → Bool) : ∀ (l : List Nd) (vs : List Bool), (vals tg l vs).length = vs.length + l.length
  | [], vs => by simp [vals]
  | n :: r, vs => by rw [vals, vals_len tg r]; simp; omega

def evalF (l : List Nd) (tags : List ByteArray) : Bool := decide (checkF l = 0) && runF (fun t => Lib.containsS tags t) l
end Go.Proofs.YtjndccjpjknbkaaDoor.ExSem

