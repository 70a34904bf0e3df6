/- What is read of an argument, kind by kind: what a row's reader reads of a value of such a type is one of the print's kinds. No condition but the machine's own. -/
import Derived.Deep.Slices
import Derived.SizedLaws
import Derived.ChangeArms
import Derived.WideShapes
import Derived.Test.YtjndccjpjknbkaaDoorWWords
namespace Go.Proofs.YtjndccjpjknbkaaDoor.Opens
open Go.RowKit Go.ChangeShapes Go.WideShapes Go.Proofs.YtjndccjpjknbkaaDoorW.PrintWords
set_option linter.unusedVariables false

/-- Whatever is read at this type is of this kind, and of this size. -/
def Opens {α : Type} (P : Program) (t : TypeId) (d : Kd α) (ok : α → Prop) : Prop :=
  ∀ {H : Type} (enc : TypeId × Value → H) (W : World) (base : Nat) (sp : Nat → Bool) (held : Bool) (fuel : Nat) (cs : List Value) (x : DataW H × List MemPlace),
    DataW.trod enc P W base sp held fuel t cs = some x → (DataW.weights P t x.1).all (· ≤ reachBytes) = true → ∃ a, d.K W a cs ∧ ok a

theorem opens_int {P : Program} {t : TypeId} {k : IntKind} (h : P.underlying t = some (.int k)) : Opens P t (Kd.int k) (fun n => (Lit.int k n).wf = true) := by
  intro H enc W base sp held fuel cs x hx _
  obtain ⟨n, hcs, _, hw⟩ := DataW.trod_int h hx
  exact ⟨n, hcs, hw⟩
theorem add_add (b : Addr) (p q : Nat) : (b.add p).add q = b.add (p + q) := by
  unfold Addr.add
  rcases Nat.eq_zero_or_pos p with rfl | hp
  · simp
  · rcases Nat.eq_zero_or_pos q with rfl | hq
    · simp
    · rw [if_neg (by omega), if_neg (by omega), if_neg (by omega)]
      simp [Nat.add_assoc]

theorem weights_of_all {H : Type} {P : Program} {e : TypeId} : ∀ {ds : List (DataW H)}, (DataW.weightsAll P e ds).all (· ≤ reachBytes) = true → ∀ d ∈ ds, (DataW.weights P e d).all (· ≤ reachBytes) = true
  | [], _, d, hd => by cases hd
  | x :: ds, h, d, hd => by
    rw [DataW.weightsAll, List.all_append, Bool.and_eq_true] at h
    rcases List.mem_cons.1 hd with rfl | hd
    · exact h.1
    · exact weights_of_all h.2 d hd

theorem opens_slice {α : Type} {P : Program} {t e : TypeId} {d : Kd α} {ok : α → Prop} {B : Nat} (ht : P.underlying t = some (.slice e)) (ho : Opens P e d ok) (hs : d.sz = P.cellsOf e) (hB : P.bytesOf e = B) :
    Opens P t (Kd.slice e d) (fun xs => xs.length * B ≤ 140737488351232 ∧ ∀ x ∈ xs, ok x) := by
  intro H enc W base sp held fuel cs x hx hw
  rcases Go.Deep.open_slice ht hx with ⟨rfl, rfl⟩ | ⟨a, len, cap, m, n, D, Pl, rfl, hb, hl, hm, hmm, rfl, hel⟩
  · exact ⟨[], ⟨none, 0, rfl, Nat.le_refl _, rfl, Nat.zero_le _, fun h => absurd h (Nat.lt_irrefl 0)⟩, by simp, fun x hx => by cases hx⟩
  · simp only [DataW.weights, ht] at hw
    rw [List.all_cons, Bool.and_eq_true, List.all_append, Bool.and_eq_true] at hw
    obtain ⟨hw1, hw2, _⟩ := hw
    have hle : len ≤ m := by rw [hmm]; split <;> omega
    have hel2 : ∀ i, i < len → ∃ a1 cs', W.cells? base (a.add (i * P.cellsOf e)) (P.cellsOf e) = some cs' ∧ d.K W a1 cs' ∧ ok a1 := by
      intro i hi
      obtain ⟨cs', h1, h2⟩ := hel i (by omega)
      obtain ⟨a1, h3, h4⟩ := ho enc W base sp held n cs' _ h2 (weights_of_all hw2 _ (by simp only [List.mem_map, List.mem_range]; exact ⟨i, hi, rfl⟩))
      exact ⟨a1, cs', h1, h3, h4⟩
    clear hel
    have hcap : len ≤ 9223372036854775807 := Nat.le_trans hl hm
    have hB2 : len * B ≤ 140737488351232 := by
      have h1 := of_decide_eq_true hw1
      simp only [List.length_map, List.length_range] at h1
      rw [hB] at h1
      exact Nat.le_trans (Nat.mul_le_mul_right _ (Nat.le_add_right _ _)) h1
    rcases Nat.eq_zero_or_pos len with h0 | h0
    · subst h0
      exact ⟨[], ⟨some a, cap, rfl, Nat.zero_le _, rfl, Nat.zero_le _, fun h => absurd h (Nat.lt_irrefl 0)⟩, by simp, fun x hx => by cases hx⟩
    · obtain ⟨z, _⟩ := hel2 0 h0
      haveI : Inhabited α := ⟨z⟩
      obtain ⟨f, hf⟩ := Go.Deep.choose_lt hel2
      have hlen : ((List.range len).map f).length = len := by simp
      refine ⟨(List.range len).map f, ⟨some a, cap, by rw [hlen], by rw [hlen]; exact hl, rfl, by rw [hlen]; exact hcap, fun _ => ⟨a, rfl, ?_⟩⟩, by rw [hlen]; exact hB2, ?_⟩
      · intro j p hj
        obtain ⟨hj2, rfl⟩ : j < len ∧ f j = p := by
          rw [List.getElem?_map] at hj
          by_cases hjl : j < len
          · rw [List.getElem?_range hjl] at hj
            exact ⟨hjl, Option.some.inj hj⟩
          · rw [List.getElem?_eq_none (by simp; omega)] at hj; cases hj
        obtain ⟨cs', h1, h2, h3⟩ := hf j hj2
        obtain ⟨_, g2, g3⟩ := World.cells?_some h1
        refine ⟨cs', by rw [g2, hs], h2, fun i u hu => ?_⟩
        have hi : i < P.cellsOf e := by
          by_cases h : i < cs'.length
          · omega
          · rw [List.getElem?_eq_none (by omega)] at hu; cases hu
        have := g3 i hi
        rw [hu] at this
        rw [hs]
        have e1 : (a.add (j * P.cellsOf e)).add i = a.add (j * P.cellsOf e + i) := add_add _ _ _
        rw [← e1]; exact this
      · intro x hx
        obtain ⟨j, hj, rfl⟩ := List.mem_map.1 hx
        obtain ⟨_, _, _, h⟩ := hf j (List.mem_range.1 hj)
        exact h

/-- An argument of a row. -/
theorem opens_arg {α : Type} {P : Program} {d : Kd α} {ok : α → Prop} {H : Type} {enc : TypeId × Value → H} {W : World} {sp : Nat → Bool} {held : Bool} {base : Nat} {ts : List TypeId} {ds : List (DataW H)} {j : Nat} {t : TypeId} {v : Value} {x : DataW H} {ps : List MemPlace}
    (ho : Opens P t d ok) (hsz : (DataW.weightsEach P ts ds).all (· ≤ reachBytes) = true) (ht : ts[j]? = some t) (hd : ds[j]? = some x) (h : DataW.Trod enc P W base sp held t v x ps) : ∃ a, d.K W a v.cells.toList ∧ ok a := by
  obtain ⟨fuel, hf⟩ := h
  exact ho enc W base sp held fuel _ _ hf (List.all_eq_true.2 fun n hn => List.all_eq_true.1 hsz n (DataW.weights_mem_each ht hd n hn))

/-- An argument that is a slice. -/
theorem arg_slice {α : Type} {P : Program} {e : TypeId} {d : Kd α} {ok : List α → Prop} {H : Type} {enc : TypeId × Value → H} {W : World} {sp : Nat → Bool} {held : Bool} {base b2 : Nat} {rd : Reach} {ts : List TypeId} {ds : List (DataW H)} {j : Nat} {t : TypeId} {v : Value} {x : DataW H} {ps : List MemPlace}
    (hu : P.underlying t = some (.slice e)) (hv : Value.okWide P W rd b2 t v)
    (ho : Opens P t (Kd.slice e d) ok) (hsz : (DataW.weightsEach P ts ds).all (· ≤ reachBytes) = true) (ht : ts[j]? = some t) (hd : ds[j]? = some x) (h : DataW.Trod enc P W base sp held t v x ps) :
    ∃ A c xs, v = .slice A xs.length c ∧ xs.length ≤ c ∧ Kd.C d W A xs.length xs ∧ ok xs := by
  obtain ⟨a, len, cap, rfl⟩ := okWide_slice hu hv
  obtain ⟨xs, hK, hok⟩ := opens_arg ho hsz ht hd h
  obtain ⟨A, c, e1, hl, hC⟩ := hK
  have e2 := List.head_eq_of_cons_eq e1
  exact ⟨A, c, xs, e2, hl, hC, hok⟩
end Go.Proofs.YtjndccjpjknbkaaDoor.Opens

