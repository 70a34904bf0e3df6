/- What is read of an argument, kind by kind: what a row's reader reads of a value of such a type is one of the print's kinds. No condition but the machine's own. -/
import Derived.Deep.Slices
import Derived.SizedLaws
import Derived.ChangeArms
import Derived.WideShapes
import Derived.Test.YtmocfgghccmdgaaWWords
namespace Go.Proofs.Ytmocfgghccmdgaa.Opens
open Go.RowKit Go.ChangeShapes Go.WideShapes Go.Proofs.YtmocfgghccmdgaaW.PrintWords
set_option linter.unusedVariables false

/-- Whatever is read at this type is of this kind, and of this size. -/
def Opens {α : Type} (P : Program) (t : TypeId) (d : Kd α) (ok : α → Prop) : Prop :=
  ∀ {H : Type} (enc : TypeId × Value → H) (W : World) (base : Nat) (sp : Nat → Bool) (held : Bool) (fuel : Nat) (cs : List Value) (x : DataW H × List MemPlace),
    DataW.trod enc P W base sp held fuel t cs = some x → (DataW.weights P t x.1).all (· ≤ reachBytes) = true → ∃ a, d.K W a cs ∧ ok a

theorem opens_string {P : Program} {t : TypeId} (h : P.underlying t = some .string) : Opens P t Kd.string (fun s => s.size ≤ 140737488351232) := by
  intro H enc W base sp held fuel cs x hx hw
  obtain ⟨s, hcs, rfl, _⟩ := DataW.trod_string h hx
  refine ⟨s, hcs, ?_⟩
  have := List.all_eq_true.1 hw s.data.toList.length (by simp [DataW.weights])
  have h2 := of_decide_eq_true this
  exact h2

theorem add_add (b : Addr) (p q : Nat) : (b.add p).add q = b.add (p + q) := by
  unfold Addr.add
  rcases Nat.eq_zero_or_pos p with rfl | hp
  · simp
  · rcases Nat.eq_zero_or_pos q with rfl | hq
    · simp
    · rw [if_neg (by omega), if_neg (by omega), if_neg (by omega)]
      simp [Nat.add_assoc]

theorem weights_of_all {H : Type} {P : Program} {e : TypeId} : ∀ {ds : List (DataW H)}, (DataW.weightsAll P e ds).all (· ≤ reachBytes) = true → ∀ d ∈ ds, (DataW.weights P e d).all (· ≤ reachBytes) = true
  | [], _, d, hd => by cases hd
  | x :: ds, h, d, hd => by
    rw [DataW.weightsAll, List.all_append, Bool.and_eq_true] at h
    rcases List.mem_cons.1 hd with rfl | hd
    · exact h.1
    · exact weights_of_all h.2 d hd

theorem opens_slice {α : Type} {P : Program} {t e : TypeId} {d : Kd α} {ok : α → Prop} {B : Nat} (ht : P.underlying t = some (.slice e)) (ho : Opens P e d ok) (hs : d.sz = P.cellsOf e) (hB : P.bytesOf e = B) :
    Opens P t (Kd.slice e d) (fun xs => xs.length * B ≤ 140737488351232 ∧ ∀ x ∈ xs, ok x) := by
  intro H enc W base sp held fuel cs x hx hw
  rcases Go.Deep.open_slice ht hx with ⟨rfl, rfl⟩ | ⟨a, len, cap, m, n, D, Pl, rfl, hb, hl, hm, hmm, rfl, hel⟩
  · exact ⟨[], ⟨none, 0, rfl, Nat.le_refl _, rfl, Nat.zero_le _, fun h => absurd h (Nat.lt_irrefl 0)⟩, by simp, fun x hx => by cases hx⟩
  · simp only [DataW.weights, ht] at hw
    rw [List.all_cons, Bool.and_eq_true, List.all_append, Bool.and_eq_true] at hw
    obtain ⟨hw1, hw2, _⟩ := hw
    have hle : len ≤ m := by rw [hmm]; split <;> omega
    have hel2 : ∀ i, i < len → ∃ a1 cs', W.cells? base (a.add (i * P.cellsOf e)) (P.cellsOf e) = some cs' ∧ d.K W a1 cs' ∧ ok a1 := by
      intro i hi
      obtain ⟨cs', h1, h2⟩ := hel i (by omega)
      obtain ⟨a1, h3, h4⟩ := ho enc W base sp held n cs' _ h2 (weights_of_all hw2 _ (by simp only [List.mem_map, List.mem_range]; exact ⟨i, hi, rfl⟩))
      exact ⟨a1, cs', h1, h3, h4⟩
    clear hel
    have hcap : len ≤ 9223372036854775807 := Nat.le_trans hl hm
    have hB2 : len * B ≤ 140737488351232 := by
      have h1 := of_decide_eq_true hw1
      simp only [List.length_map, List.length_range] at h1
      rw [hB] at h1
      exact Nat.le_trans (Nat.mul_le_mul_right _ (Nat.le_add_right _ _)) h1
    rcases Nat.eq_zero_or_pos len with h0 | h0
    · subst h0
      exact ⟨[], ⟨some a, cap, rfl, Nat.zero_le _, rfl, Nat.zero_le _, fun h => absurd h (Nat.lt_irrefl 0)⟩, by simp, fun x hx => by cases hx⟩
    · obtain ⟨z, _⟩ := hel2 0 h0
      haveI : Inhabited α := ⟨z⟩
      obtain ⟨f, hf⟩ := Go.Deep.choose_lt hel2
      have hlen : ((List.range len).map f).length = len := by simp
      refine ⟨(List.range len).map f, ⟨some a, cap, by rw [hlen], by rw [hlen]; exact hl, rfl, by rw [hlen]; exact hcap, fun _ => ⟨a, rfl, ?_⟩⟩, by rw [hlen]; exact hB2, ?_⟩
      · intro j p hj
        obtain ⟨hj2, rfl⟩ : j < len ∧ f j = p := by
          rw [List.getElem?_map] at hj
          by_cases hjl : j < len
          · rw [List.getElem?_range hjl] at hj
            exact ⟨hjl, Option.some.inj hj⟩
          · rw [List.getElem?_eq_none (by simp; omega)] at hj; cases hj
        obtain ⟨cs', h1, h2, h3⟩ := hf j hj2
        obtain ⟨_, g2, g3⟩ := World.cells?_some h1
        refine ⟨cs', by rw [g2, hs], h2, fun i u hu => ?_⟩
        have hi : i < P.cellsOf e := by
          by_cases h : i < cs'.length
          · omega
          · rw [List.getElem?_eq_none (by omega)] at hu; cases hu
        have := g3 i hi
        rw [hu] at this
        rw [hs]
        have e1 : (a.add (j * P.cellsOf e)).add i = a.add (j * P.cellsOf e + i) := add_add _ _ _
        rw [← e1]; exact this
      · intro x hx
        obtain ⟨j, hj, rfl⟩ := List.mem_map.1 hx
        obtain ⟨_, _, _, h⟩ := hf j (List.mem_range.1 hj)
        exact h

/-- The fields of a struct, from a place on. -/
def OpensF {α : Type} (P : Program) (fs : List Field) (off n : Nat) (d : Kd α) (ok : α → Prop) : Prop :=
  ∀ {H : Type} (enc : TypeId × Value → H) (W : World) (base : Nat) (sp : Nat → Bool) (held : Bool) (fuel : Nat) (cs : List Value) (ds : List (DataW H)),
    cs.length = n → (∀ (i : Nat) (f : Field), fs[i]? = some f → ∃ y, DataW.trod enc P W base sp held fuel f.type ((cs.drop f.offset).take (P.cellsOf f.type)) = some y ∧ ds[i]? = some y.1) →
    (DataW.weightsEach P (fs.map (·.type)) ds).all (· ≤ reachBytes) = true → ∃ a, d.K W a (cs.drop off) ∧ ok a

theorem opensF_one {α : Type} {P : Program} {f : Field} {off n : Nat} {d : Kd α} {ok : α → Prop} (ho : Opens P f.type d ok) (h0 : f.offset = off) (hn : off + P.cellsOf f.type = n) : OpensF P [f] off n d ok := by
  intro H enc W base sp held fuel cs ds hl h hw
  obtain ⟨y, h1, h2⟩ := h 0 f rfl
  match ds, h2 with
  | z :: ds, h2 =>
    obtain rfl : z = y.1 := Option.some.inj h2
    rw [List.map_cons, DataW.weightsEach, List.all_append, Bool.and_eq_true] at hw
    rw [h0, List.take_of_length_le (by rw [List.length_drop]; omega)] at h1
    exact ho enc W base sp held fuel _ y h1 hw.1
theorem opensF_cons {α β : Type} {P : Program} {f : Field} {fs : List Field} {off n : Nat} {d0 : Kd α} {ok0 : α → Prop} {d1 : Kd β} {ok1 : β → Prop} (ho : Opens P f.type d0 ok0) (h0 : f.offset = off)
    (hr : OpensF P fs (off + P.cellsOf f.type) n d1 ok1) : OpensF P (f :: fs) off n (Kd.pair d0 d1) (fun a => ok0 a.1 ∧ ok1 a.2) := by
  intro H enc W base sp held fuel cs ds hl h hw
  obtain ⟨y, h1, h2⟩ := h 0 f rfl
  match ds, h2, h with
  | z :: ds, h2, h =>
    obtain rfl : z = y.1 := Option.some.inj h2
    rw [List.map_cons, DataW.weightsEach, List.all_append, Bool.and_eq_true] at hw
    rw [h0] at h1
    obtain ⟨a, g1, g2⟩ := ho enc W base sp held fuel _ y h1 hw.1
    obtain ⟨b, g3, g4⟩ := hr enc W base sp held fuel cs ds hl (fun i f' hf => h (i + 1) f' hf) hw.2
    refine ⟨(a, b), ⟨_, _, ?_, g1, g3⟩, g2, g4⟩
    rw [← List.drop_drop, List.take_append_drop]
theorem opens_struct {α β : Type} {P : Program} {t : TypeId} {fs : Array Field} {d : Kd α} {ok : α → Prop} (ht : P.underlying t = some (.struct fs)) (ho : OpensF P fs.toList 0 (P.cellsOf t) d ok) (f : β → α) (g : α → β) (hg : ∀ a, f (g a) = a) :
    Opens P t (Kd.iso d f) (fun b => ok (f b)) := by
  intro H enc W base sp held fuel cs x hx hw
  obtain ⟨xs, n, rfl, rfl, hl, hxl, h⟩ := DataW.trod_struct ht hx
  simp only [DataW.weights, ht] at hw
  obtain ⟨a, h1, h2⟩ := ho enc W base sp held n cs (xs.map (·.1)) hl (fun i f' hf => by
    have h3 := h i f' (by rw [← Array.getElem?_toList]; exact hf)
    have hi : i < xs.length := by
      rw [hxl]
      by_cases hh : i < fs.size
      · exact hh
      · rw [List.getElem?_eq_none (by simpa using Nat.le_of_not_lt hh)] at hf; cases hf
    rw [List.getElem?_eq_getElem hi] at h3
    exact ⟨xs[i], h3, by rw [List.getElem?_map, List.getElem?_eq_getElem hi]; rfl⟩) hw
  exact ⟨g a, by rw [List.drop_zero] at h1; show d.K W (f (g a)) cs; rw [hg]; exact h1, by show ok (f (g a)); rw [hg]; exact h2⟩

/-- An argument of a row. -/
theorem opens_arg {α : Type} {P : Program} {d : Kd α} {ok : α → Prop} {H : Type} {enc : TypeId × Value → H} {W : World} {sp : Nat → Bool} {held : Bool} {base : Nat} {ts : List TypeId} {ds : List (DataW H)} {j : Nat} {t : TypeId} {v : Value} {x : DataW H} {ps : List MemPlace}
    (ho : Opens P t d ok) (hsz : (DataW.weightsEach P ts ds).all (· ≤ reachBytes) = true) (ht : ts[j]? = some t) (hd : ds[j]? = some x) (h : DataW.Trod enc P W base sp held t v x ps) : ∃ a, d.K W a v.cells.toList ∧ ok a := by
  obtain ⟨fuel, hf⟩ := h
  exact ho enc W base sp held fuel _ _ hf (List.all_eq_true.2 fun n hn => List.all_eq_true.1 hsz n (DataW.weights_mem_each ht hd n hn))

/-- An argument that is a slice. -/
theorem arg_slice {α : Type} {P : Program} {e : TypeId} {d : Kd α} {ok : List α → Prop} {H : Type} {enc : TypeId × Value → H} {W : World} {sp : Nat → Bool} {held : Bool} {base b2 : Nat} {rd : Reach} {ts : List TypeId} {ds : List (DataW H)} {j : Nat} {t : TypeId} {v : Value} {x : DataW H} {ps : List MemPlace}
    (hu : P.underlying t = some (.slice e)) (hv : Value.okWide P W rd b2 t v)
    (ho : Opens P t (Kd.slice e d) ok) (hsz : (DataW.weightsEach P ts ds).all (· ≤ reachBytes) = true) (ht : ts[j]? = some t) (hd : ds[j]? = some x) (h : DataW.Trod enc P W base sp held t v x ps) :
    ∃ A c xs, v = .slice A xs.length c ∧ xs.length ≤ c ∧ Kd.C d W A xs.length xs ∧ ok xs := by
  obtain ⟨a, len, cap, rfl⟩ := okWide_slice hu hv
  obtain ⟨xs, hK, hok⟩ := opens_arg ho hsz ht hd h
  obtain ⟨A, c, e1, hl, hC⟩ := hK
  have e2 := List.head_eq_of_cons_eq e1
  exact ⟨A, c, xs, e2, hl, hC, hok⟩
end Go.Proofs.Ytmocfgghccmdgaa.Opens

