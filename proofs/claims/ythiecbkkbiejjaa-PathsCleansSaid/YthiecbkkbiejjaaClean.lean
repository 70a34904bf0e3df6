/- How a text is cleaned: the walk. -/
import Derived.Test.YthiecbkkbiejjaaElems
import Derived.Test.YthiecbkkbiejjaaBPrefx1
import Derived.Test.YthiecbkkbiejjaaValid
import Derived.Test.YthiecbkkbiejjaaShelf
import Derived.WalkSmall
import Derived.Lib.JoinLaws
import Derived.Test.YthiecbkkbiejjaaSplitLib
namespace Go.Proofs.Ythiecbkkbiejjaa.Clean
open Go.RowKit Go.Shelf Go.Proofs.Ythiecbkkbiejjaa.Iter Go.Proofs.Ythiecbkkbiejjaa.Elems Go.Proofs.Ythiecbkkbiejjaa.BytesLib Go.Proofs.Ythiecbkkbiejjaa.SplitLib Go.Proofs.YthiecbkkbiejjaaW.PrintWords
set_option linter.unusedVariables false
set_option linter.unusedSimpArgs false
attribute [local go_sem] Oper.semAt_some

/-- Is there an element to go up from? -/
def up (out : List ByteArray) : Bool := match out.getLast? with
  | some l => !(l.toList == [46, 46])
  | none => false
def step (root : Bool) (out : List ByteArray) (e : ByteArray) : List ByteArray :=
  if e.toList = [] then out
  else if e.toList = [46] then out
  else if e.toList = [46, 46] then (if up out = true then out.dropLast else if root = true then out else out ++ [e])
  else out ++ [e]
def steps (root : Bool) (l : List ByteArray) : List ByteArray := l.foldl (step root) []
def root (s : ByteArray) : Bool := (s.extract 0 1).toList == [47] && decide (1 ≤ s.size)
def joined (l : List ByteArray) : ByteArray := ⟨(Lib.join (l.map (·.data.toList)) [47]).toArray⟩
def clean (s : ByteArray) : ByteArray :=
  if root s = true then (⟨#[47]⟩ : ByteArray) ++ joined (steps (root s) (elems s)) else if (joined (steps (root s) (elems s))).toList = [] then ⟨#[46]⟩ else joined (steps (root s) (elems s))

theorem steps_snoc (r : Bool) (l : List ByteArray) (e : ByteArray) : steps r (l ++ [e]) = step r (steps r l) e := by
  unfold steps
  rw [List.foldl_append]; rfl
theorem step_length (r : Bool) (out : List ByteArray) (e : ByteArray) : (step r out e).length ≤ out.length + 1 := by
  unfold step
  split
  · omega
  · split
    · omega
    · split
      · split
        · rw [List.length_dropLast]; omega
        · split <;> simp
      · simp
theorem steps_length (r : Bool) (l : List ByteArray) : (steps r l).length ≤ l.length := by
  have gen : ∀ (l out : List ByteArray), (l.foldl (step r) out).length ≤ out.length + l.length := by
    intro l
    induction l with
    | nil => intro out; simp
    | cons e l ih =>
      intro out
      have := ih (step r out e)
      have := step_length r out e
      simp only [List.foldl_cons, List.length_cons]
      omega
  have := gen l []
  simpa [steps] using this
theorem step_mem (r : Bool) (out : List ByteArray) (e : ByteArray) : ∀ x ∈ step r out e, x ∈ out ∨ x = e := by
  intro x hx
  unfold step at hx
  split at hx
  · exact .inl hx
  · split at hx
    · exact .inl hx
    · split at hx
      · split at hx
        · exact .inl (List.dropLast_subset _ hx)
        · split at hx
          · exact .inl hx
          · simpa using hx
      · simpa using hx

theorem root_calls (s : ByteArray) (w : World) : Calls Try.prog 32 #[.string s, .string ⟨#[47]⟩] w fun e w' => e = .returned (.bool (root s)) ∧ Drawn0 w w' := by
  refine BPref.strings_HasPrefix.calls s ⟨#[47]⟩ (root s) w ?_
  unfold BPref.strings_HasPrefix.f BPref.stringslite_HasPrefix.f root
  have e : ((⟨#[47]⟩ : ByteArray).size : Int) = 1 := rfl
  rw [e]
  by_cases h : (s.size : Int) ≥ 1
  · rw [if_pos h, if_pos (by omega), if_pos (by omega), decide_eq_true (show 1 ≤ s.size by omega), Bool.and_true]
    simp only [Option.bind_some, show (1 : Int).toNat = 1 from rfl, show ((⟨#[47]⟩ : ByteArray)).toList = [47] from (toList_L _).trans rfl]
  · rw [if_neg h, decide_eq_false (show ¬ 1 ≤ s.size by omega), Bool.and_false]; rfl

theorem own_stack (n₀ B Br : Nat) (r : Bool) : Own (fun (pre : List ByteArray) W => (∃ v, Boxed W B 28 v ∧ W.ownsRow n₀ 9 1 v (steps r pre).length ((steps r pre).map Value.string)) ∧ Boxed W Br 4 (.bool r)) := by
  rintro s A A' row ⟨⟨v, hv, hr⟩, hb⟩ hg hrow
  obtain ⟨v', h1, h2, _⟩ := holdsRow_own n₀ B 28 9 1 (fun l : List ByteArray => (steps r l).length) (fun l => (steps r l).map Value.string) (fun _ _ => True) s A A' row ⟨v, hv, hr, trivial⟩ hg hrow
  exact ⟨⟨v', h1, h2⟩, hb.kept hg (fun e => by obtain ⟨o, ho, hc⟩ := hrow Br e.symm; rw [show A.heap[Br]? = _ from hb] at ho; cases ho; cases hc)⟩

theorem bears_stack (B Bs Br n₀ : Nat) (r : Bool) (h1 : B ≠ Bs) (h2 : B ≠ Br) (hn : n₀ ≤ B) (w0 : World) (hw : n₀ ≤ w0.heap.size) :
    Bears B (fun (pre : List ByteArray) W => ((∃ v, Boxed W Bs 28 v ∧ W.ownsRow (B + 1) 9 1 v (steps r pre).length ((steps r pre).map Value.string)) ∧ Boxed W Br 4 (.bool r)) ∧ Below n₀ w0 W) := by
  rintro s A A' ⟨⟨⟨v, hv, hr⟩, hb⟩, hB⟩ hg
  refine ⟨⟨⟨v, hv.kept hg (by simpa using fun e => h1 e.symm), hr.kept hg ?_⟩, hb.kept hg (by simpa using fun e => h2 e.symm)⟩, ⟨hg.os.trans hB.os, hg.tape.trans hB.tape, hg.output.trans hB.output, Nat.le_trans hB.size hg.size, fun k hk => ?_⟩⟩
  · rcases hr.2 with ⟨rfl, _⟩ | ⟨g, cap, cur, rfl, hb, _, _⟩
    · exact .inl rfl
    · refine .inr fun e' => ?_
      have : g = B := by simpa [Value.ownBlock] using e'
      omega
  · exact (hg.block k (by have := hB.size; omega) (by simp; omega)).trans (hB.block k hk)

theorem up_last (init : List ByteArray) (l : ByteArray) : up (init ++ [l]) = !(l.toList == [46, 46]) := by
  unfold up
  rw [List.getLast?_append, List.getLast?_singleton]; rfl

def tot (l : List ByteArray) : Nat := (l.map (fun x => x.size + 1)).sum
theorem tot_append (a b : List ByteArray) : tot (a ++ b) = tot a + tot b := by simp [tot]
theorem step_tot (r : Bool) (out : List ByteArray) (e : ByteArray) : tot (step r out e) ≤ tot out + (e.size + 1) := by
  have e1 : tot (out ++ [e]) = tot out + (e.size + 1) := by simp [tot]
  have e2 : tot out.dropLast ≤ tot out := by
    rcases out.eq_nil_or_concat with rfl | ⟨i, l, rfl⟩
    · simp
    · rw [List.concat_eq_append, List.dropLast_concat, tot_append]; omega
  unfold step
  split
  · omega
  · split
    · omega
    · split
      · split
        · omega
        · split <;> omega
      · omega
theorem steps_tot (r : Bool) (l : List ByteArray) : tot (steps r l) ≤ tot l := by
  have gen : ∀ (l out : List ByteArray), tot (l.foldl (step r) out) ≤ tot out + tot l := by
    intro l
    induction l with
    | nil => intro out; simp
    | cons e l ih =>
      intro out
      have := ih (step r out e)
      have := step_tot r out e
      have : tot (e :: l) = (e.size + 1) + tot l := by simp [tot]
      simp only [List.foldl_cons]
      omega
  have := gen l []
  simpa [steps, tot] using this
theorem joinL_len : ∀ (l : List (List UInt8)), l ≠ [] → (joinL 47 l).length + 1 = (l.map (fun x => x.length + 1)).sum
  | [], h => absurd rfl h
  | [a], _ => by simp [joinL]
  | a :: b :: t, _ => by
    have := joinL_len (b :: t) (by simp)
    rw [joinL_cons 47 a (by simp)]
    simp only [List.length_append, List.length_cons, List.map_cons, List.sum_cons] at this ⊢
    omega
theorem join_joinL (l : List (List UInt8)) : Lib.join l [47] = joinL 47 l := by
  induction l with
  | nil => rfl
  | cons a t ih =>
    cases t with
    | nil => rw [Lib.join_one]; rfl
    | cons b t =>
      rw [joinL_cons 47 a (by simp), ← ih]
      simp [Lib.join, List.intercalate]
theorem joined_len (l : List ByteArray) : (Lib.join (l.map (·.data.toList)) [47]).length ≤ tot l := by
  rw [join_joinL]
  cases l with
  | nil => simp [joinL]
  | cons a t =>
    have := joinL_len ((a :: t).map (·.data.toList)) (by simp)
    have e : (((a :: t).map (·.data.toList)).map (fun x => x.length + 1)).sum = tot (a :: t) := by
      simp only [tot, List.map_map]
      rfl
    omega
theorem elems_tot (s : ByteArray) : tot (elems s) ≤ s.size + 1 := by
  rw [elems_list]
  unfold elemsL
  split
  · simp [tot]
  · have h1 := joinL_len (splitL 47 (L s)) (splitL_ne _ _)
    rw [joinL_split] at h1
    have e : tot ((splitL 47 (L s)).map ofL) = ((splitL 47 (L s)).map (fun x => x.length + 1)).sum := by
      simp only [tot, List.map_map]
      rfl
    rw [e, ← h1]
    exact Nat.le_refl _
theorem clean_len (s : ByteArray) (r : Bool) : (Lib.join ((steps r (elems s)).map (·.data.toList)) [47]).length ≤ s.size + 1 := by
  have := joined_len (steps r (elems s))
  have := steps_tot r (elems s)
  have := elems_tot s
  omega

theorem own_slice {W : World} {n₀ : Nat} {e : TypeId} {size k : Nat} {v : Value} {xs : List Value} (h : W.ownsRow n₀ e size v k xs) : ∃ A c, v = .slice A k c := by
  rcases h.2 with ⟨rfl, rfl⟩ | ⟨g, cap, _, rfl, _⟩
  · exact ⟨_, _, rfl⟩
  · exact ⟨_, _, rfl⟩

theorem own_mono {w : World} {base base' : Nat} {e : TypeId} {size : Nat} {v : Value} {n : Nat} {xs : List Value} (h : w.ownsRow base e size v n xs) (hb : base' ≤ base) : w.ownsRow base' e size v n xs := by
  refine ⟨h.1, ?_⟩
  rcases h.2 with h | ⟨g, cap, cur, h1, h2, h3⟩
  · exact .inl h
  · exact .inr ⟨g, cap, cur, h1, Nat.le_trans hb h2, h3⟩

theorem join_calls {W : World} {n₀ : Nat} {A : Option Addr} {c : Nat} {l : List ByteArray} (h : W.ownsRow n₀ 9 1 (.slice A l.length c) l.length (l.map Value.string)) (hl : (Lib.join (l.map (·.data.toList)) [47]).length ≤ 140737488355328) (hn : l.length ≤ 140737488355328) :
    Calls Try.prog 33 #[.slice A l.length c, .string ⟨#[47]⟩] W fun e w' => e = .returned (.string (joined l)) ∧ Below W.heap.size W w' := by
  cases l with
  | nil =>
    refine (Try.strings_Join_none A c ⟨#[47]⟩ W).mono ?_
    rintro e w' ⟨rfl, rfl⟩
    exact ⟨rfl, Below.refl _ _⟩
  | cons a t =>
    rcases h.2 with ⟨h0, _⟩ | ⟨g, cap, cur, e, _, hb, hcap, _⟩
    · cases h0
    · injection e with e1 e2 e3
      subst e1 e3
      have hx : ∀ (j : Nat) x, (a :: t)[j]? = some x → W.cell? ⟨g, 0 + j, none⟩ = some (.string x) := by
        intro j x hj
        have hjl : j < (a :: t).length := (List.getElem?_eq_some_iff.1 hj).1
        rw [Nat.zero_add, h.cellAt j (by simpa using hjl), List.getElem?_map, hj]; rfl
      exact Try.strings_Join g 0 _ (a :: t) ⟨#[47]⟩ W hx (Array.getElem?_eq_some_iff.1 hb).1 hn hcap hl

theorem appended_box {W w1 : World} {n₀ n₁ B : Nat} {t e : TypeId} {size : Nat} {v v' : Value} {k m : Nat} {xs ys : List Value} {tmp : Obj}
    (hv : Boxed W B t v) (hte : t ≠ e) (hrow : W.ownsRow n₀ e size v k xs) (h1 : n₁ ≤ n₀) (hn₀ : n₁ ≤ W.heap.size) (hB : n₁ ≤ B)
    (hown' : w1.ownsRow n₀ e size v' m ys) (hgrow : (W.alloc tmp).grownBy w1 v.ownBlock) :
    Boxed w1 B t v ∧ Boxed (w1.setCell ⟨B, 0, none⟩ v') B t v' ∧ (w1.setCell ⟨B, 0, none⟩ v').ownsRow n₀ e size v' m ys ∧ KeepsOthers W (w1.setCell ⟨B, 0, none⟩ v') ∧ Below n₁ W (w1.setCell ⟨B, 0, none⟩ v') ∧ ∀ b, b < n₀ → b ≠ B → b < W.heap.size → (w1.setCell ⟨B, 0, none⟩ v').heap[b]? = W.heap[b]? := by
  have hv1 : Boxed w1 B t v := (hv.alloc tmp).kept hgrow (hv.not_row hte hrow)
  obtain ⟨_, h2, _, h4, h5⟩ := hv.appended hte (own_mono hrow h1) hn₀ hB (own_mono hown' h1) hgrow
  refine ⟨hv1, h2, hown'.kept (grownBy_setCell' w1 B v') (.inr (hv1.not_row hte hown').symm), h4, h5, fun b hb hne hlt => ?_⟩
  refine (Below.heap_setCell w1 ⟨B, 0, none⟩ v' b (by simpa using hne)).trans ((hgrow.block b (by simp; omega) ?_).trans (Below.heap_alloc W tmp b hlt))
  intro e'
  rcases hrow.2 with ⟨rfl, _⟩ | ⟨g, cap, cur, rfl, hg, _⟩
  · cases e'
  · have : b = g := by simpa [Value.ownBlock] using e'
    omega

theorem step_skip {r : Bool} {out : List ByteArray} {e : ByteArray} (h : e.toList = [] ∨ e.toList = [46]) : step r out e = out := by
  unfold step
  rcases h with h | h
  · rw [if_pos h]
  · rw [if_neg (by rw [h]; simp), if_pos h]
theorem step_other {r : Bool} {out : List ByteArray} {e : ByteArray} (h1 : ¬ e.toList = []) (h2 : ¬ e.toList = [46]) (h3 : ¬ e.toList = [46, 46]) : step r out e = out ++ [e] := by
  unfold step
  rw [if_neg h1, if_neg h2, if_neg h3]
theorem step_up {r : Bool} {out : List ByteArray} {e : ByteArray} (h : e.toList = [46, 46]) (hu : up out = true) : step r out e = out.dropLast := by
  unfold step
  rw [if_neg (by rw [h]; simp), if_neg (by rw [h]; simp), if_pos h, if_pos hu]
theorem step_down {r : Bool} {out : List ByteArray} {e : ByteArray} (h : e.toList = [46, 46]) (hu : up out = false) : step r out e = if r = true then out else out ++ [e] := by
  unfold step
  rw [if_neg (by rw [h]; simp), if_neg (by rw [h]; simp), if_pos h, if_neg (by rw [hu]; simp)]

set_option maxRecDepth 100000 in
set_option maxHeartbeats 8000000 in
theorem Clean_calls (s : ByteArray) (hs : s.size ≤ 8796093022206) (w : World) :
    Calls Try.prog 22 #[.string s] w fun e w' => e = .returned (.string (clean s)) ∧ Below w.heap.size w w' := by
  obtain ⟨i0, hi, hz0, hz1, hz2⟩ := info_parts info9
  have hEl := elems_length s
  have hJl := clean_len s (root s)
  have hJn := steps_length (root s) (elems s)
  refine (callsIn_wide (n := 4)).1 ?_
  refine callsIn_of_wp_marks Try.func22 rfl trivial ?_ rfl
  simp only [Try.ntmps22, List.size_toArray, List.length_cons, List.length_nil, Nat.reduceAdd, Nat.reduceSub, Array.replicate_succ, Array.replicate_zero, List.push_toArray, List.append_toArray, List.nil_append, List.cons_append]
  gi_wp2_with (first | (refine ⟨trivial, ?_⟩; gi_at_call 32; refine (callsIn_wide.2 (root_calls s _)).mono ?_; rintro e w' ⟨rfl, ⟨nd, rfl⟩⟩; have bR := Boxed.new (w.drewN nd) 4 (.bool false); have bc : ((w.drewN nd).alloc (.cells #[.bool false] 4)).cell? ⟨w.heap.size, 0, none⟩ = some (.bool false) := bR.cell; have bf : ((w.drewN nd).alloc (.cells #[.bool false] 4)).frozen? ⟨w.heap.size, 0, none⟩ = false := bR.frozen) | (refine ⟨trivial, ?_⟩; gi_at_call 28; refine (callsIn_wide.2 (elems_calls s _)).mono ?_; rintro e w' ⟨rfl, rfl⟩))
  obtain ⟨r, hr⟩ : ∃ r, root s = r := ⟨_, rfl⟩
  have hcl : clean s = if r = true then (⟨#[47]⟩ : ByteArray) ++ joined (steps r (elems s)) else if (joined (steps r (elems s))).toList = [] then ⟨#[46]⟩ else joined (steps r (elems s)) := by unfold clean; rw [hr]
  rw [hr] at hJl hJn ⊢
  obtain ⟨wa, hwa⟩ : ∃ wa, ((w.drewN nd).alloc (.cells #[.bool false] 4)).setCell ⟨w.heap.size, 0, none⟩ (.bool r) = wa := ⟨_, rfl⟩
  have hsa : wa.heap.size = w.heap.size + 1 := by rw [← hwa]; simp
  have bRa : Boxed wa w.heap.size 4 (.bool r) := by rw [← hwa]; exact bR.set _
  have hBa : Below w.heap.size w wa := by
    rw [← hwa]
    exact ((pw_below_drewN (Below.refl _ w) nd).alloc (by simp) _).setCell (p := ⟨w.heap.size, 0, none⟩) (Nat.le_refl _) _
  rw [hwa]
  have bO : Boxed (wa.alloc (.cells #[.slice none 0 0] 28)) (w.heap.size + 1) 28 (.slice none 0 0) := by have := Boxed.new wa 28 (.slice none 0 0); rwa [hsa] at this
  have hB1 : ((wa.alloc (.cells #[.slice none 0 0] 28)).alloc (.cells #[.string s] 9)).heap[w.heap.size + 2]? = some (.cells #[.string s] 9 (0, 0)) := by
    have := blk_new (wa.alloc (.cells #[.slice none 0 0] 28)) (.cells #[.string s] 9); rwa [World.size_alloc, hsa] at this
  have hB0 : Below w.heap.size w ((wa.alloc (.cells #[.slice none 0 0] 28)).alloc (.cells #[.string s] 9)) := (hBa.alloc (by omega) _).alloc (by simp; omega) _
  obtain ⟨wz, hwz⟩ : ∃ wz, (wa.alloc (.cells #[.slice none 0 0] 28)).alloc (.cells #[.string s] 9) = wz := ⟨_, rfl⟩
  have bOz : Boxed wz (w.heap.size + 1) 28 (.slice none 0 0) := by rw [← hwz]; exact bO.alloc _
  have bRz : Boxed wz w.heap.size 4 (.bool r) := by rw [← hwz]; exact (bRa.alloc _).alloc _
  have hsz : wz.heap.size = w.heap.size + 3 := by rw [← hwz]; simp [hsa]
  rw [hwz] at hB1 hB0 ⊢
  clear bR bc bf hwa bRa hBa bO hwz hsa
  refine wpIn_rangeFunc_ownC rfl (by omega) (gf := 37) (lb := #[.pointer (some ⟨w.heap.size + 2, 0, none⟩)]) rfl trivial (enters_of Try.func37 (by kernel_rfl) rfl)
    (elems1 (4 - 1) (by omega) (w.heap.size + 2) s (by omega) _ hB1) (by omega) (Below.refl _ _) (fun _ => rfl)
    (fun pre W => ((∃ v, Boxed W (w.heap.size + 1) 28 v ∧ W.ownsRow (w.heap.size + 2 + 1) 9 1 v (steps r pre).length ((steps r pre).map Value.string)) ∧ Boxed W w.heap.size 4 (.bool r)) ∧ Below w.heap.size wz W)
    (fun _ _ _ => False)
    (OwnFrom.and (Own.from (own_stack _ _ _ _) _) (ownFrom_below (by omega) (by omega)))
    (fun _ _ _ _ _ hs' _ _ => hs')
    (bears_stack _ _ _ _ _ (by omega) (by omega) (by omega) _ (by omega))
    (fun _ _ _ _ hs' _ => hs')
    ⟨⟨⟨_, bOz, World.ownsRow_nil _ _ _ _⟩, bRz⟩, Below.refl _ _⟩
    (fun x => { tmps := #[.string s, undef, .string ⟨#[]⟩, .pointer (some ⟨w.heap.size, 0, none⟩), .pointer (some ⟨w.heap.size + 1, 0, none⟩), .string x, undef, undef, .string s, .bool r, .string s, .func (.func 37) #[] #[.pointer (some ⟨w.heap.size + 1 + 1, 0, none⟩)], .string x, undef, undef, undef, undef, undef, undef, undef, undef, undef, undef, undef, undef, undef, undef, undef, undef, undef, undef, undef, undef, undef, undef, undef, undef, undef, undef, undef, undef, undef, undef, undef, undef, undef, undef, undef, undef, undef, undef, undef, undef, undef, undef, undef, undef, undef, undef, undef, undef, undef, undef, undef], defers := [] }) ?assign ?body ?done ?stop
  case assign =>
    intro l x W K hK
    gi_wp2
    exact hK
  case body =>
    rintro l pre x W ⟨⟨⟨v, hv, hrow⟩, hbr⟩, hBw⟩ hlt
    have hT := steps_snoc r pre x
    have hpl : (steps r pre).length + 1 ≤ s.size + 1 := by
      obtain ⟨q, hq⟩ := hlt
      have h1 := congrArg List.length hq
      have h2 := steps_length r pre
      simp at h1
      omega
    have hW1 : w.heap.size + 2 + 1 ≤ W.heap.size := by have := hBw.size; omega
    obtain ⟨out, ho⟩ : ∃ out, steps r pre = out := ⟨_, rfl⟩
    rw [ho] at hT hpl hrow
    have hcr := hbr.cell
    have hc := hv.cell
    have hf := hv.frozen
    have HR := Aside0.mk hbr
    clear ho hbr hlt hB0 hB1 bOz bRz hcl
    have hx4 : x.toList = [] ∨ x.toList = [46] ∨ x.toList = [46, 46] ∨ (¬ x.toList = [] ∧ ¬ x.toList = [46] ∧ ¬ x.toList = [46, 46]) := by
      by_cases e1 : x.toList = []
      · exact .inl e1
      · by_cases e2 : x.toList = [46]
        · exact .inr (.inl e2)
        · by_cases e3 : x.toList = [46, 46]
          · exact .inr (.inr (.inl e3))
          · exact .inr (.inr (.inr ⟨e1, e2, e3⟩))
    rcases out.eq_nil_or_concat with rfl | ⟨init, la, rfl⟩
    · obtain ⟨A, c, rfl⟩ := own_slice hrow
      have hup : up [] = false := rfl
      simp only [List.length_nil, List.map_nil] at hrow hc hpl hv
      rcases hx4 with e1 | e1 | e1 | ⟨e1, e2, e3⟩
      · have b1 : x.toList.isEmpty = true := by rw [e1]; rfl
        have HT := Aside0.mk (hT.trans (step_skip (.inl e1)))
        clear hT e1
        gi_wp2
        exact ⟨KeepsOthers.refl _, rfl, ⟨⟨_, hv, by rw [HT.out]; exact hrow⟩, HR.out⟩, hBw⟩
      · have b1 : x.toList.isEmpty = false := by rw [e1]; rfl
        have b2 : (x.toList == [46]) = true := beq_iff_eq.2 e1
        have HT := Aside0.mk (hT.trans (step_skip (.inr e1)))
        clear hT e1
        gi_wp2
        exact ⟨KeepsOthers.refl _, rfl, ⟨⟨_, hv, by rw [HT.out]; exact hrow⟩, HR.out⟩, hBw⟩
      · have b1 : x.toList.isEmpty = false := by rw [e1]; rfl
        have b2 : (x.toList == [46]) = false := by rw [e1]; rfl
        have b3 : (x.toList == [46, 46]) = true := beq_iff_eq.2 e1
        cases r
        · have HT := Aside0.mk (hT.trans ((step_down e1 hup).trans (if_neg (by decide))))
          clear hT e1
          gi_wp2_with (gi_at_builtin; refine wpListIn_append_own _ rfl _ _ 28 rfl (w.heap.size + 2 + 1) 9 i0 (.string ⟨#[]⟩) 1 16 Try.underlying28 hi hz0 hz1 hz2 rfl (by decide) _ _ _ rfl (hrow.alloc _) ⟨W.heap.size, 0, none⟩ 1 1 [.string x] rfl rfl (cell_one_new _ _ _) (by simp [Value.oneCell']) (by unfold maxLen; omega) (by omega) (by simp; omega) ?_; intro v' w1 hown' hgrow _; obtain ⟨g', cap', rfl⟩ := ownsRow_succ hown'; obtain ⟨hv1, hv2, hr2, hk2, hb2, hB2⟩ := appended_box (n₁ := w.heap.size) hv (by decide) hrow (by omega) (by omega) (by omega) hown' hgrow; have hc1 := hv1.cell; have hf1 := hv1.frozen)
          refine ⟨hk2, hB2 (w.heap.size + 2) (by omega) (by omega) (by omega), ⟨⟨_, hv2, ?_⟩, ?_⟩, hBw.trans hb2⟩
          · rw [HT.out]; simpa using hr2
          · exact (hB2 w.heap.size (by omega) (by omega) (by omega)).trans HR.out
        · have HT := Aside0.mk (hT.trans ((step_down e1 hup).trans (if_pos rfl)))
          clear hT e1
          gi_wp2
          exact ⟨KeepsOthers.refl _, rfl, ⟨⟨_, hv, by rw [HT.out]; exact hrow⟩, HR.out⟩, hBw⟩
      · have b1 : x.toList.isEmpty = false := by simpa using e1
        have b2 : (x.toList == [46]) = false := beq_eq_false_iff_ne.2 e2
        have b3 : (x.toList == [46, 46]) = false := beq_eq_false_iff_ne.2 e3
        have HT := Aside0.mk (hT.trans (step_other e1 e2 e3))
        clear hT e1 e2 e3
        gi_wp2_with (gi_at_builtin; refine wpListIn_append_own _ rfl _ _ 28 rfl (w.heap.size + 2 + 1) 9 i0 (.string ⟨#[]⟩) 1 16 Try.underlying28 hi hz0 hz1 hz2 rfl (by decide) _ _ _ rfl (hrow.alloc _) ⟨W.heap.size, 0, none⟩ 1 1 [.string x] rfl rfl (cell_one_new _ _ _) (by simp [Value.oneCell']) (by unfold maxLen; omega) (by omega) (by simp; omega) ?_; intro v' w1 hown' hgrow _; obtain ⟨g', cap', rfl⟩ := ownsRow_succ hown'; obtain ⟨hv1, hv2, hr2, hk2, hb2, hB2⟩ := appended_box (n₁ := w.heap.size) hv (by decide) hrow (by omega) (by omega) (by omega) hown' hgrow; have hc1 := hv1.cell; have hf1 := hv1.frozen)
        refine ⟨hk2, hB2 (w.heap.size + 2) (by omega) (by omega) (by omega), ⟨⟨_, hv2, ?_⟩, ?_⟩, hBw.trans hb2⟩
        · rw [HT.out]; simpa using hr2
        · exact (hB2 w.heap.size (by omega) (by omega) (by omega)).trans HR.out
    · rw [List.concat_eq_append] at hrow hT hpl
      have hpl' : init.length + 1 + 1 ≤ s.size + 1 := by simpa using hpl
      have elen : (init ++ [la]).length = init.length + 1 := by simp
      rw [elen] at hrow
      obtain ⟨g, cap, rfl⟩ := ownsRow_succ hrow
      have hcell : W.cell? ⟨g, init.length, none⟩ = some (.string la) := by
        rw [hrow.cellAt init.length (by omega)]; simp
      have hcap : init.length + 1 ≤ cap := by
        rcases hrow.2 with ⟨h0, _⟩ | ⟨_, _, _, e, _, _, h, _⟩
        · cases h0
        · cases e; exact h
      have hcapm : cap ≤ maxLen := by
        rcases hrow.2 with ⟨h0, _⟩ | ⟨_, _, _, e, _, _, _, h, _⟩
        · cases h0
        · cases e; exact h
      unfold maxLen at hcapm
      have hpop : W.ownsRow (w.heap.size + 2 + 1) 9 1 (.slice (some ⟨g, 0, none⟩) init.length cap) init.length (init.map Value.string) := ownsRow_pop (last := [.string la]) (by simp) (by simpa using hrow)
      have hdl : (init ++ [la]).dropLast = init := List.dropLast_concat
      by_cases hl : la.toList = [46, 46]
      · have hup : up (init ++ [la]) = false := by rw [up_last, beq_iff_eq.2 hl]; rfl
        have c1 : (la.toList == [46, 46]) = true := beq_iff_eq.2 hl
        have HP := Aside0.mk hpop
        clear hpop hl
        rcases hx4 with e1 | e1 | e1 | ⟨e1, e2, e3⟩
        · have b1 : x.toList.isEmpty = true := by rw [e1]; rfl
          have HT := Aside0.mk (hT.trans (step_skip (.inl e1)))
          clear hT e1
          gi_wp2
          exact ⟨KeepsOthers.refl _, rfl, ⟨⟨_, hv, by rw [HT.out, elen]; exact hrow⟩, HR.out⟩, hBw⟩
        · have b1 : x.toList.isEmpty = false := by rw [e1]; rfl
          have b2 : (x.toList == [46]) = true := beq_iff_eq.2 e1
          have HT := Aside0.mk (hT.trans (step_skip (.inr e1)))
          clear hT e1
          gi_wp2
          exact ⟨KeepsOthers.refl _, rfl, ⟨⟨_, hv, by rw [HT.out, elen]; exact hrow⟩, HR.out⟩, hBw⟩
        · have b1 : x.toList.isEmpty = false := by rw [e1]; rfl
          have b2 : (x.toList == [46]) = false := by rw [e1]; rfl
          have b3 : (x.toList == [46, 46]) = true := beq_iff_eq.2 e1
          cases r
          · have HT := Aside0.mk (hT.trans ((step_down e1 hup).trans (if_neg (by decide))))
            clear hT e1
            gi_wp2_with (gi_at_builtin; refine wpListIn_append_own _ rfl _ _ 28 rfl (w.heap.size + 2 + 1) 9 i0 (.string ⟨#[]⟩) 1 16 Try.underlying28 hi hz0 hz1 hz2 rfl (by decide) _ _ _ rfl (hrow.alloc _) ⟨W.heap.size, 0, none⟩ 1 1 [.string x] rfl rfl (cell_one_new _ _ _) (by simp [Value.oneCell']) (by unfold maxLen; omega) (by omega) (by simp; omega) ?_; intro v' w1 hown' hgrow _; obtain ⟨g', cap', rfl⟩ := ownsRow_succ hown'; obtain ⟨hv1, hv2, hr2, hk2, hb2, hB2⟩ := appended_box (n₁ := w.heap.size) hv (by decide) hrow (by omega) (by omega) (by omega) hown' hgrow; have hc1 := hv1.cell; have hf1 := hv1.frozen)
            refine ⟨hk2, hB2 (w.heap.size + 2) (by omega) (by omega) (by omega), ⟨⟨_, hv2, ?_⟩, ?_⟩, hBw.trans hb2⟩
            · rw [HT.out]; simpa using hr2
            · exact (hB2 w.heap.size (by omega) (by omega) (by omega)).trans HR.out
          · have HT := Aside0.mk (hT.trans ((step_down e1 hup).trans (if_pos rfl)))
            clear hT e1
            gi_wp2
            exact ⟨KeepsOthers.refl _, rfl, ⟨⟨_, hv, by rw [HT.out, elen]; exact hrow⟩, HR.out⟩, hBw⟩
        · have b1 : x.toList.isEmpty = false := by simpa using e1
          have b2 : (x.toList == [46]) = false := beq_eq_false_iff_ne.2 e2
          have b3 : (x.toList == [46, 46]) = false := beq_eq_false_iff_ne.2 e3
          have HT := Aside0.mk (hT.trans (step_other e1 e2 e3))
          clear hT e1 e2 e3
          gi_wp2_with (gi_at_builtin; refine wpListIn_append_own _ rfl _ _ 28 rfl (w.heap.size + 2 + 1) 9 i0 (.string ⟨#[]⟩) 1 16 Try.underlying28 hi hz0 hz1 hz2 rfl (by decide) _ _ _ rfl (hrow.alloc _) ⟨W.heap.size, 0, none⟩ 1 1 [.string x] rfl rfl (cell_one_new _ _ _) (by simp [Value.oneCell']) (by unfold maxLen; omega) (by omega) (by simp; omega) ?_; intro v' w1 hown' hgrow _; obtain ⟨g', cap', rfl⟩ := ownsRow_succ hown'; obtain ⟨hv1, hv2, hr2, hk2, hb2, hB2⟩ := appended_box (n₁ := w.heap.size) hv (by decide) hrow (by omega) (by omega) (by omega) hown' hgrow; have hc1 := hv1.cell; have hf1 := hv1.frozen)
          refine ⟨hk2, hB2 (w.heap.size + 2) (by omega) (by omega) (by omega), ⟨⟨_, hv2, ?_⟩, ?_⟩, hBw.trans hb2⟩
          · rw [HT.out]; simpa using hr2
          · exact (hB2 w.heap.size (by omega) (by omega) (by omega)).trans HR.out
      · have hup : up (init ++ [la]) = true := by rw [up_last, beq_eq_false_iff_ne.2 hl]; rfl
        have c1 : (la.toList == [46, 46]) = false := beq_eq_false_iff_ne.2 hl
        have HP := Aside0.mk hpop
        clear hpop hl
        rcases hx4 with e1 | e1 | e1 | ⟨e1, e2, e3⟩
        · have b1 : x.toList.isEmpty = true := by rw [e1]; rfl
          have HT := Aside0.mk (hT.trans (step_skip (.inl e1)))
          clear hT e1
          gi_wp2
          exact ⟨KeepsOthers.refl _, rfl, ⟨⟨_, hv, by rw [HT.out, elen]; exact hrow⟩, HR.out⟩, hBw⟩
        · have b1 : x.toList.isEmpty = false := by rw [e1]; rfl
          have b2 : (x.toList == [46]) = true := beq_iff_eq.2 e1
          have HT := Aside0.mk (hT.trans (step_skip (.inr e1)))
          clear hT e1
          gi_wp2
          exact ⟨KeepsOthers.refl _, rfl, ⟨⟨_, hv, by rw [HT.out, elen]; exact hrow⟩, HR.out⟩, hBw⟩
        · have b1 : x.toList.isEmpty = false := by rw [e1]; rfl
          have b2 : (x.toList == [46]) = false := by rw [e1]; rfl
          have b3 : (x.toList == [46, 46]) = true := beq_iff_eq.2 e1
          have HT := Aside0.mk (hT.trans ((step_up e1 hup).trans hdl))
          clear hT e1
          cases r
          all_goals
            gi_wp2
            refine ⟨KeepsOthers.setCell _ _ _, Below.heap_setCell _ _ _ _ (by simp), ⟨⟨_, hv.set _, ?_⟩, ?_⟩, hBw.setCell (p := ⟨w.heap.size + 1, 0, none⟩) (by simp) _⟩
            · rw [HT.out]
              refine HP.out.kept (grownBy_setCell' W _ _) ?_
              exact .inr (hv.not_row (by decide) HP.out).symm
            · exact (Below.heap_setCell _ _ _ _ (by simp)).trans HR.out
        · have b1 : x.toList.isEmpty = false := by simpa using e1
          have b2 : (x.toList == [46]) = false := beq_eq_false_iff_ne.2 e2
          have b3 : (x.toList == [46, 46]) = false := beq_eq_false_iff_ne.2 e3
          have HT := Aside0.mk (hT.trans (step_other e1 e2 e3))
          clear hT e1 e2 e3
          gi_wp2_with (gi_at_builtin; refine wpListIn_append_own _ rfl _ _ 28 rfl (w.heap.size + 2 + 1) 9 i0 (.string ⟨#[]⟩) 1 16 Try.underlying28 hi hz0 hz1 hz2 rfl (by decide) _ _ _ rfl (hrow.alloc _) ⟨W.heap.size, 0, none⟩ 1 1 [.string x] rfl rfl (cell_one_new _ _ _) (by simp [Value.oneCell']) (by unfold maxLen; omega) (by omega) (by simp; omega) ?_; intro v' w1 hown' hgrow _; obtain ⟨g', cap', rfl⟩ := ownsRow_succ hown'; obtain ⟨hv1, hv2, hr2, hk2, hb2, hB2⟩ := appended_box (n₁ := w.heap.size) hv (by decide) hrow (by omega) (by omega) (by omega) hown' hgrow; have hc1 := hv1.cell; have hf1 := hv1.frozen)
          refine ⟨hk2, hB2 (w.heap.size + 2) (by omega) (by omega) (by omega), ⟨⟨_, hv2, ?_⟩, ?_⟩, hBw.trans hb2⟩
          · rw [HT.out]; simpa using hr2
          · exact (hB2 w.heap.size (by omega) (by omega) (by omega)).trans HR.out
  case done =>
    rintro D W hD ⟨⟨⟨v, hv, hrow⟩, hbr⟩, hBw⟩ hK
    have hc := hv.cell
    have hcr := hbr.cell
    obtain ⟨A, c, rfl⟩ := own_slice hrow
    have hj := join_calls hrow (by omega) (by omega)
    have HC := Aside0.mk hcl
    have hjz : (joined (steps r (elems s))).size ≤ s.size + 1 := by unfold joined; show (List.toArray _).size ≤ _; rw [List.size_toArray]; exact hJl
    have HB := Aside0.mk hB0
    clear hcl hB0 hB1 bOz bRz
    cases r
    · by_cases hjn : (joined (steps false (elems s))).toList = []
      · have b1 : (joined (steps false (elems s))).toList.isEmpty = true := by rw [hjn]; rfl
        have e0 : clean s = ⟨#[46]⟩ := by rw [HC.out, if_neg (by decide), if_pos hjn]
        have H0 := Aside0.mk e0
        clear e0 hjn
        gi_wp2_with (first | (refine ⟨trivial, ?_⟩; gi_at_call 33; refine (callsIn_wide.2 hj).mono ?_; rintro e w' ⟨rfl, hb⟩; have hcr2 := (Boxed.cell ((hb.block _ hbr.lt).trans hbr))))
        have hK' := (hb.block D (Array.getElem?_eq_some_iff.1 hK).1).trans hK
        refine ⟨by simp, .inl ⟨_, _, rfl, run_takeDeferred hK', ?_⟩⟩
        exact ⟨_, results_tmp rfl _ _ _, by rw [H0.out]; rfl, (HB.out.trans (hBw.trans (hb.mono (by have := hBw.size; omega)))).trans (belowK_b (w := w) (Nat.le_refl _) w' D _ _ (by omega) hK' rfl rfl)⟩
      · have b1 : (joined (steps false (elems s))).toList.isEmpty = false := by simpa using hjn
        have e0 : clean s = joined (steps false (elems s)) := by rw [HC.out, if_neg (by decide), if_neg hjn]
        have H0 := Aside0.mk e0
        clear e0 hjn
        gi_wp2_with (first | (refine ⟨trivial, ?_⟩; gi_at_call 33; refine (callsIn_wide.2 hj).mono ?_; rintro e w' ⟨rfl, hb⟩; have hcr2 := (Boxed.cell ((hb.block _ hbr.lt).trans hbr))))
        have hK' := (hb.block D (Array.getElem?_eq_some_iff.1 hK).1).trans hK
        refine ⟨by simp, .inl ⟨_, _, rfl, run_takeDeferred hK', ?_⟩⟩
        exact ⟨_, results_tmp rfl _ _ _, by rw [H0.out]; rfl, (HB.out.trans (hBw.trans (hb.mono (by have := hBw.size; omega)))).trans (belowK_b (w := w) (Nat.le_refl _) w' D _ _ (by omega) hK' rfl rfl)⟩
    · have e0 : clean s = (⟨#[47]⟩ : ByteArray) ++ joined (steps true (elems s)) := by rw [HC.out, if_pos rfl]
      have H0 := Aside0.mk e0
      have e1 : (⟨#[47]⟩ : ByteArray).size = 1 := rfl
      clear e0
      gi_wp2_with (first | (refine ⟨trivial, ?_⟩; gi_at_call 33; refine (callsIn_wide.2 hj).mono ?_; rintro e w' ⟨rfl, hb⟩; have hcr2 := (Boxed.cell ((hb.block _ hbr.lt).trans hbr))))
      have hK' := (hb.block D (Array.getElem?_eq_some_iff.1 hK).1).trans hK
      refine ⟨by simp, .inl ⟨_, _, rfl, run_takeDeferred hK', ?_⟩⟩
      exact ⟨_, results_tmp rfl _ _ _, by rw [H0.out]; rfl, (HB.out.trans (hBw.trans (hb.mono (by have := hBw.size; omega)))).trans (belowK_b (w := w) (Nat.le_refl _) w' D _ _ (by omega) hK' rfl rfl)⟩
  case stop =>
    rintro D c pre W _ _ h _
    exact h.elim

end Go.Proofs.Ythiecbkkbiejjaa.Clean
