/- PathsCleans, as a statement over lists: any text is cleaned as the reference does; what is clean stays; a path that may be is clean. -/
import Derived.Test.YthiecbkkbiejjaaPPathsCleansx1
import Derived.Test.YthiecbkkbiejjaaPPathsCleansx2
import Derived.Test.YthiecbkkbiejjaaPPathsCleansx3
import Derived.Test.YthiecbkkbiejjaaPureVLib
namespace Go.Proofs.Ythiecbkkbiejjaa.Pure
open Go.RowKit Go.Proofs.Ythiecbkkbiejjaa.PPathsCleans Go.Proofs.YthiecbkkbiejjaaW.PrintWords Go.Proofs.YthiecbkkbiejjaaW.PrintLast
open Go.Proofs.Ythiecbkkbiejjaa.BytesLib Go.Proofs.Ythiecbkkbiejjaa.SplitLib Go.Proofs.Ythiecbkkbiejjaa.Elems Go.Proofs.Ythiecbkkbiejjaa.Valid Go.Proofs.Ythiecbkkbiejjaa.Clean
set_option linter.unusedVariables false

theorem root_iff (s : ByteArray) : root s = true ↔ ∃ t, L s = 47 :: t := by
  unfold root
  rw [toList_L, L_head, Bool.and_eq_true, beq_iff_eq, decide_eq_true_eq]
  have hl := L_length s
  cases h : L s with
  | nil => simp
  | cons x t =>
    rw [h] at hl
    simp at hl ⊢
    omega

theorem L_joined (l : List ByteArray) : L (joined l) = joinL 47 (l.map L) := (L_ofL _).trans (join_joinL _)

/-- Each beginning of it stays, and each of its elements is one. -/
def Good (r : Bool) (out : List ByteArray) : Prop := (∀ p, p <+: out → steps r p = p) ∧ ∀ x ∈ out, L x ≠ [] ∧ (47 : UInt8) ∉ L x

theorem good_app {r : Bool} {out : List ByteArray} {e : ByteArray} (h : Good r out) (he : Clean.step r out e = out ++ [e]) (h1 : L e ≠ []) (h2 : (47 : UInt8) ∉ L e) : Good r (out ++ [e]) := by
  refine ⟨fun p hp => ?_, fun x hx => ?_⟩
  · rcases List.prefix_concat_iff.1 hp with rfl | hp
    · rw [steps_snoc, h.1 out (List.prefix_refl _), he]
    · exact h.1 p hp
  · rcases List.mem_append.1 hx with hx | hx
    · exact h.2 x hx
    · rw [List.mem_singleton.1 hx]; exact ⟨h1, h2⟩

theorem good_step {r : Bool} {out : List ByteArray} {e : ByteArray} (h : Good r out) (h2 : (47 : UInt8) ∉ L e) : Good r (Clean.step r out e) := by
  by_cases e1 : e.toList = []
  · rw [Clean.step_skip (.inl e1)]; exact h
  · by_cases e2 : e.toList = [46]
    · rw [Clean.step_skip (.inr e2)]; exact h
    · have h1 : L e ≠ [] := by rw [← toList_L]; exact e1
      by_cases e3 : e.toList = [46, 46]
      · cases hu : up out with
        | true =>
          rw [Clean.step_up e3 hu]
          exact ⟨fun p hp => h.1 p (hp.trans (List.dropLast_prefix out)), fun x hx => h.2 x (List.dropLast_subset _ hx)⟩
        | false =>
          have hs := Clean.step_down (r := r) e3 hu
          cases r with
          | true => rw [hs, if_pos rfl]; exact h
          | false =>
            rw [if_neg (by decide)] at hs
            rw [hs]; exact good_app h hs h1 h2
      · have hs := Clean.step_other (r := r) (out := out) e1 e2 e3
        rw [hs]; exact good_app h hs h1 h2

theorem good_fold (r : Bool) : ∀ (l out : List ByteArray), Good r out → (∀ x ∈ l, (47 : UInt8) ∉ L x) → Good r (l.foldl (Clean.step r) out)
  | [], _, h, _ => h
  | e :: l, out, h, hl => good_fold r l _ (good_step h (hl e List.mem_cons_self)) (fun x hx => hl x (List.mem_cons_of_mem _ hx))

theorem good_steps (r : Bool) (s : ByteArray) : Good r (steps r (elems s)) := by
  refine good_fold r _ [] ⟨fun p hp => ?_, fun x hx => by cases hx⟩ ?_
  · rw [List.prefix_nil.1 hp]; rfl
  · intro x hx
    rw [elems_list] at hx
    obtain ⟨y, hy, rfl⟩ := List.mem_map.1 hx
    rw [L_ofL]
    exact elemsL_free _ y hy

theorem split_joinL : ∀ (xs : List (List UInt8)), xs ≠ [] → (∀ x ∈ xs, (47 : UInt8) ∉ x) → splitL 47 (joinL 47 xs) = xs
  | [], h, _ => absurd rfl h
  | [a], _, h => splitL_none (h a List.mem_cons_self)
  | a :: b :: t, _, h => by
    rw [joinL_cons 47 a (by simp), splitL_at _ (h a List.mem_cons_self), split_joinL (b :: t) (by simp) (fun x hx => h x (List.mem_cons_of_mem _ hx))]

theorem map_L_ofL (l : List ByteArray) : (l.map L).map ofL = l := by
  rw [List.map_map]
  conv => rhs; rw [← List.map_id l]
  exact List.map_congr_left fun x _ => ofL_L x

theorem joined_nil : joined [] = ⟨#[]⟩ := rfl
theorem toList_nil : ((⟨#[]⟩ : ByteArray)).toList = [] := (toList_L _).trans rfl

theorem clean_root {s : ByteArray} (h : root s = true) : clean s = (⟨#[47]⟩ : ByteArray) ++ joined (steps true (elems s)) := by
  unfold clean; rw [h, if_pos rfl]
theorem clean_bare {s : ByteArray} (h : root s = false) : clean s = if (joined (steps false (elems s))).toList = [] then ⟨#[46]⟩ else joined (steps false (elems s)) := by
  unfold clean; rw [h, if_neg (by decide)]

theorem clean_point : clean ⟨#[46]⟩ = ⟨#[46]⟩ := by
  have hr : root ⟨#[46]⟩ = false := by
    cases h : root ⟨#[46]⟩ with
    | false => rfl
    | true =>
      obtain ⟨t, ht⟩ := (root_iff _).1 h
      have : L (⟨#[46]⟩ : ByteArray) = [46] := rfl
      rw [this] at ht
      cases ht
  have he : elems ⟨#[46]⟩ = [⟨#[46]⟩] := by
    rw [elems_list]
    rfl
  rw [clean_bare hr, he]
  have hs : steps false [(⟨#[46]⟩ : ByteArray)] = [] := by
    show Clean.step false [] _ = []
    exact Clean.step_skip (.inr ((toList_L _).trans rfl))
  rw [hs, joined_nil, if_pos toList_nil]

theorem clean_clean (s : ByteArray) : clean (clean s) = clean s := by
  cases hr : root s with
  | true =>
    have hG := good_steps true s
    rw [clean_root hr]
    generalize steps true (elems s) = out at hG
    have hL : L ((⟨#[47]⟩ : ByteArray) ++ joined out) = 47 :: joinL 47 (out.map L) := by rw [L_append, L_joined]; rfl
    have hr2 : root ((⟨#[47]⟩ : ByteArray) ++ joined out) = true := (root_iff _).2 ⟨_, hL⟩
    rw [clean_root hr2]
    congr 2
    rw [elems_list, hL]
    unfold elemsL
    rw [if_neg (by simp), show splitL 47 (47 :: joinL 47 (out.map L)) = [] :: splitL 47 (joinL 47 (out.map L)) from by simp [splitL], List.map_cons]
    have h0 : ∀ t, steps true (ofL [] :: t) = steps true t := fun t => by
      show t.foldl (Clean.step true) (Clean.step true [] (ofL [])) = _
      rw [Clean.step_skip (.inl ((toList_L _).trans rfl))]; rfl
    rw [h0]
    by_cases ho : out = []
    · subst ho
      show Clean.step true [] (ofL []) = []
      rw [Clean.step_skip (.inl ((toList_L _).trans rfl))]
    · rw [split_joinL _ (by simpa using ho) (fun x hx => by obtain ⟨y, hy, rfl⟩ := List.mem_map.1 hx; exact (hG.2 y hy).2), map_L_ofL]
      exact hG.1 out (List.prefix_refl _)
  | false =>
    have hG := good_steps false s
    rw [clean_bare hr]
    generalize steps false (elems s) = out at hG
    by_cases hj : (joined out).toList = []
    · rw [if_pos hj]; exact clean_point
    · rw [if_neg hj]
      have ho : out ≠ [] := fun e => hj (by rw [e, joined_nil]; exact toList_nil)
      have hL := L_joined out
      have hr2 : root (joined out) = false := by
        cases h : root (joined out) with
        | false => rfl
        | true =>
          obtain ⟨t, ht⟩ := (root_iff _).1 h
          rw [hL] at ht
          cases out with
          | nil => exact absurd rfl ho
          | cons a b =>
            have ha := hG.2 a List.mem_cons_self
            cases hLa : L a with
            | nil => exact absurd hLa ha.1
            | cons y z =>
              have hy : y = 47 := by
                cases b with
                | nil => simp only [List.map_cons, List.map_nil, joinL, hLa] at ht; exact (List.cons.inj ht).1
                | cons b c => rw [List.map_cons, joinL_cons 47 _ (by simp), hLa, List.cons_append] at ht; exact (List.cons.inj ht).1
              exact absurd (by rw [hLa, hy]; exact List.mem_cons_self) ha.2
      have he : elems (joined out) = out := by
        rw [elems_list, hL]
        unfold elemsL
        rw [if_neg (by rw [← hL, ← toList_L]; exact hj), split_joinL _ (by simpa using ho) (fun x hx => by obtain ⟨y, hy, rfl⟩ := List.mem_map.1 hx; exact (hG.2 y hy).2), map_L_ofL]
      rw [clean_bare hr2, he, hG.1 out (List.prefix_refl _), if_neg hj]

theorem steps_plain (r : Bool) : ∀ (l out : List ByteArray), (∀ x ∈ l, L x ≠ [] ∧ L x ≠ [46] ∧ L x ≠ [46, 46]) → l.foldl (Clean.step r) out = out ++ l
  | [], out, _ => (List.append_nil _).symm
  | e :: l, out, h => by
    obtain ⟨h1, h2, h3⟩ := h e List.mem_cons_self
    rw [← toList_L] at h1 h2 h3
    rw [List.foldl_cons, Clean.step_other h1 h2 h3, steps_plain r l _ (fun x hx => h x (List.mem_cons_of_mem _ hx))]
    simp

theorem clean_valid {s : ByteArray} (h : valid s = true) : clean s = s := by
  obtain ⟨h1, _, h3⟩ := valid_tells h
  have hr : root s = false := by
    cases hr : root s with
    | false => rfl
    | true =>
      obtain ⟨t, ht⟩ := (root_iff _).1 hr
      refine absurd rfl (h3 [] ?_).1
      unfold elemsL
      rw [if_neg h1, ht]
      simp [splitL]
  have hs : steps false (elems s) = elems s := by
    refine (steps_plain false (elems s) [] fun x hx => ?_).trans (List.nil_append _)
    rw [elems_list] at hx
    obtain ⟨y, hy, rfl⟩ := List.mem_map.1 hx
    rw [L_ofL]; exact h3 y hy
  have hj : joined (elems s) = s := by
    apply L_inj
    rw [L_joined, elems_list, L_map, elemsL_join]
  rw [clean_bare hr, hs, hj, if_neg (by rw [toList_L]; exact h1)]

theorem joined_size (s : ByteArray) (r : Bool) : (joined (steps r (elems s))).size ≤ s.size + 1 := by
  have := clean_len s r
  unfold joined; show (List.toArray _).size ≤ _; rw [List.size_toArray]; exact this

theorem clean_size (s : ByteArray) : 0 < (clean s).size ∧ (clean s).size ≤ s.size + 2 := by
  have hj := joined_size s (root s)
  cases hr : root s with
  | true =>
    rw [hr] at hj
    rw [clean_root hr, size_append, show (⟨#[47]⟩ : ByteArray).size = 1 from rfl]; omega
  | false =>
    rw [hr] at hj
    rw [clean_bare hr]
    split
    · exact ⟨by decide, by show 1 ≤ _; omega⟩
    · rename_i h
      refine ⟨?_, by omega⟩
      rw [toList_L] at h
      have := List.length_pos_iff.2 h
      rwa [L_length] at this

def finR (x : ByteArray) : ByteArray := if x.toList = [] then ⟨#[46]⟩ else x
def preR (r : Bool) : ByteArray := if r = true then ⟨#[47]⟩ else ⟨#[]⟩

theorem clean_fin (s : ByteArray) : clean s = finR (preR (root s) ++ joined (steps (root s) (elems s))) := by
  cases hr : root s with
  | true =>
    rw [clean_root hr]
    unfold finR preR
    rw [if_pos rfl, if_neg (by rw [toList_L, L_append]; simp [L])]
  | false =>
    rw [clean_bare hr]
    unfold finR preR
    rw [if_neg (show ¬ (false = true) from by decide), show (⟨#[]⟩ : ByteArray) ++ joined (steps false (elems s)) = joined (steps false (elems s)) from L_inj (by rw [L_append]; rfl)]

theorem joined_le (l : List ByteArray) : (joined l).size ≤ tot l := by
  have := joined_len l
  unfold joined; show (List.toArray _).size ≤ _; rw [List.size_toArray]; exact this
theorem tot_take (l : List ByteArray) (i : Nat) : tot (l.take i) ≤ tot l := by
  conv => rhs; rw [← List.take_append_drop i l, tot_append]
  omega
theorem tot_mem {l : List ByteArray} {i : Nat} (h : i < l.length) : l[i].size ≤ tot l := by
  have h1 := tot_take l (i + 1)
  rw [List.take_succ_eq_append_getElem h, tot_append] at h1
  have : tot [l[i]] = l[i].size + 1 := by simp [tot]
  omega

theorem fin_loop (out : List ByteArray) (pre : ByteArray) (ht : tot out ≤ 1000000) (hn : out.length ≤ 1000000) (hpre : pre.size ≤ 1) (d : Nat) : ∀ i : Nat, i ≤ out.length → out.length - i = d →
    Ev (fun k => graftbedref01_Clean.l1 k out (pre ++ joined (out.take i)) (i : Int)) (finR (pre ++ joined out)) := by
  induction d with
  | zero =>
    intro i h1 h2
    obtain rfl : i = out.length := by omega
    rw [List.take_length]
    refine Ev.step (f := fun _ => some (finR (pre ++ joined out))) (fun k => ?_) (Ev.now _)
    simp only [graftbedref01_Clean.l1]
    rw [if_neg (by omega)]
    unfold finR
    split <;> rfl
  | succ d ih =>
    intro i h1 h2
    have hlt : i < out.length := by omega
    have hsz : (pre ++ joined (out.take i)).size ≤ 1 + 1000000 := by
      rw [size_append]
      have := joined_le (out.take i)
      have := tot_take out i
      omega
    have hm := tot_mem hlt
    have e1 : (⟨#[47]⟩ : ByteArray).size = 1 := rfl
    refine Ev.step (f := fun k => graftbedref01_Clean.l1 k out (pre ++ joined (out.take (i + 1))) ((i + 1 : Nat) : Int)) (fun k => ?_) (ih (i + 1) (by omega) (by omega))
    simp only [graftbedref01_Clean.l1]
    rw [if_pos (by omega), rdOf_get _ hlt, w64 (by omega) (by omega)]
    by_cases h0 : i = 0
    · subst h0
      rw [if_neg (by omega), if_pos (by omega), if_pos (by omega)]
      have : (pre ++ joined (out.take 0)) ++ out[0] = pre ++ joined (out.take (0 + 1)) := by
        apply L_inj
        rw [L_append, L_append, L_append, L_joined, L_joined, List.take_succ_eq_append_getElem hlt]
        simp [joinL]
      rw [this]; rfl
    · rw [if_pos (by omega), if_pos (by omega), if_pos (by omega), if_pos (by rw [size_append (pre ++ joined _), e1]; omega)]
      have : (pre ++ joined (out.take i)) ++ (⟨#[47]⟩ : ByteArray) ++ out[i] = pre ++ joined (out.take (i + 1)) := by
        apply L_inj
        rw [L_append, L_append, L_append, L_append, L_joined, L_joined, List.take_succ_eq_append_getElem hlt, List.map_append, joinL_append 47 _ _ (by
          intro e
          have := congrArg List.length e
          rw [List.length_map, List.length_take, List.length_nil] at this
          omega) (by simp)]
        simp [joinL, L]
      rw [this]; rfl

theorem last_rd {init : List ByteArray} {la : ByteArray} : rdOf ByteArray.empty (init ++ [la]) ((init.length : Nat) : Int) = la := by
  rw [rdOf_get _ (by simp)]; simp

theorem cl_loop (r : Bool) (l : List ByteArray) (hn : l.length ≤ 1000000) (d : Nat) : ∀ (i : Nat) (acc : List ByteArray), i ≤ l.length → l.length - i = d → acc.length ≤ i → tot acc + tot (l.drop i) ≤ 1000000 →
    Ev (fun k => graftbedref01_Clean.l0 k r l acc (i : Int)) (finR (preR r ++ joined ((l.drop i).foldl (Clean.step r) acc))) := by
  induction d with
  | zero =>
    intro i acc h1 h2 h3 h4
    obtain rfl : i = l.length := by omega
    rw [List.drop_length, List.foldl_nil]
    have hf := fin_loop acc (preR r) (by omega) (by omega) (by cases r <;> decide) _ 0 (Nat.zero_le _) rfl
    have e : preR r ++ joined (acc.take 0) = preR r := L_inj (by rw [L_append]; simp [joined_nil, L])
    rw [e] at hf
    refine Ev.step (f := fun k => graftbedref01_Clean.j4 k acc (preR r)) (fun k => ?_) (Ev.step (f := fun k => graftbedref01_Clean.l1 k acc (preR r) 0) (fun k => ?_) hf)
    · simp only [graftbedref01_Clean.l0]
      rw [if_neg (by omega)]
      cases r <;> rfl
    · simp only [graftbedref01_Clean.j4]
  | succ d ih =>
    intro i acc h1 h2 h3 h4
    have hlt : i < l.length := by omega
    have hi1 : (i : Int) < (l.length : Int) := Int.ofNat_lt.2 hlt
    have hi0 : (0 : Int) ≤ (i : Int) := Int.natCast_nonneg i
    have ha8 : acc.length < 8796093022208 := by omega
    have hw : wrap64 ((i : Int) + 1) = ((i + 1 : Nat) : Int) := (w64 (by omega) (by omega)).trans rfl
    have hwa : 0 < acc.length → wrap64 ((acc.length : Int) - 1) = ((acc.length - 1 : Nat) : Int) := fun h => (w64 (by omega) (by omega)).trans (by omega)
    have hd : l.drop i = l[i] :: l.drop (i + 1) := List.drop_eq_getElem_cons hlt
    obtain ⟨x, hx⟩ : ∃ x, l[i] = x := ⟨_, rfl⟩
    have hrd : rdOf ByteArray.empty l (i : Int) = x := by rw [rdOf_get _ hlt, hx]
    rw [hd, hx] at h4 ⊢
    rw [List.foldl_cons]
    have htc : tot (x :: l.drop (i + 1)) = (x.size + 1) + tot (l.drop (i + 1)) := by simp [tot]
    have hst := Clean.step_tot r acc x
    have hsl := Clean.step_length r acc x
    have next := ih (i + 1) (Clean.step r acc x) hlt (by clear hwa hw hd hrd; omega) (by clear hwa hw hd hrd; omega) (by clear hwa hw hd hrd; omega)
    clear ih htc hst hsl h4
    have skip : ∀ acc', acc' = Clean.step r acc x → Ev (fun k => graftbedref01_Clean.l0 k r l acc' (wrap64 ((i : Int) + 1))) (finR (preR r ++ joined ((l.drop (i + 1)).foldl (Clean.step r) (Clean.step r acc x)))) := by
      intro acc' h
      rw [hw, h]; exact next
    have j2t : ∀ acc', acc' = Clean.step r acc x → Ev (fun k => graftbedref01_Clean.j2 k r l acc' (i : Int) true) (finR (preR r ++ joined ((l.drop (i + 1)).foldl (Clean.step r) (Clean.step r acc x)))) := by
      intro acc' h
      refine Ev.step (f := fun k => graftbedref01_Clean.l0 k r l acc' (wrap64 ((i : Int) + 1))) (fun k => ?_) (skip acc' h)
      simp only [graftbedref01_Clean.j2, if_true]
    by_cases e1 : x.toList = []
    · refine Ev.step (f := fun k => graftbedref01_Clean.j2 k r l acc (i : Int) true) (fun k => ?_) (j2t acc (Clean.step_skip (.inl e1)).symm)
      simp only [graftbedref01_Clean.l0]
      rw [if_pos hi1, if_pos hi0, hrd, if_pos e1]
    · by_cases e2 : x.toList = [46]
      · refine Ev.step (f := fun k => graftbedref01_Clean.j2 k r l acc (i : Int) true) (fun k => ?_) (j2t acc (Clean.step_skip (.inr e2)).symm)
        simp only [graftbedref01_Clean.l0]
        rw [if_pos hi1, if_pos hi0, hrd, if_neg e1, beq_iff_eq.2 e2]
      · refine Ev.step (f := fun k => graftbedref01_Clean.j2 k r l acc (i : Int) false) (fun k => ?_) ?_
        · simp only [graftbedref01_Clean.l0]
          rw [if_pos hi1, if_pos hi0, hrd, if_neg e1, beq_eq_false_iff_ne.2 e2]
        · by_cases e3 : x.toList = [46, 46]
          · have down : up acc = false → Ev (fun k => graftbedref01_Clean.j3 k r l acc (i : Int) false) (finR (preR r ++ joined ((l.drop (i + 1)).foldl (Clean.step r) (Clean.step r acc x)))) := by
              intro hu
              have hs := Clean.step_down (r := r) e3 hu
              cases r with
              | true =>
                rw [if_pos rfl] at hs
                refine Ev.step (f := fun k => graftbedref01_Clean.l0 k true l acc (wrap64 ((i : Int) + 1))) (fun k => ?_) (skip _ hs.symm)
                simp only [graftbedref01_Clean.j3, Bool.false_eq_true, if_false]
                rw [if_pos hi1, if_pos hi0, hrd, if_pos e3, if_pos trivial]
              | false =>
                rw [if_neg (by decide)] at hs
                refine Ev.step (f := fun k => graftbedref01_Clean.l0 k false l (acc ++ [x]) (wrap64 ((i : Int) + 1))) (fun k => ?_) (skip _ hs.symm)
                simp only [graftbedref01_Clean.j3, Bool.false_eq_true, if_false]
                rw [if_pos hi1, if_pos hi0, hrd, if_pos e3, if_pos (by omega)]
            rcases acc.eq_nil_or_concat with h | ⟨init, la, h⟩
            · refine Ev.step (f := fun k => graftbedref01_Clean.j3 k r l acc (i : Int) false) (fun k => ?_) (down (by rw [h]; rfl))
              simp only [graftbedref01_Clean.j2, Bool.false_eq_true, if_false]
              rw [if_pos hi1, if_pos hi0, hrd, if_pos e3, if_neg (by rw [h]; exact (by decide : ¬ ((0 : Int) > 0)))]
            · rw [List.concat_eq_append] at h
              have hal : acc.length = init.length + 1 := by rw [h]; simp
              have hw1 : wrap64 ((acc.length : Int) - 1) = (init.length : Int) := by rw [hwa (by rw [hal]; exact Nat.succ_pos _), hal]; rfl
              have hp0 : (0 : Int) ≤ (init.length : Int) := Int.natCast_nonneg _
              have hp1 : (init.length : Int) < (acc.length : Int) := Int.ofNat_lt.2 (by rw [hal]; exact Nat.lt_succ_self _)
              have hp2 : (acc.length : Int) > 0 := Int.ofNat_lt.2 (by rw [hal]; exact Nat.succ_pos _)
              have hla : rdOf ByteArray.empty acc (init.length : Int) = la := by rw [h]; exact last_rd
              refine Ev.step (f := fun k => graftbedref01_Clean.j3 k r l acc (i : Int) (la.toList != [46, 46])) (fun k => ?_) ?_
              · simp only [graftbedref01_Clean.j2, Bool.false_eq_true, if_false]
                rw [if_pos hi1, if_pos hi0, hrd, if_pos e3, if_pos (by omega), hw1, if_pos (by omega), if_pos (by omega), hla]
              · have hup : up acc = (la.toList != [46, 46]) := by rw [h, up_last]; rfl
                cases hl : (la.toList != [46, 46]) with
                | false => exact down (hup.trans hl)
                | true =>
                  have hs := Clean.step_up (r := r) e3 (hup.trans hl)
                  refine Ev.step (f := fun k => graftbedref01_Clean.l0 k r l (acc.take init.length) (wrap64 ((i : Int) + 1))) (fun k => ?_) (skip _ (by rw [hs, h]; simp))
                  simp only [graftbedref01_Clean.j3, if_true]
                  rw [hw1, if_pos hp0, if_pos (Int.le_of_lt hp1), Int.toNat_natCast]
          · have hs := Clean.step_other (r := r) (out := acc) e1 e2 e3
            refine Ev.step (f := fun k => graftbedref01_Clean.j3 k r l acc (i : Int) false) (fun k => ?_) (Ev.step (f := fun k => graftbedref01_Clean.l0 k r l (acc ++ [x]) (wrap64 ((i : Int) + 1))) (fun k => ?_) (skip _ hs.symm))
            · simp only [graftbedref01_Clean.j2, Bool.false_eq_true, if_false]
              rw [if_pos hi1, if_pos hi0, hrd, if_neg e3]
            · simp only [graftbedref01_Clean.j3, Bool.false_eq_true, if_false]
              rw [if_pos hi1, if_pos hi0, hrd, if_neg e3, if_pos (by omega)]

theorem ref_elems_loopC (s : ByteArray) (hs : s.size ≤ 1099511627776) (d : Nat) : ∀ (i m : Nat) (acc : List ByteArray), m ≤ i → i ≤ s.size → s.size - i = d → acc.length ≤ i →
    (∀ j, m ≤ j → j < i → (L s)[j]? ≠ some 47) →
    Ev (fun k => graftbedref01_Elems.l0 k s acc (m : Int) (i : Int)) (acc ++ (splitL 47 ((L s).drop m)).map ofL) := by
  induction d with
  | zero =>
    intro i m acc h1 h2 h3 h4 h5
    obtain rfl : i = s.size := by omega
    have hn : (47 : UInt8) ∉ (L s).drop m := by
      have := not_mem_take h5
      rwa [List.take_of_length_le (by rw [List.length_drop, L_length]; exact Nat.le_refl _)] at this
    rw [splitL_none hn]
    refine Ev.step (f := fun k => graftbedref01_Elems.l0 k s (acc ++ [s.extract m s.size]) ((s.size : Int) + 1) ((s.size : Int) + 1)) (fun k => ?_) ?_
    · simp only [graftbedref01_Elems.l0]
      rw [if_pos (by omega), if_pos trivial, if_pos (by omega), if_pos (by omega), if_pos (by omega), w64 (by omega) (by omega), Int.toNat_natCast, Int.toNat_natCast]
    · refine Ev.step (f := fun _ => some (acc ++ [s.extract m s.size])) (fun k => ?_) ?_
      · simp only [graftbedref01_Elems.l0]
        rw [if_neg (by omega)]
      · rw [tail_ofL]; exact Ev.now _
  | succ d ih =>
    intro i m acc h1 h2 h3 h4 h5
    have hlt : i < (L s).length := by rw [L_length]; omega
    have hb := bt_nat hlt
    by_cases hc : (L s)[i] = 47
    · have hc2 : bt s (i : Int) = 47 := by rw [hb, hc]; rfl
      have hn := not_mem_take h5
      have hsp : (L s).drop m = ((L s).drop m).take (i - m) ++ 47 :: (L s).drop (i + 1) := by
        conv => lhs; rw [← List.take_append_drop (i - m) ((L s).drop m), List.drop_drop, show m + (i - m) = i from by omega, List.drop_eq_getElem_cons hlt, hc]
      refine Ev.step (f := fun k => graftbedref01_Elems.l0 k s (acc ++ [s.extract m i]) ((i + 1 : Nat) : Int) ((i + 1 : Nat) : Int)) (fun k => ?_) ?_
      · simp only [graftbedref01_Elems.l0]
        rw [if_pos (by omega), if_neg (by omega), if_pos (by omega), if_pos (by omega), if_pos hc2, if_pos (by omega), if_pos (by omega), if_pos (by omega), w64 (by omega) (by omega), Int.toNat_natCast, Int.toNat_natCast]
        rfl
      · have := ih (i + 1) (i + 1) (acc ++ [s.extract m i]) (Nat.le_refl _) (by omega) (by omega) (by simp; omega) (fun j hj hj2 => by omega)
        rw [hsp, splitL_at _ hn, List.map_cons]
        rw [List.append_assoc] at this
        rw [cut_ofL] at this ⊢
        exact this
    · have hc2 : ¬ bt s (i : Int) = 47 := by
        rw [hb]
        intro e
        exact hc (UInt8.toNat_inj.1 (by simpa using Int.ofNat_inj.1 e))
      refine Ev.step (f := fun k => graftbedref01_Elems.l0 k s acc (m : Int) ((i + 1 : Nat) : Int)) (fun k => ?_) ?_
      · simp only [graftbedref01_Elems.l0]
        rw [if_pos (by omega), if_neg (by omega), if_pos (by omega), if_pos (by omega), if_neg hc2, w64 (by omega) (by omega)]
        rfl
      · exact ih (i + 1) m acc (by omega) (by omega) (by omega) (by omega) (fun j hj hj2 => by
          by_cases e : j = i
          · rw [e, List.getElem?_eq_getElem hlt]; simpa using hc
          · exact h5 j hj (by omega))

theorem ref_elemsC (s : ByteArray) (hs : s.size ≤ 1099511627776) : Ev (fun k => graftbedref01_Elems.f k s) (elems s) := by
  unfold graftbedref01_Elems.f
  simp only [Option.bind_some]
  by_cases h : s.toList = []
  · simp only [h, if_true]
    rw [elems_list, show L s = [] from by rw [← toList_L]; exact h]
    exact Ev.now _
  · simp only [if_neg h]
    have := ref_elems_loopC s hs s.size 0 0 [] (Nat.le_refl _) (Nat.zero_le _) (by omega) (Nat.zero_le _) (fun j hj hj2 => by omega)
    rw [elems_list]
    unfold elemsL
    rw [if_neg (by rw [← toList_L]; exact h)]
    exact this


theorem ref_clean (s : ByteArray) (hs : s.size ≤ 2048) : Ev (fun k => graftbedref01_Clean.f k s) (clean s) := by
  have hel := elems_length s
  have het := elems_tot s
  have h := cl_loop (root s) (elems s) (by omega) _ 0 [] (Nat.zero_le _) rfl (Nat.zero_le _) (by rw [List.drop_zero]; simp [tot] at het ⊢; omega)
  rw [List.drop_zero] at h
  rw [clean_fin]
  have hj : Ev (fun k => graftbedref01_Clean.j0 k s (root s)) (finR (preR (root s) ++ joined (steps (root s) (elems s)))) := by
    refine Ev.step (f := fun k => (graftbedref01_Elems.f k s).bind fun t => graftbedref01_Clean.l0 k (root s) t [] 0) (fun k => by simp only [graftbedref01_Clean.j0]) ?_
    exact Ev.bind (ref_elemsC s (by omega)) h
  have e : (fun k => graftbedref01_Clean.f k s) = fun k => graftbedref01_Clean.j0 k s (root s) := by
    funext k
    unfold graftbedref01_Clean.f
    by_cases h0 : (s.size : Int) > 0
    · rw [if_pos h0, if_pos (by omega)]
      have hlt : 0 < (L s).length := by rw [L_length]; omega
      have hb : bt s 0 = (((L s)[0]'hlt).toNat : Int) := bt_nat (i := 0) hlt
      congr 1
      cases hL : L s with
      | nil => rw [hL] at hlt; cases hlt
      | cons x t =>
        simp only [hL, List.getElem_cons_zero] at hb
        rw [hb]
        by_cases hx : x = 47
        · have : root s = true := (root_iff s).2 ⟨t, by rw [hL, hx]⟩
          rw [this, hx]; rfl
        · have : root s = false := by
            cases hr : root s with
            | false => rfl
            | true =>
              obtain ⟨t', ht⟩ := (root_iff s).1 hr
              rw [hL] at ht
              exact absurd (List.cons.inj ht).1 hx
          rw [this, beq_eq_false_iff_ne]
          intro he
          exact hx (UInt8.toNat_inj.1 (by simpa using Int.ofNat_inj.1 he))
    · rw [if_neg h0]
      congr 1
      cases hr : root s with
      | false => rfl
      | true =>
        obtain ⟨t', ht⟩ := (root_iff s).1 hr
        have := L_length s
        rw [ht] at this
        simp at this
        omega
  rw [e]
  exact hj

theorem clean_f (s : ByteArray) (hs : s.size ≤ 4096) : paths_Clean.f s = some (clean s) := by
  unfold paths_Clean.f
  rw [if_pos (by omega)]

theorem PathsCleans : graftbedlaw01_PathsCleans.Pure := by
  intro s _
  by_cases h : (s.size : Int) > 2048
  · exact ⟨0, by unfold graftbedlaw01_PathsCleans.f; rw [if_pos h]⟩
  · obtain ⟨K, hK⟩ := ref_clean s (by omega)
    have hk := hK K (Nat.le_refl _)
    have hs := clean_size s
    refine ⟨K, ?_⟩
    dsimp only at hk
    unfold graftbedlaw01_PathsCleans.f
    have hv : paths_Valid.f s = some (valid s) := by unfold paths_Valid.f; rw [if_pos (by omega)]
    rw [if_neg h, clean_f s (by omega), Option.bind_some, hk, Option.bind_some, if_pos rfl, clean_f _ (by omega), Option.bind_some, clean_clean, if_pos rfl, hv, Option.bind_some]
    have hd : decide (((clean s).size : Int) > 0) = true := decide_eq_true (by omega)
    cases hvv : valid s with
    | false => rw [if_neg (by decide), hd]
    | true => rw [if_pos rfl, clean_valid hvv, if_pos rfl]; rw [clean_valid hvv] at hd; rw [hd]

end Go.Proofs.Ythiecbkkbiejjaa.Pure
