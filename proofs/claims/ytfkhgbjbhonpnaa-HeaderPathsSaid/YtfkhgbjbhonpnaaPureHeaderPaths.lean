/- The paths that are imported rise, each once; each import's is among them, but C: the plain law. -/
import Derived.Test.YtfkhgbjbhonpnaaRowOksHeaderPaths
import Derived.Test.YtfkhgbjbhonpnaaPHpx5
import Derived.Test.YtfkhgbjbhonpnaaSetLib
namespace Go.Proofs.Ytfkhgbjbhonpnaa.Pure
open Go.RowKit Go.Proofs.Ytfkhgbjbhonpnaa.PHp Go.Proofs.YtfkhgbjbhonpnaaW.PrintWords Go.Proofs.YtfkhgbjbhonpnaaW.PrintLast Go.Proofs.Ytfkhgbjbhonpnaa.RowOksHeaderPaths Go.Proofs.Ytfkhgbjbhonpnaa.HdrPaths Go.Proofs.Ytfkhgbjbhonpnaa.SetLib Go.Proofs.Ytfkhgbjbhonpnaa.SortLib Go.Proofs.Ytfkhgbjbhonpnaa.BytesLib
set_option linter.unusedVariables false

/-- The reference's loop over the paths so far. -/
theorem ref_inner (p : ByteArray) (i : Int) (c0 : ByteArray) (c1 : List S40) (c2 : ByteArray) (c3 : List ByteArray) (c4 : List S42) (out : List ByteArray) (hol : out.length ≤ 1000) (g : List ByteArray → Nat → Option (List ByteArray))
    (hg : ∀ now k, g now k = graftbedref11_Paths.l0 k now (wrap64 (i + 1)) c0 c1 c2 c3 c4) (r : List ByteArray) :
    ∀ (d k : Nat) (now : List ByteArray) (done : Bool), out.length - k = d → k ≤ out.length → now.length ≤ k + 1 → (done = false → now.length ≤ k) →
      Ev (g (now ++ (if done = true then out.drop k else ins p (out.drop k)))) r → Ev (fun n => graftbedref11_Paths.l1 n out i p now done k c0 c1 c2 c3 c4) r
  | 0, k, now, done, hd, hk, hn, hn2, he => by
    obtain rfl : k = out.length := by omega
    rw [List.drop_length] at he
    cases done with
    | true =>
      rw [if_pos rfl, List.append_nil] at he
      refine Ev.step (f := g now) (fun n => ?_) he
      rw [graftbedref11_Paths.l1, if_neg (by omega), if_pos rfl, hg]
    | false =>
      rw [if_neg (by decide)] at he
      refine Ev.step (f := g (now ++ [p])) (fun n => ?_) he
      rw [graftbedref11_Paths.l1, if_neg (by omega), if_neg (by decide), if_pos (by omega), hg]
  | d + 1, k, now, done, hd, hk, hn, hn2, he => by
    have hlt : k < out.length := by omega
    have hrd : rdOf ByteArray.empty out (k : Int) = out[k] := rdOf_get _ hlt
    have hw : wrap64 ((k : Int) + 1) = ((k + 1 : Nat) : Int) := w64 (by omega) (by omega)
    have hdr : out.drop k = out[k] :: out.drop (k + 1) := List.drop_eq_getElem_cons hlt
    cases done with
    | true =>
      have he2 : Ev (g ((now ++ [out[k]]) ++ (if true = true then out.drop (k + 1) else ins p (out.drop (k + 1))))) r := by
        rw [if_pos rfl] at he ⊢
        rw [hdr] at he
        rw [List.append_assoc]; exact he
      have ih := ref_inner p i c0 c1 c2 c3 c4 out hol g hg r d (k + 1) (now ++ [out[k]]) true (by omega) (by omega) (by simp; omega) (fun h => by cases h) he2
      refine Ev.step (f := fun n => graftbedref11_Paths.j2 n out i p now true k false c0 c1 c2 c3 c4) (fun n => by rw [graftbedref11_Paths.l1, if_pos (by omega), if_pos rfl]) ?_
      refine Ev.step (fun n => ?_) ih
      rw [graftbedref11_Paths.j2, if_neg (by decide), if_pos (by omega), if_pos (by omega), if_pos (by omega), hrd, hw]
    | false =>
      rw [if_neg (by decide), hdr] at he
      unfold ins at he
      by_cases h1 : L out[k] < L p
      · rw [if_pos h1] at he
        have he2 : Ev (g ((now ++ [out[k]]) ++ (if false = true then out.drop (k + 1) else ins p (out.drop (k + 1))))) r := by
          rw [if_neg (by decide), List.append_assoc]; exact he
        have ih := ref_inner p i c0 c1 c2 c3 c4 out hol g hg r d (k + 1) (now ++ [out[k]]) false (by omega) (by omega) (by simp; omega) (fun h => by simp; exact hn2 rfl) he2
        have hb : (!(Op.bytesLess ((rdOf ByteArray.empty out (k : Int)).toList) p.toList)) = false := by
          rw [hrd, toList_L, toList_L, bytesLess_eq, decide_eq_true h1]; rfl
        refine Ev.step (f := fun n => graftbedref11_Paths.j2 n out i p now false k false c0 c1 c2 c3 c4) (fun n => by rw [graftbedref11_Paths.l1, if_pos (by omega), if_neg (by decide), if_pos (by omega), hb]) ?_
        refine Ev.step (fun n => ?_) ih
        rw [graftbedref11_Paths.j2, if_neg (by decide), if_pos (by omega), if_pos (by omega), if_pos (by omega), hrd, hw]
      · rw [if_neg h1] at he
        have hb : (!(Op.bytesLess ((rdOf ByteArray.empty out (k : Int)).toList) p.toList)) = true := by
          rw [hrd, toList_L, toList_L, bytesLess_eq, decide_eq_false h1]; rfl
        refine Ev.step (f := fun n => graftbedref11_Paths.j2 n out i p now false k true c0 c1 c2 c3 c4) (fun n => by rw [graftbedref11_Paths.l1, if_pos (by omega), if_neg (by decide), if_pos (by omega), hb]) ?_
        by_cases h2 : p = out[k]
        · rw [if_pos h2] at he
          have he2 : Ev (g ((now ++ [out[k]]) ++ (if true = true then out.drop (k + 1) else ins p (out.drop (k + 1))))) r := by
            rw [if_pos rfl, List.append_assoc]; exact he
          have ih := ref_inner p i c0 c1 c2 c3 c4 out hol g hg r d (k + 1) (now ++ [out[k]]) true (by omega) (by omega) (by simp; omega) (fun h => by cases h) he2
          refine Ev.step (fun n => ?_) ih
          rw [graftbedref11_Paths.j2, if_pos rfl, if_pos (by omega), if_pos (by omega), if_pos (by rw [hrd, ← h2]), if_pos (by omega), hrd, hw]
        · rw [if_neg h2] at he
          have he2 : Ev (g ((now ++ [p] ++ [out[k]]) ++ (if true = true then out.drop (k + 1) else ins p (out.drop (k + 1))))) r := by
            rw [if_pos rfl, List.append_assoc, List.append_assoc]; exact he
          have ih := ref_inner p i c0 c1 c2 c3 c4 out hol g hg r d (k + 1) (now ++ [p] ++ [out[k]]) true (by omega) (by omega) (by have := hn2 rfl; simp; omega) (fun h => by cases h) he2
          refine Ev.step (fun n => ?_) ih
          rw [graftbedref11_Paths.j2, if_pos rfl, if_pos (by omega), if_pos (by omega), if_neg (by rw [hrd, toList_inj]; exact h2), if_pos (by omega)]
          simp only [Option.bind_some]
          rw [if_pos (by simp; omega), hrd, hw]

/-- The paths of the reference's imports, put in one by one. -/
def refPaths : List S40 → List ByteArray → List ByteArray
  | [], out => out
  | x :: r, out => refPaths r (if x.f1.toList = [67] then out else ins x.f1 out)
theorem refPaths_rises : ∀ {l : List S40} {out : List ByteArray}, Rises out → Rises (refPaths l out)
  | [], out, h => h
  | x :: r, out, h => by
    unfold refPaths
    apply refPaths_rises
    split
    · exact h
    · exact rises_ins h
theorem mem_refPaths {z : ByteArray} : ∀ {l : List S40} {out : List ByteArray}, z ∈ refPaths l out ↔ z ∈ out ∨ ∃ x ∈ l, x.f1.toList ≠ [67] ∧ z = x.f1
  | [], out => by unfold refPaths; simp
  | x :: r, out => by
    unfold refPaths
    rw [mem_refPaths]
    by_cases h : x.f1.toList = [67]
    · rw [if_pos h]
      simp [h]
    · rw [if_neg h, mem_ins]
      simp only [List.mem_cons, exists_eq_or_imp]
      constructor
      · rintro ((h1 | h1) | h1)
        · exact .inr (.inl ⟨h, h1⟩)
        · exact .inl h1
        · exact .inr (.inr h1)
      · rintro (h1 | ⟨_, h1⟩ | h1)
        · exact .inl (.inr h1)
        · exact .inl (.inl h1)
        · exact .inr h1
theorem mem_pathsOf {α : Type} (enc : α → ByteArray × ByteArray × Int) {z : ByteArray} : ∀ {l : List α}, z ∈ pathsOf enc l ↔ ∃ x ∈ l, (enc x).2.1.toList ≠ [67] ∧ z = (enc x).2.1
  | [] => by unfold pathsOf; simp
  | x :: r => by
    unfold pathsOf
    by_cases h : (enc x).2.1.toList = [67]
    · rw [if_pos h, mem_pathsOf]; simp [h]
    · rw [if_neg h, List.mem_cons, mem_pathsOf]
      simp [h]

theorem ref_outer (c0 : ByteArray) (c1 : List S40) (c2 : ByteArray) (c3 : List ByteArray) (c4 : List S42) (hc : c1.length ≤ 60) :
    ∀ (d i : Nat) (out : List ByteArray), c1.length - i = d → i ≤ c1.length → out.length ≤ i → Ev (fun n => graftbedref11_Paths.l0 n out i c0 c1 c2 c3 c4) (refPaths (c1.drop i) out)
  | 0, i, out, hd, hi, ho => by
    obtain rfl : i = c1.length := by omega
    rw [List.drop_length]
    refine Ev.step (f := fun _ => some out) (fun n => ?_) (Ev.now _)
    rw [graftbedref11_Paths.l0, if_neg (by omega)]
  | d + 1, i, out, hd, hi, ho => by
    have hlt : i < c1.length := by omega
    have hr : rd_T40 c1 (i : Int) = c1[i] := by unfold rd_T40; simp [hlt]
    have hw : wrap64 ((i : Int) + 1) = ((i + 1 : Nat) : Int) := w64 (by omega) (by omega)
    rw [List.drop_eq_getElem_cons hlt]
    unfold refPaths
    refine Ev.step (f := fun n => graftbedref11_Paths.l1 n out i (c1[i]).f1 [] ((c1[i]).f1.toList == [67]) 0 c0 c1 c2 c3 c4) (fun n => by rw [graftbedref11_Paths.l0, if_pos (by omega), if_pos (by omega), hr]) ?_
    refine ref_inner (c1[i]).f1 i c0 c1 c2 c3 c4 out (by omega) (fun now k => graftbedref11_Paths.l0 k now ((i + 1 : Nat) : Int) c0 c1 c2 c3 c4) (fun now k => by rw [hw]) _ _ 0 [] _ rfl (Nat.zero_le _) (by simp) (fun _ => Nat.le_refl _) ?_
    rw [List.nil_append, List.drop_zero]
    by_cases h : (c1[i]).f1.toList = [67]
    · rw [if_pos h, if_pos (by simpa using h)]
      exact ref_outer c0 c1 c2 c3 c4 hc d (i + 1) out (by omega) (by omega) (by omega)
    · rw [if_neg h, if_neg (by simpa using h)]
      exact ref_outer c0 c1 c2 c3 c4 hc d (i + 1) _ (by omega) (by omega) (by have := ins_len (c1[i]).f1 out; omega)

/-- An import, as the reference has it. -/
def conv (x : S28) : S40 := ⟨x.f0, x.f1, x.f2⟩
def convE (x : S43) : S42 := ⟨x.f0, x.f1⟩

theorem theirs_two (a0 : ByteArray) (a1 : List S28) (a2 : ByteArray) (a3 : List ByteArray) (a4 : List S43) (h4 : a4.length ≤ 5864062014700) (b0 : ByteArray) (b1 : List S40) (b2 : ByteArray) (b3 : List ByteArray) :
    ∀ (d i : Nat) (out : List S42), a4.length - i = d → i ≤ a4.length → out.length ≤ i →
      Ev (fun n => graftbedlaw11_theirs.l1 n i a0 a1 a2 a3 a4 b0 b1 b2 b3 out) (b0, b1, b2, b3, out ++ (a4.drop i).map convE)
  | 0, i, out, hd, hi, ho => by
    obtain rfl : i = a4.length := by omega
    rw [List.drop_length]
    refine Ev.step (f := fun _ => some (b0, b1, b2, b3, out)) (fun n => ?_) (by rw [List.map_nil, List.append_nil]; exact Ev.now _)
    rw [graftbedlaw11_theirs.l1, if_neg (by omega)]
  | d + 1, i, out, hd, hi, ho => by
    have hlt : i < a4.length := by omega
    have hr : rd_T43 a4 (i : Int) = a4[i] := by unfold rd_T43; simp [hlt]
    have hw : wrap64 ((i : Int) + 1) = ((i + 1 : Nat) : Int) := w64 (by omega) (by omega)
    rw [List.drop_eq_getElem_cons hlt, List.map_cons, show out ++ convE a4[i] :: (a4.drop (i + 1)).map convE = (out ++ [convE a4[i]]) ++ (a4.drop (i + 1)).map convE by simp]
    refine Ev.step (fun n => ?_) (theirs_two a0 a1 a2 a3 a4 h4 b0 b1 b2 b3 d (i + 1) (out ++ [convE a4[i]]) (by omega) (by omega) (by simp; omega))
    rw [graftbedlaw11_theirs.l1, if_pos (by omega), if_pos (by omega), if_pos (by omega), hr, hw]; rfl
theorem theirs_one (a0 : ByteArray) (a1 : List S28) (a2 : ByteArray) (a3 : List ByteArray) (a4 : List S43) (h1 : a1.length ≤ 60) (h4 : a4.length ≤ 5864062014700) :
    ∀ (d i : Nat) (out : List S40), a1.length - i = d → i ≤ a1.length → out.length ≤ i →
      Ev (fun n => graftbedlaw11_theirs.l0 n i a0 a1 a2 a3 a4 a0 out a2 a3) (a0, out ++ (a1.drop i).map conv, a2, a3, a4.map convE)
  | 0, i, out, hd, hi, ho => by
    obtain rfl : i = a1.length := by omega
    rw [List.drop_length, List.map_nil, List.append_nil]
    refine Ev.step (fun n => ?_) (theirs_two a0 a1 a2 a3 a4 h4 a0 out a2 a3 _ 0 [] rfl (Nat.zero_le _) (Nat.le_refl _))
    rw [graftbedlaw11_theirs.l0, if_neg (by omega)]; rfl
  | d + 1, i, out, hd, hi, ho => by
    have hlt : i < a1.length := by omega
    have hr : rd_T28 a1 (i : Int) = a1[i] := by unfold rd_T28; simp [hlt]
    have hw : wrap64 ((i : Int) + 1) = ((i + 1 : Nat) : Int) := w64 (by omega) (by omega)
    rw [List.drop_eq_getElem_cons hlt, List.map_cons, show out ++ conv a1[i] :: (a1.drop (i + 1)).map conv = (out ++ [conv a1[i]]) ++ (a1.drop (i + 1)).map conv by simp]
    refine Ev.step (fun n => ?_) (theirs_one a0 a1 a2 a3 a4 h1 h4 d (i + 1) (out ++ [conv a1[i]]) (by omega) (by omega) (by simp; omega))
    rw [graftbedlaw11_theirs.l0, if_pos (by omega), if_pos (by omega), if_pos (by omega), hr, hw]; rfl

theorem same_self (l : List ByteArray) (hl : l.length ≤ 1000) : ∀ (d i : Nat), l.length - i = d → i ≤ l.length → Ev (fun n => graftbedlaw11_same.l0 n l l i) true
  | 0, i, hd, hi => Ev.step (f := fun _ => some true) (fun n => by rw [graftbedlaw11_same.l0, if_neg (by omega)]) (Ev.now _)
  | d + 1, i, hd, hi => Ev.step (fun n => by
      rw [graftbedlaw11_same.l0, if_pos (by omega), if_pos (by omega), if_pos (by omega), if_pos rfl, w64 (by omega) (by omega)]; rfl) (same_self l hl d (i + 1) (by omega) (by omega))

theorem one_path : header_Paths.f (⟨#[]⟩ : ByteArray) [(⟨(⟨#[]⟩ : ByteArray), (⟨#[120]⟩ : ByteArray), 0⟩ : S28)] (⟨#[]⟩ : ByteArray) [] [] = some [(⟨#[120]⟩ : ByteArray)] := by
  unfold header_Paths.f
  rw [if_pos (by decide)]
  have hp : pathsOf header_Paths.enc [(⟨(⟨#[]⟩ : ByteArray), (⟨#[120]⟩ : ByteArray), 0⟩ : S28)] = [(⟨#[120]⟩ : ByteArray)] := by decide +kernel
  rw [hp]
  obtain ⟨h1, h2⟩ := set_inv [(⟨#[120]⟩ : ByteArray)]
  exact congrArg some (rises_ext h1 (rises_cons.2 ⟨by simp, by unfold Rises; simp⟩) h2)

theorem last_loop (l : List ByteArray) (hl : l.length ≤ 1000) (hr : Rises l) (hC : ∀ x ∈ l, x.toList ≠ [67]) : ∀ (d i : Nat), l.length - i = d → i ≤ l.length → Ev (fun n => graftbedlaw11_HeaderPaths.l1 n l i) true
  | 0, i, hd, hi => Ev.step (f := fun _ => some true) (fun n => by rw [graftbedlaw11_HeaderPaths.l1, if_neg (by omega), one_path]; rfl) (Ev.now _)
  | d + 1, i, hd, hi => by
    have hlt : i < l.length := by omega
    refine Ev.step (fun n => ?_) (last_loop l hl hr hC d (i + 1) (by omega) (by omega))
    have hw : wrap64 ((i : Int) + 1) = ((i + 1 : Nat) : Int) := w64 (by omega) (by omega)
    rw [graftbedlaw11_HeaderPaths.l1, if_pos (by omega), if_pos (by omega), rdOf_get _ hlt, if_neg (hC _ (List.getElem_mem hlt))]
    rcases Nat.eq_zero_or_pos i with h0 | h0
    · subst h0
      rw [if_neg (by omega), hw]
    · have hw1 : wrap64 ((i : Int) - 1) = ((i - 1 : Nat) : Int) := by rw [w64 (by omega) (by omega)]; omega
      rw [if_pos (by omega), hw1, if_pos (by omega), if_pos (by omega), rdOf_get _ (show i - 1 < l.length by omega)]
      have hlt2 : L l[i - 1] < L l[i] := by
        have := List.pairwise_iff_getElem.1 hr (i - 1) i (by rw [List.length_map]; omega) (by rw [List.length_map]; omega) (by omega)
        simpa using this
      rw [if_pos (by rw [toList_L, toList_L, bytesLess_eq, decide_eq_true hlt2]), hw]

theorem first_loop (a0 : ByteArray) (a1 : List S28) (a2 : ByteArray) (a3 : List ByteArray) (a4 : List S43) (h1 : a1.length ≤ 60) (h4 : a4.length ≤ 5864062014700) :
    ∀ (d i : Nat), a1.length - i = d → i ≤ a1.length → Ev (fun n => graftbedlaw11_HeaderPaths.l0 n i a0 a1 a2 a3 a4) true
  | 0, i, hd, hi => by
    obtain ⟨s1, s2⟩ := set_inv (pathsOf header_Paths.enc a1)
    have hth := theirs_one a0 a1 a2 a3 a4 h1 h4 _ 0 [] rfl (Nat.zero_le _) (Nat.le_refl _)
    rw [List.drop_zero, List.nil_append] at hth
    have hrf := ref_outer a0 (a1.map conv) a2 a3 (a4.map convE) (by rw [List.length_map]; exact h1) _ 0 [] rfl (Nat.zero_le _) (Nat.le_refl _)
    rw [List.drop_zero] at hrf
    have heq : refPaths (a1.map conv) [] = compacted (sorted (pathsOf header_Paths.enc a1)) := by
      refine rises_ext (refPaths_rises (by unfold Rises; simp)) s1 fun z => ?_
      rw [s2, mem_refPaths, mem_pathsOf]
      simp only [List.not_mem_nil, false_or, List.mem_map]
      constructor
      · rintro ⟨x, ⟨y, hy, rfl⟩, h⟩; exact ⟨y, hy, h⟩
      · rintro ⟨y, hy, h⟩; exact ⟨conv y, ⟨y, hy, rfl⟩, h⟩
    rw [heq] at hrf
    have hlen : (compacted (sorted (pathsOf header_Paths.enc a1))).length ≤ 60 := by
      have g1 := compacted_le (sorted (pathsOf header_Paths.enc a1))
      rw [sorted_length] at g1
      have := pathsOf_len header_Paths.enc a1
      omega
    have hC : ∀ x ∈ compacted (sorted (pathsOf header_Paths.enc a1)), x.toList ≠ [67] := fun x hx => by
      rw [s2, mem_pathsOf] at hx
      obtain ⟨y, _, h, rfl⟩ := hx
      exact h
    refine Ev.step (f := fun n => (header_Paths.f a0 a1 a2 a3 a4).bind fun t144 => ((graftbedlaw11_theirs.f n a0 a1 a2 a3 a4).bind fun bt147 => ((graftbedref11_Paths.f n bt147.1 bt147.2.1 bt147.2.2.1 bt147.2.2.2.1 bt147.2.2.2.2).bind fun t158 => ((graftbedlaw11_same.f n t144 t158).bind fun t161 => (if t161 = true then (graftbedlaw11_HeaderPaths.l1 n t144 0) else (some false)))))) (fun n => by rw [graftbedlaw11_HeaderPaths.l0, if_neg (by omega)]) ?_
    have hp : header_Paths.f a0 a1 a2 a3 a4 = some (compacted (sorted (pathsOf header_Paths.enc a1))) := by unfold header_Paths.f; rw [if_pos (by omega)]
    rw [hp]
    simp only [Option.bind_some]
    refine Ev.bind (g := fun n => graftbedlaw11_theirs.f n a0 a1 a2 a3 a4) hth ?_
    refine Ev.bind (g := fun n => graftbedref11_Paths.f n a0 (a1.map conv) a2 a3 (a4.map convE)) hrf ?_
    have hsame := same_self _ (show (compacted (sorted (pathsOf header_Paths.enc a1))).length ≤ 1000 by omega) _ 0 rfl (Nat.zero_le _)
    refine Ev.bind (g := fun n => graftbedlaw11_same.f n (compacted (sorted (pathsOf header_Paths.enc a1))) (compacted (sorted (pathsOf header_Paths.enc a1)))) (Ev.congr (fun n => by unfold graftbedlaw11_same.f; rw [if_pos rfl]; rfl) hsame) ?_
    exact Ev.congr (fun n => by rw [if_pos rfl]; rfl) (last_loop _ (by omega) s1 hC _ 0 rfl (Nat.zero_le _))
  | d + 1, i, hd, hi => by
    have hlt : i < a1.length := by omega
    by_cases hb : (((rd_T28 a1 (i : Int)).f1).size : Int) > 1024
    · exact Ev.step (f := fun _ => some true) (fun n => by rw [graftbedlaw11_HeaderPaths.l0, if_pos (by omega), if_pos (by omega), if_pos hb]) (Ev.now _)
    · exact Ev.step (fun n => by rw [graftbedlaw11_HeaderPaths.l0, if_pos (by omega), if_pos (by omega), if_neg hb, w64 (by omega) (by omega)]; rfl) (first_loop a0 a1 a2 a3 a4 h1 h4 d (i + 1) (by omega) (by omega))

theorem HeaderPaths (a0_0 : ByteArray) (l0_1 : List S28) (a0_2 : ByteArray) (l0_3 : List ByteArray) (l0_4 : List S43) (w0 : ok26 ⟨a0_0, l0_1, a0_2, l0_3, l0_4⟩) : ∃ k, graftbedlaw11_HeaderPaths.f k a0_0 l0_1 a0_2 l0_3 l0_4 = some true := by
  refine Ev.rounds (g := fun k => graftbedlaw11_HeaderPaths.f k a0_0 l0_1 a0_2 l0_3 l0_4) ?_
  have h4 : l0_4.length * 24 ≤ 140737488351232 := w0.2.2.2.2.1
  by_cases h : (l0_1.length : Int) > 60
  · exact Ev.congr (fun n => by unfold graftbedlaw11_HeaderPaths.f; rw [if_pos h]) (Ev.now true)
  · exact Ev.congr (fun n => by unfold graftbedlaw11_HeaderPaths.f; rw [if_neg h]; rfl) (first_loop a0_0 l0_1 a0_2 l0_3 l0_4 (by omega) (by omega) _ 0 rfl (Nat.zero_le _))
end Go.Proofs.Ytfkhgbjbhonpnaa.Pure
