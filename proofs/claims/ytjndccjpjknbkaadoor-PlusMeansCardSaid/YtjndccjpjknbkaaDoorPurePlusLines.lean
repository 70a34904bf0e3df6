/- Elder lines: the law PlusLines. -/
import Derived.Test.YtjndccjpjknbkaaDoorMpa
import Derived.Test.YtjndccjpjknbkaaDoorMpb
import Derived.Test.YtjndccjpjknbkaaDoorPurePlLine
namespace Go.Proofs.YtjndccjpjknbkaaDoor.PurePl
open Go.RowKit Go.Proofs.YtjndccjpjknbkaaDoor.PPl Go.Proofs.YtjndccjpjknbkaaDoorW.PrintWords Go.Proofs.YtjndccjpjknbkaaDoorW.PrintLast Go.Proofs.YtjndccjpjknbkaaDoorW.PrintMore Go.Proofs.YtjndccjpjknbkaaDoor.BytesLib Go.Proofs.YtjndccjpjknbkaaDoor.ExLib Go.Proofs.YtjndccjpjknbkaaDoor.ExNode Go.Proofs.YtjndccjpjknbkaaDoor.ExTag Go.Proofs.YtjndccjpjknbkaaDoor.ExSem Go.Proofs.YtjndccjpjknbkaaDoor.ExLaw Go.Proofs.YtjndccjpjknbkaaDoor.ExLaw2 Go.Proofs.YtjndccjpjknbkaaDoor.ExLaw3 Go.Proofs.YtjndccjpjknbkaaDoor.ExBoth Go.Proofs.YtjndccjpjknbkaaDoor.PlJoin Go.Proofs.YtjndccjpjknbkaaDoor.PlLine Go.Proofs.YtjndccjpjknbkaaDoor.PlSplit
open Go.Proofs.YtjndccjpjknbkaaDoor.ExCheck (checkF)
set_option linter.unusedVariables false

theorem terms_pos (s : ByteArray) : 0 < (termsOf s).length := by
  have h := congrArg List.length (terms_eq s)
  rw [List.length_map] at h
  have h2 := splitP_ne commaB (L s)
  have h3 : 0 < (splitP commaB (L s)).length := List.length_pos_iff.2 h2
  omega
/-- The end of both: the reference's Check. -/
theorem check_end {J : List Nd} (hx : J ≠ [] → ∃ dp, Ex J dp) (hl : J.length ≤ 1000000) (ht : smallT J) :
    Ev (fun k => (graftbedref12_Check.f k (rus J)).bind fun t => if t = 0 then some (rus J, (0 : Int)) else some (([] : List S61), 120)) (rus (checkedF J).1, (checkedF J).2) := by
  unfold checkedF
  by_cases h : J = []
  · subst h
    rw [if_neg (fun h => h.1 rfl)]
    exact Ev.bind (f := fun _ t => if t = 0 then some (rus [], (0 : Int)) else some (([] : List S61), 120)) rcheck_nil (Ev.congr (fun k => by rw [if_neg (by decide)]; rfl) (Ev.now _))
  · obtain ⟨dp, hE⟩ := hx h
    refine Ev.bind (f := fun _ t => if t = 0 then some (rus J, (0 : Int)) else some (([] : List S61), 120)) (rcheck_ex hE hl ht) (Ev.congr (fun k => ?_) (Ev.now _))
    by_cases h0 : checkF J = 0
    · rw [if_pos h0, if_pos ⟨h, h0⟩]
    · rw [if_neg h0, if_neg (fun q => h0 q.2)]; rfl

theorem line_l0 (fs : List ByteArray) (hfl : fs.length ≤ 513) (hsz : ∀ t ∈ fs, t.size ≤ 512) (J : List Nd) (hx : J ≠ [] → ∃ dp, Ex J dp) (hJl : J.length ≤ 1000000) (hJt : smallT J) : ∀ (d i : Nat) (acc : List Nd), fs.length - i = d → i ≤ fs.length → acc.length ≤ 1540 * i → (i = 0 → acc = []) → (0 < i → acc ≠ []) → joinAt optF 3 fs i acc = J →
    Ev (fun k => graftbedref13_Line.l0 k (rus acc) fs (i : Int)) (rus (checkedF J).1, (checkedF J).2)
  | 0, i, acc, hd, hi, hl, h0, hp, hJ => by
    obtain rfl : i = fs.length := by omega
    have : acc = J := by
      by_cases hz : fs.length = 0
      · rw [h0 hz]
        rw [List.length_eq_zero_iff.1 hz] at hJ
        exact hJ
      · rw [← hJ, joinAt_end (by omega)]
    subst this
    exact Ev.step (fun k => by rw [graftbedref13_Line.l0, if_neg (by omega)]) (check_end hx hJl hJt)
  | d + 1, i, acc, hd, hi, hl, h0, hp, hJ => by
    have hlt : i < fs.length := by omega
    have hrd := rd_str hlt
    have htx := hsz fs[i] (List.getElem_mem hlt)
    have hN := joinAt_none (one := optF) (k := 3) (acc := acc) hlt
    have hS := joinAt_some (one := optF) (k := 3) (acc := acc) hlt
    have hrec := fun (acc2 : List Nd) (h1 : acc2.length ≤ 1540 * (i + 1)) (h2 : acc2 ≠ []) (h3 : joinAt optF 3 fs (i + 1) acc2 = J) => line_l0 fs hfl hsz J hx hJl hJt d (i + 1) acc2 (by omega) (by omega) h1 (fun h => by omega) (fun _ => h2) h3
    obtain ⟨t, ht⟩ : ∃ t, fs[i] = t := ⟨_, rfl⟩
    rw [ht] at hrd htx hN hS
    have hw : wrap64 ((i : Int) + 1) = ((i + 1 : Nat) : Int) := by rw [w64u (by omega) (by omega)]; rfl
    have hol := opt_len2 htx
    have htl := terms_len t
    refine Ev.step (f := fun k => (graftbedref13_split.f k t 44 44 true).bind fun t166 => graftbedref13_Line.l1 k (rus acc) fs (i : Int) [] t166 0) (fun k => by rw [graftbedref13_Line.l0, if_pos (by omega), if_pos (by omega), hrd]) ?_
    refine Ev.bind (f := fun k t166 => graftbedref13_Line.l1 k (rus acc) fs (i : Int) [] t166 0) (terms_ev t (by omega)) ?_
    refine line_l1 acc fs (i : Int) (termsOf t) (by omega) (terms_pos t) (fun u hu => by have := terms_size hu; omega) _ (optF t) (fun hne => ?_) (fun he => ?_) _ 0 [] rfl (Nat.zero_le _) (Nat.zero_le _) (fun h => absurd h (Nat.lt_irrefl _)) rfl
    · have hl1 : (if i = 0 then optF t else bothN 3 acc (optF t)).length ≤ 1540 * (i + 1) := by
        by_cases hz : i = 0
        · rw [if_pos hz]; omega
        · rw [if_neg hz, bothN_len]; omega
      have hl2 : (if i = 0 then optF t else bothN 3 acc (optF t)) ≠ [] := by
        by_cases hz : i = 0
        · rw [if_pos hz]; exact hne
        · rw [if_neg hz]; exact bothN_ne _ _ _
      refine Ev.congr (fun k => ?_) (hrec _ hl1 hl2 (by rw [← hS hne]; exact hJ))
      rw [hw]
      by_cases hz : i = 0
      · rw [if_pos (by omega), if_pos hz]
      · rw [if_neg (by omega), if_neg hz, rOr_eq (by omega) (by omega), Option.bind_some]
    · rw [hN he] at hJ
      rw [← hJ]
      unfold checkedF
      rw [if_neg (fun h => h.1 rfl)]
      rfl
theorem line_len {s : ByteArray} (hs : s.size ≤ 512) : (lineJ s).length ≤ 1000000 := by
  have h := joinF_len (k := 3) (one := optF) (fieldsOf s) (M1 := 1539) (fun t ht => opt_len2 (by have := fields_size ht; omega))
  have := fields_len s
  unfold lineJ
  omega
theorem rline_ev {s : ByteArray} (hs : s.size ≤ 512) : Ev (fun k => graftbedref13_Line.f k s) (rus (lineF s).1, (lineF s).2) := by
  have hf := fields_len s
  refine Ev.congr (f := fun k => (graftbedref13_split.f k s 32 9 false).bind fun t158 => graftbedref13_Line.l0 k (([] : List S61)) t158 0) (fun k => rfl) ?_
  refine Ev.bind (f := fun k t158 => graftbedref13_Line.l0 k (([] : List S61)) t158 0) (fields_ev s (by omega)) ?_
  exact line_l0 (fieldsOf s) (by omega) (fun t ht => by have := fields_size ht; omega) (lineJ s) (line_ex hs) (line_len hs) (line_small (by omega)) _ 0 [] rfl (Nat.zero_le _) (Nat.zero_le _) (fun _ => rfl) (fun h => absurd h (Nat.lt_irrefl _)) rfl

/-! ### Lines -/
theorem line_two (s : ByteArray) : ((lineF s).2 = 0 ∧ line1 s ≠ []) ∨ ((lineF s).2 = 120 ∧ line1 s = []) := by
  unfold line1 lineF checkedF
  by_cases h : lineJ s ≠ [] ∧ checkF (lineJ s) = 0
  · rw [if_pos h]; exact .inl ⟨rfl, h.1⟩
  · rw [if_neg h]; exact .inr ⟨rfl, rfl⟩
theorem lines_l0 (fs : List ByteArray) (hfl : fs.length ≤ 2000) (hsz : ∀ t ∈ fs, t.size ≤ 512) (J : List Nd) (hx : J ≠ [] → ∃ dp, Ex J dp) (hJl : J.length ≤ 1000000) (hJt : smallT J) : ∀ (d i : Nat) (acc : List Nd), fs.length - i = d → i ≤ fs.length → acc.length ≤ 61 * i → (i = 0 → acc = []) → (0 < i → acc ≠ []) → joinAt line1 2 fs i acc = J →
    Ev (fun k => graftbedref13_Lines.l0 k fs (rus acc) (i : Int)) (rus (checkedF J).1, (checkedF J).2)
  | 0, i, acc, hd, hi, hl, h0, hp, hJ => by
    obtain rfl : i = fs.length := by omega
    have : acc = J := by
      by_cases hz : fs.length = 0
      · rw [h0 hz]
        rw [List.length_eq_zero_iff.1 hz] at hJ
        exact hJ
      · rw [← hJ, joinAt_end (by omega)]
    subst this
    exact Ev.step (fun k => by rw [graftbedref13_Lines.l0, if_neg (by omega)]) (check_end hx hJl hJt)
  | d + 1, i, acc, hd, hi, hl, h0, hp, hJ => by
    have hlt : i < fs.length := by omega
    have hrd := rd_str hlt
    have htx := hsz fs[i] (List.getElem_mem hlt)
    have hN := joinAt_none (one := line1) (k := 2) (acc := acc) hlt
    have hS := joinAt_some (one := line1) (k := 2) (acc := acc) hlt
    have hrec := fun (acc2 : List Nd) (h1 : acc2.length ≤ 61 * (i + 1)) (h2 : acc2 ≠ []) (h3 : joinAt line1 2 fs (i + 1) acc2 = J) => lines_l0 fs hfl hsz J hx hJl hJt d (i + 1) acc2 (by omega) (by omega) h1 (fun h => by omega) (fun _ => h2) h3
    obtain ⟨t, ht⟩ : ∃ t, fs[i] = t := ⟨_, rfl⟩
    rw [ht] at hrd htx hN hS
    have hw : wrap64 ((i : Int) + 1) = ((i + 1 : Nat) : Int) := by rw [w64u (by omega) (by omega)]; rfl
    have hol : (line1 t).length ≤ 60 := checked_len _
    refine Ev.step (f := fun k => (graftbedref13_Line.f k t).bind fun bt191 => if bt191.2 = 0 then (if (i : Int) = 0 then graftbedref13_Lines.l0 k fs bt191.1 (wrap64 ((i : Int) + 1)) else ((graftbedref12_And.f (rus acc) bt191.1).bind fun t195 => graftbedref13_Lines.l0 k fs t195 (wrap64 ((i : Int) + 1)))) else some (([] : List S61), bt191.2)) (fun k => by rw [graftbedref13_Lines.l0, if_pos (by omega), if_pos (by omega), hrd]) ?_
    refine Ev.bind (f := fun k bt191 => if bt191.2 = 0 then (if (i : Int) = 0 then graftbedref13_Lines.l0 k fs bt191.1 (wrap64 ((i : Int) + 1)) else ((graftbedref12_And.f (rus acc) bt191.1).bind fun t195 => graftbedref13_Lines.l0 k fs t195 (wrap64 ((i : Int) + 1)))) else some (([] : List S61), bt191.2)) (rline_ev htx) ?_
    rcases line_two t with ⟨hc, hne⟩ | ⟨hc, he⟩
    · have hl1 : (if i = 0 then line1 t else bothN 2 acc (line1 t)).length ≤ 61 * (i + 1) := by
        by_cases hz : i = 0
        · rw [if_pos hz]; omega
        · rw [if_neg hz, bothN_len]; omega
      have hl2 : (if i = 0 then line1 t else bothN 2 acc (line1 t)) ≠ [] := by
        by_cases hz : i = 0
        · rw [if_pos hz]; exact hne
        · rw [if_neg hz]; exact bothN_ne _ _ _
      refine Ev.congr (fun k => ?_) (hrec _ hl1 hl2 (by rw [← hS hne]; exact hJ))
      have e1 : (rus (lineF t).1, (lineF t).2).1 = rus (line1 t) := rfl
      have e2 : (rus (lineF t).1, (lineF t).2).2 = (0 : Int) := hc
      rw [hw, e1, e2, if_pos rfl]
      by_cases hz : i = 0
      · rw [if_pos (by omega), if_pos hz]
      · rw [if_neg (by omega), if_neg hz, rAnd_eq (by omega) (by omega), Option.bind_some]
    · rw [hN he] at hJ
      rw [← hJ]
      refine Ev.congr (f := fun _ => some (([] : List S61), (120 : Int))) (fun k => ?_) ?_
      · have e2 : (rus (lineF t).1, (lineF t).2).2 = (120 : Int) := hc
        rw [e2, if_neg (by decide)]
      · unfold checkedF
        rw [if_neg (fun h => h.1 rfl)]
        exact Ev.now _
theorem lines_len {l : List ByteArray} (hl : l.length ≤ 2000) : (linesJ l).length ≤ 1000000 := by
  have h := joinF_len (k := 2) l (one := line1) (M1 := 60) (fun t ht => checked_len _)
  unfold linesJ
  omega
theorem rlines_ev {l : List ByteArray} (hl : l.length ≤ 2000) (hs : ∀ s ∈ l, s.size ≤ 512) : Ev (fun k => graftbedref13_Lines.f k l) (rus (linesF l).1, (linesF l).2) :=
  lines_l0 l hl hs (linesJ l) (lines_ex hl hs) (lines_len hl) (lines_small hs) _ 0 [] rfl (Nat.zero_le _) (Nat.zero_le _) (fun _ => rfl) (fun h => absurd h (Nat.lt_irrefl _)) rfl

/-! ### heavy -/
theorem heavy_loop (l : List ByteArray) : ∀ (d i : Nat) (x : Int), l.length - i = d → i ≤ l.length → 0 ≤ x → x ≤ 2000000 → (512 < x ∨ ((l.length : Int) ≤ x ∧ ∀ t ∈ l.take i, (t.size : Int) ≤ x)) →
    ∃ b, Ev (fun k => graftbedlaw13_heavy.l0 k l x (i : Int)) b ∧ (b = false → l.length ≤ 512 ∧ ∀ t ∈ l, t.size ≤ 512)
  | 0, i, x, hd, hi, h0, h1, hv => by
    obtain rfl : i = l.length := by omega
    refine ⟨decide (x > 512), Ev.step (f := fun _ => some (decide (x > 512))) (fun k => by rw [graftbedlaw13_heavy.l0, if_neg (by omega)]) (Ev.now _), fun hb => ?_⟩
    have hx : ¬ x > 512 := of_decide_eq_false hb
    rcases hv with hv | ⟨hv1, hv2⟩
    · omega
    · refine ⟨by omega, fun t ht => ?_⟩
      rw [List.take_length] at hv2
      have := hv2 t ht
      omega
  | d + 1, i, x, hd, hi, h0, h1, hv => by
    have hlt : i < l.length := by omega
    by_cases hx : x ≤ 512
    · rcases hv with hv | ⟨hv1, hv2⟩
      · omega
      have hmn : 0 ≤ mn ((l[i]).size : Int) 1048576 ∧ mn ((l[i]).size : Int) 1048576 ≤ 1048576 ∧ (mn ((l[i]).size : Int) 1048576 = ((l[i]).size : Int) ∨ mn ((l[i]).size : Int) 1048576 = 1048576) := by
        unfold mn
        split
        · exact ⟨by omega, by omega, .inr rfl⟩
        · exact ⟨by omega, by omega, .inl rfl⟩
      obtain ⟨m, hm⟩ : ∃ m, mn ((l[i]).size : Int) 1048576 = m := ⟨_, rfl⟩
      rw [hm] at hmn
      obtain ⟨b, hb1, hb2⟩ := heavy_loop l d (i + 1) (x + m) (by omega) (by omega) (by omega) (by omega) (by
        rcases hmn.2.2 with h | h
        · refine .inr ⟨by omega, fun t ht => ?_⟩
          rw [List.take_succ_eq_append_getElem hlt] at ht
          rcases List.mem_append.1 ht with h3 | h3
          · have := hv2 t h3; omega
          · rw [List.mem_singleton] at h3
            subst h3; omega
        · exact .inl (by omega))
      refine ⟨b, Ev.step (fun k => ?_) hb1, hb2⟩
      rw [graftbedlaw13_heavy.l0, if_pos (by omega), if_pos hx, if_pos (by omega), rd_str hlt, hm, w64u (x := x + m) (by omega) (by omega), w64u (by omega) (by omega)]
      rfl
    · exact ⟨true, Ev.step (f := fun _ => some true) (fun k => by rw [graftbedlaw13_heavy.l0, if_pos (by omega), if_neg hx, decide_eq_true (by omega)]) (Ev.now _), fun h => by cases h⟩
theorem heavy_ev (l : List ByteArray) : ∃ b, Ev (fun k => graftbedlaw13_heavy.f k l) b ∧ (b = false → l.length ≤ 512 ∧ ∀ t ∈ l, t.size ≤ 512) := by
  have hmn : 0 ≤ mn (l.length : Int) 1048576 ∧ mn (l.length : Int) 1048576 ≤ 1048576 ∧ (mn (l.length : Int) 1048576 = (l.length : Int) ∨ mn (l.length : Int) 1048576 = 1048576) := by
    unfold mn
    split
    · exact ⟨by omega, by omega, .inr rfl⟩
    · exact ⟨by omega, by omega, .inl rfl⟩
  exact heavy_loop l _ 0 _ rfl (Nat.zero_le _) (by omega) (by omega) (by
    rcases hmn.2.2 with h | h
    · exact .inr ⟨by omega, fun t ht => by rw [List.take_zero] at ht; cases ht⟩
    · exact .inl (by omega))

/-! ### The law -/
theorem their_dec (N : List Nd) : (N.map plus_Line.dec).map their = rus N := by
  rw [List.map_map]
  rfl
theorem their_dec2 (N : List Nd) : (N.map plus_Lines.dec).map their = rus N := by
  rw [List.map_map]
  rfl
theorem line_empty : (lineF ⟨#[]⟩).2 = 120 := by
  have h : fieldsOf ⟨#[]⟩ = [] := by
    have h1 := fields_eq ⟨#[]⟩
    have h2 : ne (splitP blankB (L ⟨#[]⟩)) = [] := by decide +kernel
    rw [h2] at h1
    exact List.map_eq_nil_iff.1 h1
  have hJ : lineJ ⟨#[]⟩ = [] := by unfold lineJ; rw [h]; rfl
  unfold lineF checkedF
  rw [hJ, if_neg (fun h => h.1 rfl)]
end Go.Proofs.YtjndccjpjknbkaaDoor.PurePl
namespace Go.Proofs.YtjndccjpjknbkaaDoor.Pure
open Go.RowKit Go.Proofs.YtjndccjpjknbkaaDoor.PPl Go.Proofs.YtjndccjpjknbkaaDoor.PurePl Go.Proofs.YtjndccjpjknbkaaDoorW.PrintWords Go.Proofs.YtjndccjpjknbkaaDoorW.PrintLast Go.Proofs.YtjndccjpjknbkaaDoorW.PrintMore Go.Proofs.YtjndccjpjknbkaaDoor.PlJoin Go.Proofs.YtjndccjpjknbkaaDoor.PlLine
theorem PlusLines (l0 : List ByteArray) (a1 : ByteArray) (w0 : l0.length * 16 ≤ 140737488351232 ∧ ∀ y ∈ l0, y.size ≤ 140737488351232) (w1 : a1.size ≤ 140737488351232) : ∃ k, graftbedlaw13_PlusLines.f k l0 a1 = some true := by
  refine Ev.rounds (g := fun k => graftbedlaw13_PlusLines.f k l0 a1) ?_
  obtain ⟨b, hb1, hb2⟩ := heavy_ev l0
  have hj : Ev (fun k => graftbedlaw13_PlusLines.j0 k l0 a1 true) true := Ev.step (f := fun _ => some true) (fun k => by rw [graftbedlaw13_PlusLines.j0, if_pos rfl]) (Ev.now _)
  refine Ev.congr (f := fun k => (graftbedlaw13_heavy.f k l0).bind fun t205 => if t205 = true then graftbedlaw13_PlusLines.j0 k l0 a1 true else graftbedlaw13_PlusLines.j0 k l0 a1 (decide ((a1.size : Int) > 512))) (fun k => rfl) ?_
  refine Ev.bind (f := fun k t205 => if t205 = true then graftbedlaw13_PlusLines.j0 k l0 a1 true else graftbedlaw13_PlusLines.j0 k l0 a1 (decide ((a1.size : Int) > 512))) hb1 ?_
  cases b with
  | true => exact Ev.congr (fun k => by rw [if_pos rfl]) hj
  | false =>
    obtain ⟨hl, hs⟩ := hb2 rfl
    by_cases ha : (a1.size : Int) > 512
    · exact Ev.congr (fun k => by rw [if_neg (by decide), decide_eq_true ha]) hj
    have e1 : plus_Lines.f l0 = some ((linesF l0).1.map plus_Lines.dec, (linesF l0).2) := by
      unfold plus_Lines.f plus_Lines.small
      rw [if_pos (by omega), if_pos (by rw [List.all_eq_true]; intro t ht; exact decide_eq_true (hs t ht))]
    have e2 : plus_Line.f a1 = some ((lineF a1).1.map plus_Line.dec, (lineF a1).2) := by
      unfold plus_Line.f
      rw [if_pos (by omega)]
    have e3 : plus_Line.f ⟨#[]⟩ = some ((lineF ⟨#[]⟩).1.map plus_Line.dec, (lineF ⟨#[]⟩).2) := by
      unfold plus_Line.f
      rw [if_pos (by decide)]
    have c1 := checked_len (linesJ l0)
    have c2 := checked_len (lineJ a1)
    have c1' : (linesF l0).1.length ≤ 60 := c1
    have c2' : (lineF a1).1.length ≤ 60 := c2
    refine Ev.congr (f := fun k => graftbedlaw13_PlusLines.j0 k l0 a1 false) (fun k => by rw [if_neg (by decide), decide_eq_false ha]) ?_
    refine Ev.step (fun k => by rw [graftbedlaw13_PlusLines.j0, if_neg (by decide), e1, Option.bind_some]) ?_
    refine Ev.bind (rlines_ev (by omega) hs) ?_
    refine Ev.congr (fun k => by rw [e2, Option.bind_some]) ?_
    refine Ev.bind (rline_ev (by omega)) ?_
    refine Ev.congr (fun k => by rw [e3, Option.bind_some, if_pos rfl, if_pos rfl]) ?_
    have t1 := theirs_eq (l := (linesF l0).1.map plus_Lines.dec) (by rw [List.length_map]; omega)
    have t2 := theirs_eq (l := (lineF a1).1.map plus_Line.dec) (by rw [List.length_map]; omega)
    rw [their_dec2] at t1
    rw [their_dec] at t2
    refine Ev.bind t1 ?_
    refine Ev.bind (same_eq _ (by rw [rus_len]; omega)) ?_
    refine Ev.congr (fun k => by rw [if_pos rfl]) ?_
    refine Ev.bind t2 ?_
    refine Ev.bind (same_eq _ (by rw [rus_len]; omega)) ?_
    refine Ev.congr (f := fun _ => some true) (fun k => ?_) (Ev.now _)
    rw [if_pos rfl]
    have : ((lineF ⟨#[]⟩).2 == 120) = true := beq_iff_eq.2 line_empty
    exact congrArg some this
end Go.Proofs.YtjndccjpjknbkaaDoor.Pure

