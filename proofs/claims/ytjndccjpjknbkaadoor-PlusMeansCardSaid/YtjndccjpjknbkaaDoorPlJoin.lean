/- plus.join, term, option, checked, Line, Lines: the walk. The conditions: the machine's sizes. -/
import Derived.Test.YtjndccjpjknbkaaDoorExBoth
import Derived.Test.YtjndccjpjknbkaaDoorExPar
namespace Go.Proofs.YtjndccjpjknbkaaDoor.PlJoin
open Go Go.Proofs Go.RowKit Go.Proofs.YtjndccjpjknbkaaDoorW.PrintWords Go.Proofs.YtjndccjpjknbkaaDoor.BytesLib Go.Proofs.YtjndccjpjknbkaaDoor.ExLib Go.Proofs.YtjndccjpjknbkaaDoor.RowsLib Go.Proofs.YtjndccjpjknbkaaDoor.ExNode Go.Proofs.YtjndccjpjknbkaaDoor.ExTag Go.Proofs.YtjndccjpjknbkaaDoor.ExRun Go.Proofs.YtjndccjpjknbkaaDoor.ExBoth Go.Proofs.YtjndccjpjknbkaaDoor.ExPar
open Go.Proofs.YtjndccjpjknbkaaDoor.ExCheck (checkF Check_calls)
set_option linter.unusedVariables false
set_option linter.unusedSimpArgs false

/-- A row of nodes of the call's own; the empty one is nil. -/
def Ow (w : World) (base : Nat) (v : Value) (l : List Nd) : Prop := w.ownsRow base 52 4 v l.length (cellsN l) ∧ (l = [] → v = .slice none 0 0)
theorem Ow.later {w w1 : World} {base : Nat} {v : Value} {l : List Nd} (h : Ow w base v l) (hb : Below w.heap.size w w1) : Ow w1 base v l := ⟨own_later h.1 hb, h.2⟩
theorem Ow.lower {w : World} {b b' : Nat} {v : Value} {l : List Nd} (h : Ow w b v l) (hb : b' ≤ b) : Ow w b' v l := by
  obtain ⟨⟨h1, h2⟩, h3⟩ := h
  refine ⟨⟨h1, ?_⟩, h3⟩
  rcases h2 with h0 | ⟨g, cap, cur, e, hg, r⟩
  · exact .inl h0
  · exact .inr ⟨g, cap, cur, e, by omega, r⟩
theorem Ow.nil (w : World) (base : Nat) : Ow w base (.slice none 0 0) [] := ⟨⟨rfl, .inl ⟨rfl, rfl⟩⟩, fun _ => rfl⟩
theorem Ow.some {w : World} {base : Nat} {v : Value} {l : List Nd} (h : Ow w base v l) (hn : l ≠ []) : ∃ g cap, v = .slice (some ⟨g, 0, none⟩) l.length cap ∧ Kd.C kN w (some ⟨g, 0, none⟩) l.length l := by
  obtain ⟨A, c, hv, hc, hC⟩ := own_C h.1
  have hpos : 0 < l.length := List.length_pos_iff.2 hn
  obtain ⟨g, cap, hg, _⟩ := h.1.form hpos
  rw [hg] at hv
  injection hv with e1 e2 e3
  subst e1
  exact ⟨g, cap, hg, hC⟩

def joinL (one : ByteArray → List Nd) (k : Int) : List ByteArray → List Nd → List Nd
  | [], acc => acc
  | s :: r, acc => if one s = [] then [] else joinL one k r (bothN k acc (one s))
def joinF (one : ByteArray → List Nd) (k : Int) : List ByteArray → List Nd
  | [] => []
  | s :: r => if one s = [] then [] else joinL one k r (one s)

/-- A function of one text does this. -/
def One (g : FuncId) (one : ByteArray → List Nd) (w0 : World) (s : ByteArray) : Prop := ∀ W, Below w0.heap.size w0 W → Calls Tryd.prog g #[.string s] W fun e w' => ∃ v, e = .returned v ∧ Ow w' W.heap.size v (one s) ∧ Below W.heap.size W w'
/-- A function of two expressions does this. -/
def Two (g : FuncId) (k : Int) : Prop := ∀ (W : World) (A B : Option Addr) (c1 c2 : Nat) (a b : List Nd), Kd.C kN W A a.length a → Kd.C kN W B b.length b → a.length ≤ 1000000 → b.length ≤ 1000000 →
  Calls Tryd.prog g #[.slice A a.length c1, .slice B b.length c2] W fun e w' => ∃ v, e = .returned v ∧ W.heap.size ≤ w'.heap.size ∧ w'.ownsRow W.heap.size 52 4 v (bothN k a b).length (cellsN (bothN k a b)) ∧ Below W.heap.size W w'
theorem bothN_ne (k : Int) (a b : List Nd) : bothN k a b ≠ [] := by unfold bothN; simp
theorem bothN_len (k : Int) (a b : List Nd) : (bothN k a b).length = a.length + b.length + 1 := by unfold bothN; simp; omega

set_option maxRecDepth 100000 in
set_option maxHeartbeats 4000000 in
theorem And_two : Two 20 2 := by
  intro W A B c1 c2 a b ha hb la lb
  have H := Aside0.mk (both_calls kN rfl id (fun h => kN_open h) kN rfl id (fun h => kN_open h) 2 A B c1 c2 a b W ha hb la lb)
  rw [List.map_id, List.map_id] at H
  clear ha hb
  generalize bothN 2 a b = R at H ⊢
  go_enter Tryd.func20, Tryd.ntmps20
  go_wp2_with fail
  refine H.out.mono ?_
  rintro e w1 ⟨v, rfl, ho, hb⟩
  have HO := Aside0.mk ho
  have HB := Aside0.mk hb
  clear ho hb H
  go_wp2_with fail
  go_ret
  exact ⟨v, rfl, HB.out.size, HO.out, HB.out⟩
set_option maxRecDepth 100000 in
set_option maxHeartbeats 4000000 in
theorem Or_two : Two 21 3 := by
  intro W A B c1 c2 a b ha hb la lb
  have H := Aside0.mk (both_calls kN rfl id (fun h => kN_open h) kN rfl id (fun h => kN_open h) 3 A B c1 c2 a b W ha hb la lb)
  rw [List.map_id, List.map_id] at H
  clear ha hb
  generalize bothN 3 a b = R at H ⊢
  go_enter Tryd.func21, Tryd.ntmps21
  go_wp2_with fail
  refine H.out.mono ?_
  rintro e w1 ⟨v, rfl, ho, hb⟩
  have HO := Aside0.mk ho
  have HB := Aside0.mk hb
  clear ho hb H
  go_wp2_with fail
  go_ret
  exact ⟨v, rfl, HB.out.size, HO.out, HB.out⟩

set_option maxRecDepth 100000 in
set_option maxHeartbeats 8000000 in
/-- join expressions of texts. -/
theorem join_calls {g h : FuncId} (heg : ∀ args w, (callFunc g args).run Tryd.prog w = .ok (.enter g args) w) (heh : ∀ args w, (callFunc h args).run Tryd.prog w = .ok (.enter h args) w) {one : ByteArray → List Nd} {kd : Int} (A : Option Addr) (c : Nat) (ls : List ByteArray) (w : World)
    (hr : Kd.C Kd.string w A ls.length ls) (hone : ∀ s ∈ ls, One g one w s) (htwo : Two h kd) (M1 : Nat) (hM : ∀ s ∈ ls, (one s).length ≤ M1) (hbig : ls.length * (M1 + 1) ≤ 1000000) :
    Calls Tryd.prog 47 #[.slice A ls.length c, .func (.func g) #[] #[], .func (.func h) #[] #[]] w fun e w' => ∃ v, e = .returned v ∧ Ow w' w.heap.size v (joinF one kd ls) ∧ Below w.heap.size w w' := by
  have HR := Aside0.mk hr
  have HONE := Aside0.mk hone
  have HTWO := Aside0.mk htwo
  have HMM := Aside0.mk hM
  have hmax := Kd.C_max hr
  obtain ⟨F, hF⟩ : ∃ F, joinF one kd ls = F := ⟨_, rfl⟩
  rw [hF]
  have HF := Aside0.mk hF
  have HBIG := Aside0.mk hbig
  clear hr hone htwo hF hM hbig
  go_enter Tryd.func47, Tryd.ntmps47
  go_wp2_with fail
  go_loopg [7, 13] ls.length (fun gg s7 s13 wr => ∃ (k : Nat) (acc : List Nd), k ≤ ls.length ∧ ls.length - k ≤ gg ∧ s13 = .int .i64 k ∧ Aside0 (if k = 0 then acc = [] else acc ≠ [] ∧ joinL one kd (ls.drop k) acc = F) ∧ Aside0 (acc.length ≤ k * (M1 + 1)) ∧
    Aside0 (Ow wr w.heap.size s7 acc) ∧ Aside0 (Below w.heap.size w wr))
  case atStart => exact ⟨0, [], Nat.zero_le _, by omega, rfl, ⟨by rw [if_pos rfl]⟩, ⟨by simp⟩, ⟨Ow.nil _ _⟩, ⟨Below.refl _ w⟩⟩
  case round =>
    obtain ⟨k, acc, hk, hg, rfl, HJ, HL, HO, BW⟩ := hrel
    by_cases hlt : k < ls.length
    · have hlt' : (k : Int) < (ls.length : Int) := by omega
      obtain ⟨ad, hA, hc⟩ := Kd.at_string (Kd.C_below HR.out BW.out) (k : Int) (by omega) (by omega)
      obtain rfl := hA
      have hrd : rdOf ByteArray.empty ls (k : Int) = ls[k] := by
        unfold rdOf
        simp [List.getD, hlt]
      rw [hrd, Int.toNat_natCast] at hc
      obtain ⟨s, hs⟩ : ∃ s, ls[k] = s := ⟨_, rfl⟩
      have HC1 := Aside0.mk (HONE.out s (by rw [← hs]; exact List.getElem_mem hlt) wr BW.out)
      have hM1 := HMM.out s (by rw [← hs]; exact List.getElem_mem hlt)
      have HD := Aside0.mk (show ls.drop k = s :: ls.drop (k + 1) from by rw [List.drop_eq_getElem_cons hlt, hs])
      rw [hs] at hc
      clear hs hrd
      go_wp2_with fail
      refine HC1.out.mono ?_
      rintro e w1 ⟨v1, rfl, hO1, hb1⟩
      have HO1 := Aside0.mk hO1
      have HB1 := Aside0.mk (BW.out.trans (hb1.mono BW.out.size))
      have HOA := Aside0.mk (HO.out.later hb1)
      clear hb1 HC1 hc
      by_cases hn : one s = []
      · have hv1 := hO1.2 hn
        subst hv1
        have hF0 : F = [] := by
          by_cases h0 : k = 0
          · subst h0
            rw [← HF.out]
            have hd := HD.out
            rw [List.drop_zero] at hd
            rw [hd, joinF, if_pos hn]
          · have hj := HJ.out
            rw [if_neg h0] at hj
            rw [← hj.2, HD.out, joinL, if_pos hn]
        have HF0 := Aside0.mk hF0
        have hnil0 : ∀ W, (binOp .eql 22 (.slice none 0 0) (.slice none 0 0)).run Tryd.prog W = .ok (.bool true) W := fun _ => rfl
        clear hF0 hO1 HO1 hn HJ
        go_wp2_with fail
        go_ret
        rw [HF0.out]
        exact ⟨_, rfl, Ow.nil _ _, HB1.out⟩
      · obtain ⟨g1, cap1, rfl, hC1⟩ := hO1.some hn
        have HCC := Aside0.mk hC1
        have hnil : ∀ W, (binOp .eql 22 (.slice (some ⟨g1, 0, none⟩) (one s).length cap1) (.slice none 0 0)).run Tryd.prog W = .ok (.bool false) W := fun _ => rfl
        have HN := Aside0.mk hn
        obtain ⟨n1, hn1⟩ : ∃ n1, one s = n1 := ⟨_, rfl⟩
        rw [hn1] at HO1 HCC hnil hM1 HN ⊢
        have HN1 := Aside0.mk hn1
        clear hO1 hn hC1 hn1
        by_cases h0 : k = 0
        · subst h0
          have HJ2 : Aside0 (n1 ≠ [] ∧ joinL one kd (ls.drop 1) n1 = F) := by
            refine ⟨HN.out, ?_⟩
            have hd := HD.out
            rw [List.drop_zero] at hd
            rw [← HF.out]
            conv => rhs; rw [hd]
            rw [joinF, if_neg (by rw [HN1.out]; exact HN.out), HN1.out]
          clear HJ HO HOA
          go_wp2_with fail
          go_roundg (ls.length - 1)
          case measure => omega
          case rel => exact ⟨1, n1, by omega, Nat.le_refl _, rfl, ⟨by rw [if_neg (by decide)]; exact HJ2.out⟩, ⟨by omega⟩, ⟨HO1.out.lower BW.out.size⟩, HB1⟩
        · have hk0 : ((k : Int) == 0) = false := by rw [beq_eq_false_iff_ne]; omega
          have hj := HJ.out
          rw [if_neg h0] at hj
          obtain ⟨ga, capa, rfl, hCA⟩ := HOA.out.some hj.1
          have hacc : acc.length ≤ 1000000 ∧ n1.length ≤ 1000000 ∧ (bothN kd acc n1).length ≤ (k + 1) * (M1 + 1) := by
            have h1 := HL.out
            have h2 := HBIG.out
            have h3 : (k + 1) * (M1 + 1) ≤ ls.length * (M1 + 1) := Nat.mul_le_mul_right _ (by omega)
            rw [Nat.add_mul, Nat.one_mul] at h3 ⊢
            rw [bothN_len]
            omega
          have HT := Aside0.mk (HTWO.out w1 (some ⟨ga, 0, none⟩) (some ⟨g1, 0, none⟩) capa cap1 acc n1 hCA HCC.out hacc.1 hacc.2.1)
          have HL2 := Aside0.mk hacc.2.2
          have HJ2 : Aside0 (bothN kd acc n1 ≠ [] ∧ joinL one kd (ls.drop (k + 1)) (bothN kd acc n1) = F) := by
            refine ⟨bothN_ne _ _ _, ?_⟩
            rw [← hj.2, HD.out, joinL, if_neg (by rw [HN1.out]; exact HN.out), HN1.out]
          obtain ⟨R, hR⟩ : ∃ R, bothN kd acc n1 = R := ⟨_, rfl⟩
          rw [hR] at HT HL2 HJ2
          clear hj hCA hacc HJ hR h0
          go_wp2_with fail
          refine HT.out.mono ?_
          rintro e w2 ⟨v2, rfl, hsz2, ho2, hb2⟩
          have HO2 : Aside0 (Ow w2 w.heap.size v2 R) := ⟨Ow.lower (show Ow w2 w1.heap.size v2 R from ⟨ho2, fun h => absurd h HJ2.out.1⟩) HB1.out.size⟩
          have HB2 := Aside0.mk (HB1.out.trans (hb2.mono HB1.out.size))
          clear ho2 hb2 hsz2 HT
          go_wp2_with fail
          go_roundg (ls.length - (k + 1))
          case measure => omega
          case rel => exact ⟨k + 1, R, by omega, Nat.le_refl _, by go_num, ⟨by rw [if_neg (by omega)]; exact HJ2.out⟩, HL2, HO2, HB2⟩
    · have ek : k = ls.length := by omega
      have hlt' : ¬ ((k : Int) < (ls.length : Int)) := by omega
      subst ek
      have hFa : acc = F := by
        have hj := HJ.out
        by_cases h0 : ls.length = 0
        · rw [if_pos h0] at hj
          have : ls = [] := List.length_eq_zero_iff.1 h0
          rw [hj, ← HF.out, this]; rfl
        · rw [if_neg h0, List.drop_length] at hj
          exact hj.2
      have HFA := Aside0.mk hFa
      clear hFa HJ HL
      go_wp2_with fail
      go_ret
      rw [← HFA.out]
      exact ⟨_, rfl, HO.out, BW.out⟩

/-! ### Not, term -/
def notN' (l : List Nd) : List Nd := l ++ [⟨1, ⟨#[]⟩, wrap64 ((l.length : Int) - 1), 0⟩]
set_option maxRecDepth 100000 in
set_option maxHeartbeats 4000000 in
theorem Not_calls (A : Option Addr) (c : Nat) (l : List Nd) (w : World) (hr : Kd.C kN w A l.length l) (hl : l.length ≤ 1000000) :
    Calls Tryd.prog 13 #[.slice A l.length c] w fun e w' => ∃ v, e = .returned v ∧ w'.ownsRow w.heap.size 52 4 v (notN' l).length (cellsN (notN' l)) ∧ Below w.heap.size w w' := by
  obtain ⟨i0, hi, hz0, hz1, hz2⟩ := info_parts infoN
  have HCL := Aside0.mk (Clone_calls kN rfl id (fun h => kN_open h) A c l w hr (by omega))
  rw [List.map_id] at HCL
  clear hr
  go_enter Tryd.func13, Tryd.ntmps13
  go_wp2_with fail
  refine HCL.out.mono ?_
  rintro ee w1 ⟨v1, rfl, ho1, hb1⟩
  have HO1 := Aside0.mk ho1
  have HB1 := Aside0.mk hb1
  clear ho1 hb1 HCL
  have hw1 : (l.length : Int) - 1 ≤ 1000000 := by omega
  go_wp2_with (at_builtin; refine wpList_append_own _ rfl _ _ 22 rfl w.heap.size 52 i0 (.agg #[.int .i64 0, .string ⟨#[]⟩, .int .i64 0, .int .i64 0]) 4 40 Tryd.underlying22 hi hz0 hz1 hz2 rfl (by decide) _ l.length (cellsN l) rfl (HO1.out.alloc _) ⟨w1.heap.size, 0, none⟩ 1 1 [.int .i64 1, .string ⟨#[]⟩, .int .i64 ((l.length : Int) - 1), .int .i64 0] rfl rfl (World.news_of_block (cs := #[.int .i64 1, .string ⟨#[]⟩, .int .i64 ((l.length : Int) - 1), .int .i64 0]) (heap_alloc_new w1 _)) (by simp [Value.oneCell']) (by unfold maxLen; omega) (by omega) (by have := HB1.out.size; simp; omega) ?_; intro v2 w2 hown2 hgrow2 _)
  have BW2 := Aside0.mk ((HB1.out.alloc HB1.out.size _).grown hgrow2 (by have := HB1.out.size; simp; omega) (fun k hk => own_ge HO1.out k hk))
  have hN : notN' l = l ++ [⟨1, ⟨#[]⟩, (l.length : Int) - 1, 0⟩] := by
    unfold notN'
    rw [show wrap64 ((l.length : Int) - 1) = (l.length : Int) - 1 from by unfold wrap64; omega]
  have HO2 : Aside0 (w2.ownsRow w.heap.size 52 4 v2 (notN' l).length (cellsN (notN' l))) := by
    rw [hN, List.length_append, cellsN_snoc]
    exact ⟨hown2⟩
  clear hown2 hgrow2 HO1 hN
  go_wp2_with fail
  go_ret
  exact ⟨v2, rfl, HO2.out, BW2.out⟩

/-- A term. -/
def bangB : ByteArray := ⟨#[33]⟩
def termF (s : ByteArray) : List Nd := if tagOk (cutP s bangB) = true then (if hasP s bangB = true then notN' [⟨0, cutP s bangB, 0, 0⟩] else [⟨0, cutP s bangB, 0, 0⟩]) else []
set_option maxRecDepth 100000 in
set_option maxHeartbeats 4000000 in
theorem term_calls (s : ByteArray) (hs : s.size ≤ 1099511627776) (w0 : World) : One 70 termF w0 s := by
  intro w _
  have hcs : (cutP s bangB).size ≤ 1099511627776 := by
    have := ExParse.cutP_size s bangB
    split at this <;> omega
  have HT := Aside0.mk (show ∀ W, Calls Tryd.prog 35 #[.string (cutP s bangB)] W fun e w' => e = .returned (.bool (tagOk (cutP s bangB))) ∧ ∃ m, w' = W.drewN m from fun W => (Tag_calls _ (by omega) W).mono fun e w' h => ⟨h.1, h.2.1⟩)
  have HC := Aside0.mk (cutP_calls s bangB w)
  have HF := Aside0.mk (show termF s = if tagOk (cutP s bangB) = true then (if hasP s bangB = true then notN' [⟨0, cutP s bangB, 0, 0⟩] else [⟨0, cutP s bangB, 0, 0⟩]) else [] from rfl)
  obtain ⟨F, hF⟩ : ∃ F, termF s = F := ⟨_, rfl⟩
  rw [hF] at HF ⊢
  obtain ⟨t, ht⟩ : ∃ t, cutP s bangB = t := ⟨_, rfl⟩
  rw [ht] at HT HC HF
  obtain ⟨no, hno⟩ : ∃ no, hasP s bangB = no := ⟨_, rfl⟩
  rw [hno] at HC HF
  clear hF ht hno hcs
  go_enter Tryd.func70, Tryd.ntmps70
  go_wp2_with fail
  refine HC.out.mono ?_
  rintro e w1 ⟨rfl, rfl⟩
  clear HC
  go_upto_region 3 with fail
  obtain ⟨W, hW⟩ : ∃ W, w1.alloc (.cells #[.int .i64 0, .string t, .int .i64 0, .int .i64 0] 52) = W := ⟨_, rfl⟩
  have hown : W.ownsRow w1.heap.size 52 4 (.slice (some ⟨w1.heap.size, 0, none⟩) 1 1) ([⟨0, t, 0, 0⟩] : List Nd).length (cellsN [⟨0, t, 0, 0⟩]) := by
    rw [← hW]
    exact ⟨rfl, .inr ⟨w1.heap.size, 1, _, rfl, Nat.le_refl _, heap_alloc_new w1 _, Nat.le_refl _, by unfold maxLen; omega, rfl, rfl⟩⟩
  have HO := Aside0.mk hown
  have HB : Aside0 (Below w1.heap.size w1 W) := by rw [← hW]; exact ⟨(Below.refl _ w1).alloc (Nat.le_refl _) _⟩
  rw [hW]
  clear hW hown
  cases htg : tagOk t with
  | false =>
    rw [htg] at HT
    have HF2 := Aside0.mk (HF.out.trans (if_neg (by rw [htg]; decide)))
    clear htg HF
    go_wp2_with fail
    refine (HT.out _).mono ?_
    rintro e w2 ⟨rfl, m, rfl⟩
    go_wp2_with fail
    go_ret
    rw [HF2.out]
    exact ⟨_, rfl, Ow.nil _ _, pw_below_drewN HB.out m⟩
  | true =>
    rw [htg] at HT
    have HF2 := Aside0.mk (HF.out.trans (if_pos htg))
    clear htg HF
    go_wp2_with fail
    refine (HT.out _).mono ?_
    rintro e w2 ⟨rfl, m, hw2⟩
    have HO2 : Aside0 (w2.ownsRow w1.heap.size 52 4 (.slice (some ⟨w1.heap.size, 0, none⟩) 1 1) ([⟨0, t, 0, 0⟩] : List Nd).length (cellsN [⟨0, t, 0, 0⟩])) := by rw [hw2]; exact ⟨own_later HO.out (pw_below_drewN (Below.refl _ _) m)⟩
    have HB2 : Aside0 (Below w1.heap.size w1 w2) := by rw [hw2]; exact ⟨pw_below_drewN HB.out m⟩
    clear hw2 HT HO HB
    cases no with
    | false =>
      have HF3 := Aside0.mk (HF2.out.trans (if_neg (by decide)))
      clear HF2
      go_wp2_with fail
      go_ret
      rw [HF3.out]
      exact ⟨_, rfl, ⟨HO2.out, fun h => by cases h⟩, HB2.out⟩
    | true =>
      have HF3 := Aside0.mk (HF2.out.trans (if_pos rfl))
      obtain ⟨A, c, hv, hc, hC⟩ := own_C HO2.out
      injection hv with e1 e2 e3
      subst e1 e3
      have HN := Aside0.mk (Not_calls _ 1 [⟨0, t, 0, 0⟩] w2 hC (by show 1 ≤ 1000000; omega))
      clear HF2 hC e2
      go_wp2_with fail
      refine HN.out.mono ?_
      rintro e w3 ⟨v3, rfl, ho3, hb3⟩
      have HO3 := Aside0.mk ho3
      have HB3 := Aside0.mk (HB2.out.trans (hb3.mono HB2.out.size))
      have hsz3 := HB2.out.size
      clear ho3 hb3 HN
      go_wp2_with fail
      go_ret
      rw [HF3.out]
      exact ⟨v3, rfl, Ow.lower (show Ow w3 w2.heap.size v3 _ from ⟨HO3.out, fun h => by cases h⟩) hsz3, HB3.out⟩

/-! ### checked -/
def smallT (l : List Nd) : Prop := ∀ n ∈ l, n.tag.size ≤ 4611686018427387904
def checkedF (l : List Nd) : List Nd × Int := if l ≠ [] ∧ checkF l = 0 then (l, 0) else ([], 120)
set_option maxRecDepth 100000 in
set_option maxHeartbeats 4000000 in
theorem checked_calls (base : Nat) (v : Value) (l : List Nd) (w : World) (h : Ow w base v l) (ht : smallT l) :
    Calls Tryd.prog 46 #[v] w fun e w' => ∃ v', e = .returned (.tuple #[v', .int .i64 (checkedF l).2]) ∧ Ow w' base v' (checkedF l).1 ∧ Below w.heap.size w w' := by
  by_cases hn : l = []
  · have hv := h.2 hn
    subst hv hn
    have hnil0 : ∀ W, (binOp .eql 22 (.slice none 0 0) (.slice none 0 0)).run Tryd.prog W = .ok (.bool true) W := fun _ => rfl
    clear h ht
    go_enter Tryd.func46, Tryd.ntmps46
    go_wp2_with fail
    go_ret2
    exact ⟨_, rfl, Ow.nil _ _, Below.refl _ _⟩
  · obtain ⟨g, cap, rfl, hC⟩ := h.some hn
    have HCK := Aside0.mk (Check_calls kN rfl id (fun h => kN_open h) _ cap l w hC (fun n hm => ht n hm))
    rw [List.map_id] at HCK
    have hnil : ∀ W, (binOp .eql 22 (.slice (some ⟨g, 0, none⟩) l.length cap) (.slice none 0 0)).run Tryd.prog W = .ok (.bool false) W := fun _ => rfl
    have H := Aside0.mk h
    have HN := Aside0.mk hn
    have HF := Aside0.mk (show checkedF l = if l ≠ [] ∧ checkF l = 0 then (l, 0) else ([], 120) from rfl)
    obtain ⟨F, hF⟩ : ∃ F, checkedF l = F := ⟨_, rfl⟩
    rw [hF] at HF ⊢
    clear h hC ht hn hF
    go_enter Tryd.func46, Tryd.ntmps46
    go_wp2_with fail
    refine HCK.out.mono ?_
    rintro e w1 ⟨rfl, hb1⟩
    have HB1 := Aside0.mk hb1
    have HO1 := Aside0.mk (H.out.later hb1)
    clear hb1 HCK
    by_cases hc : checkF l = 0
    · have hce : (checkF l != 0) = false := by rw [hc]; rfl
      have HF2 := Aside0.mk (HF.out.trans (if_pos ⟨HN.out, hc⟩))
      clear hc HF
      go_wp2_with fail
      go_ret2
      rw [HF2.out]
      exact ⟨_, rfl, HO1.out, HB1.out⟩
    · have hce : (checkF l != 0) = true := by rw [bne_iff_ne]; exact hc
      have HF2 := Aside0.mk (HF.out.trans (if_neg (fun h => hc h.2)))
      clear hc HF
      go_wp2_with fail
      go_ret2
      rw [HF2.out]
      exact ⟨_, rfl, Ow.nil _ _, HB1.out⟩

/-! ### blank -/
def blankR (r : Nat) : Bool := r == 32 || r == 9
set_option maxRecDepth 100000 in
theorem blank_calls (r : Int) (w : World) : Calls Tryd.prog 49 #[.int .i32 r] w fun e w' => e = .returned (.bool (r == 32 || r == 9)) ∧ w = w' := by
  go_enter Tryd.func49, Tryd.ntmps49
  by_cases h : r = 32
  · have hb : (r == 32) = true := by rw [h]; rfl
    clear h
    go_wp2_with fail
    go_ret
    exact ⟨by rw [hb]; rfl, rfl⟩
  · have hb : (r == 32) = false := by rw [beq_eq_false_iff_ne]; exact h
    clear h
    go_wp2_with fail
    go_ret
    exact ⟨by rw [hb]; rfl, rfl⟩
end Go.Proofs.YtjndccjpjknbkaaDoor.PlJoin
