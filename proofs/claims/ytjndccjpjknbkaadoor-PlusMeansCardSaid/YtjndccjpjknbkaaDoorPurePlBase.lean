/- Elder lines: what the printed functions of the reference answer, in plain words. -/
import Derived.Test.YtjndccjpjknbkaaDoorMpa
import Derived.Test.YtjndccjpjknbkaaDoorMpb
import Derived.Test.YtjndccjpjknbkaaDoorExLaw3
import Derived.Test.YtjndccjpjknbkaaDoorPlSplit
import Derived.Test.YtjndccjpjknbkaaDoorBytesLib
namespace Go.Proofs.YtjndccjpjknbkaaDoor.PurePl
open Go.RowKit Go.Proofs.YtjndccjpjknbkaaDoor.PPl Go.Proofs.YtjndccjpjknbkaaDoorW.PrintWords Go.Proofs.YtjndccjpjknbkaaDoorW.PrintLast Go.Proofs.YtjndccjpjknbkaaDoorW.PrintMore Go.Proofs.YtjndccjpjknbkaaDoor.BytesLib Go.Proofs.YtjndccjpjknbkaaDoor.ExNode Go.Proofs.YtjndccjpjknbkaaDoor.ExTag Go.Proofs.YtjndccjpjknbkaaDoor.ExSem Go.Proofs.YtjndccjpjknbkaaDoor.ExLaw Go.Proofs.YtjndccjpjknbkaaDoor.ExLaw2 Go.Proofs.YtjndccjpjknbkaaDoor.ExLaw3 Go.Proofs.YtjndccjpjknbkaaDoor.ExBoth Go.Proofs.YtjndccjpjknbkaaDoor.PlJoin Go.Proofs.YtjndccjpjknbkaaDoor.PlLine Go.Proofs.YtjndccjpjknbkaaDoor.PlSplit
open Go.Proofs.YtjndccjpjknbkaaDoor.ExCheck (checkF)
set_option linter.unusedVariables false

def nd (x : S52) : Nd := ⟨x.f0, x.f1, x.f2, x.f3⟩
def rn (x : S61) : Nd := ⟨x.f0, x.f1, x.f2, x.f3⟩
def rns (l : List S61) : List Nd := l.map rn
/-- A node as the reference has it. -/
def ru (x : Nd) : S61 := ⟨x.kind, x.tag, x.a, x.b⟩
def rus (l : List Nd) : List S61 := l.map ru
theorem rns_rus (l : List Nd) : rns (rus l) = l := by
  unfold rns rus
  rw [List.map_map]
  exact List.map_id l
theorem rus_len (l : List Nd) : (rus l).length = l.length := by unfold rus; simp
theorem w64u {x : Int} (h1 : -9223372036854775808 ≤ x) (h2 : x ≤ 9223372036854775807) : wrap64 x = x := by unfold wrap64; omega

/-! ### theirs -/
def their (x : S52) : S61 := ⟨x.f0, x.f1, x.f2, x.f3⟩
theorem theirs_loop (l : List S52) (hl : l.length ≤ 1000000) : ∀ (d i : Nat), l.length - i = d → i ≤ l.length → Ev (fun k => graftbedlaw13_theirs.l0 k l ((l.take i).map their) (i : Int)) (l.map their)
  | 0, i, hd, hi => Ev.step (f := fun _ => some (l.map their)) (fun k => by rw [graftbedlaw13_theirs.l0, if_neg (by omega), List.take_of_length_le (by omega)]) (Ev.now _)
  | d + 1, i, hd, hi => by
    have hlt : i < l.length := by omega
    have hrd : rd_T52 l (i : Int) = l[i] := by
      unfold rd_T52
      simp [List.getD, hlt]
    refine Ev.step (fun k => ?_) (theirs_loop l hl d (i + 1) (by omega) (by omega))
    rw [graftbedlaw13_theirs.l0, if_pos (by omega), if_pos (by omega), if_pos (by rw [List.length_map, List.length_take]; omega), hrd, w64u (by omega) (by omega), List.take_succ_eq_append_getElem hlt, List.map_append]
    rfl
theorem theirs_eq {l : List S52} (hl : l.length ≤ 1000000) : Ev (fun k => graftbedlaw13_theirs.f k l) (l.map their) := theirs_loop l hl _ 0 rfl (Nat.zero_le _)
/-! ### The reference's Check -/
theorem rletter_all : ∀ n : Fin 256, graftbedref12_letter.f (n.val : Int) = some (letB (UInt8.ofNat n.val)) := by decide +kernel
theorem rletter_eq (c : UInt8) : graftbedref12_letter.f (c.toNat : Int) = some (letB c) := by
  have h := rletter_all ⟨c.toNat, c.toNat_lt⟩
  simpa using h
theorem rtag_loop (s : ByteArray) (hs : s.size ≤ 4611686018427387904) : ∀ (d i : Nat), s.size - i = d → i ≤ s.size → ((L s).take i).all letB = true → Ev (fun k => graftbedref12_Tag.l0 k s (i : Int)) (tagOk s)
  | 0, i, hd, hi, ha => by
    obtain rfl : i = s.size := by omega
    rw [← L_length, List.take_length] at ha
    refine Ev.step (f := fun _ => some (tagOk s)) (fun k => ?_) (Ev.now _)
    rw [graftbedref12_Tag.l0, if_neg (by omega)]
    unfold tagOk tagL
    rw [ha, toList_L, L_length]
    by_cases h : L s = []
    · rw [if_pos h, h]; rfl
    · rw [if_neg h]
      have : (L s).isEmpty = false := by simpa using h
      rw [this]
      simp
      omega
  | d + 1, i, hd, hi, ha => by
    have hlt : i < (L s).length := by rw [L_length]; omega
    have hb : bt s (i : Int) = (((L s)[i]).toNat : Int) := bt_nat hlt
    by_cases hl : letB (L s)[i] = true
    · refine Ev.step (fun k => ?_) (rtag_loop s hs d (i + 1) (by omega) (by omega) (by rw [List.take_succ_eq_append_getElem hlt, List.all_append, ha]; simp [hl]))
      rw [graftbedref12_Tag.l0, if_pos (by omega), if_pos (by omega), hb, rletter_eq, w64u (by omega) (by omega)]
      simp only [Option.bind_some]
      rw [if_pos hl]; rfl
    · refine Ev.step (f := fun _ => some false) (fun k => ?_) ?_
      · rw [graftbedref12_Tag.l0, if_pos (by omega), if_pos (by omega), hb, rletter_eq]
        simp only [Option.bind_some]
        rw [if_neg hl]
      · have : tagOk s = false := by
          unfold tagOk tagL
          have : (L s).all letB = false := by
            rw [Bool.eq_false_iff]
            intro h
            exact hl (List.all_eq_true.1 h _ (List.getElem_mem hlt))
          rw [this]; rfl
        rw [this]; exact Ev.now _
theorem rtag_eq (s : ByteArray) (hs : s.size ≤ 4611686018427387904) : Ev (fun k => graftbedref12_Tag.f k s) (tagOk s) := rtag_loop s hs _ 0 rfl (Nat.zero_le _) (by simp)

theorem mx_max (a b : Int) : mx a b = max a b := by unfold mx; rw [Int.max_def]; split <;> split <;> omega
theorem whole_bd (l : List Nd) : ∀ (n a : Nat), -1 ≤ (wholeF l n a).1 ∧ (wholeF l n a).1 ≤ (a : Int) ∧ 0 ≤ (wholeF l n a).2 ∧ (wholeF l n a).2 ≤ (n : Int)
  | 0, a => by unfold wholeF; exact ⟨by decide, by show (-1 : Int) ≤ a; omega, by decide, by decide⟩
  | n + 1, a => by
    have h1 := whole_bd l n (a - 1)
    have h2 := whole_bd l n ((wholeF l n (a - 1)).1 - 1).toNat
    unfold wholeF
    split
    · exact ⟨by decide, by show (-1 : Int) ≤ a; omega, by decide, by show (0 : Int) ≤ _; omega⟩
    · split
      · split
        · exact ⟨by show (-1 : Int) ≤ a; omega, Int.le_refl _, by show (0 : Int) ≤ 1; omega, by show (1 : Int) ≤ ((n + 1 : Nat) : Int); omega⟩
        · exact ⟨by decide, by show (-1 : Int) ≤ a; omega, by decide, by show (0 : Int) ≤ _; omega⟩
      · split
        · split
          · exact ⟨h1.1, by show (wholeF l n (a - 1)).1 ≤ _; omega, by show 0 ≤ (wholeF l n (a - 1)).2 + 1; omega, by show (wholeF l n (a - 1)).2 + 1 ≤ ((n + 1 : Nat) : Int); omega⟩
          · exact ⟨by decide, by show (-1 : Int) ≤ a; omega, by decide, by show (0 : Int) ≤ _; omega⟩
        · split
          · split
            · refine ⟨h2.1, by show (wholeF l n _).1 ≤ _; omega, by show 0 ≤ max _ _ + 1; omega, by show max _ _ + 1 ≤ ((n + 1 : Nat) : Int); omega⟩
            · exact ⟨by decide, by show (-1 : Int) ≤ a; omega, by decide, by show (0 : Int) ≤ _; omega⟩
          · exact ⟨by decide, by show (-1 : Int) ≤ a; omega, by decide, by show (0 : Int) ≤ _; omega⟩

theorem whole_ev (l : List S61) (hl : l.length ≤ 1000) (ht : ∀ x ∈ l, x.f1.size ≤ 4611686018427387904) : ∀ (n a : Nat), a < n → a < l.length → n ≤ 1000 → Ev (fun k => graftbedref12_whole.f k l (a : Int)) (wholeF (rns l) n a)
  | 0, a, h, _, _ => absurd h (Nat.not_lt_zero _)
  | n + 1, a, h, ha, hn => by
    have hrd : rd_T61 l (a : Int) = l[a] := by
      unfold rd_T61
      simp [List.getD, ha]
    have htx := ht l[a] (List.getElem_mem ha)
    have hx : (rns l)[a]? = some (rn l[a]) := by unfold rns; rw [List.getElem?_map, List.getElem?_eq_getElem ha]; rfl
    have hbd := whole_bd (rns l) n (a - 1)
    obtain ⟨x, hxe⟩ : ∃ x, l[a] = x := ⟨_, rfl⟩
    rw [hxe] at hrd hx htx
    obtain ⟨kd, tg, xa, xb⟩ := x
    have hW : wholeF (rns l) (n + 1) a = if kd = 0 then (if tagOk tg = true ∧ xa = 0 ∧ xb = 0 then ((a : Int), 1) else (-1, 0))
      else if kd = 1 then (if tg.toList = [] ∧ xb = 0 ∧ xa = (a : Int) - 1 ∧ 0 < a then ((wholeF (rns l) n (a - 1)).1, (wholeF (rns l) n (a - 1)).2 + 1) else (-1, 0))
      else if (kd = 2 ∨ kd = 3) ∧ tg.toList = [] ∧ xb = (a : Int) - 1 ∧ 1 < a then
        (if 0 < (wholeF (rns l) n (a - 1)).1 ∧ xa = (wholeF (rns l) n (a - 1)).1 - 1 then ((wholeF (rns l) n ((wholeF (rns l) n (a - 1)).1 - 1).toNat).1, max (wholeF (rns l) n (a - 1)).2 (wholeF (rns l) n ((wholeF (rns l) n (a - 1)).1 - 1).toNat).2 + 1) else (-1, 0))
      else (-1, 0) := by
      rw [wholeF, hx]
      rfl
    rw [hW]
    have hw1 : wrap64 ((a : Int) - 1) = (a : Int) - 1 := w64u (by omega) (by omega)
    have hin : 0 < a → Ev (fun k => graftbedref12_whole.f k l ((a : Int) - 1)) (wholeF (rns l) n (a - 1)) := fun h0 => by
      have := whole_ev l hl ht n (a - 1) (by omega) (by omega) (by omega)
      rw [show ((a - 1 : Nat) : Int) = (a : Int) - 1 from by omega] at this
      exact this
    by_cases k0 : kd = 0
    · rw [if_pos k0]
      refine Ev.step (f := fun k => (graftbedref12_Tag.f k tg).bind fun t => if t = true then (if xa = 0 then (if xb = 0 then some ((a : Int), (1 : Int)) else some (-1, 0)) else some (-1, 0)) else some (-1, 0)) (fun k => ?_) ?_
      · rw [graftbedref12_whole.f, if_pos (by omega), if_pos (by omega), hrd, if_pos k0]
      · refine Ev.bind (f := fun _ t => if t = true then (if xa = 0 then (if xb = 0 then some ((a : Int), (1 : Int)) else some (-1, 0)) else some (-1, 0)) else some (-1, 0)) (rtag_eq tg htx) (Ev.congr (fun k => ?_) (Ev.now _))
        by_cases h1 : tagOk tg = true
        · rw [if_pos h1]
          by_cases h2 : xa = 0
          · rw [if_pos h2]
            by_cases h3 : xb = 0
            · rw [if_pos h3, if_pos ⟨h1, h2, h3⟩]
            · rw [if_neg h3, if_neg (fun h => h3 h.2.2)]
          · rw [if_neg h2, if_neg (fun h => h2 h.2.1)]
        · rw [if_neg h1, if_neg (fun h => h1 h.1)]
    · rw [if_neg k0]
      by_cases k1 : kd = 1
      · rw [if_pos k1]
        have hst : ∀ k, graftbedref12_whole.f (k + 1) l (a : Int) = if tg.toList = ([] : List UInt8) then (if xb = 0 then (if xa = (a : Int) - 1 then (if (a : Int) > 0 then ((graftbedref12_whole.f k l ((a : Int) - 1)).bind fun b => some (b.1, wrap64 (b.2 + 1))) else some (-1, 0)) else some (-1, 0)) else some (-1, 0)) else some (-1, 0) := fun k => by
          rw [graftbedref12_whole.f, if_pos (by omega), if_pos (by omega), hrd, hw1]
          simp only
          rw [if_neg k0, if_pos k1]
        by_cases h1 : tg.toList = []
        · by_cases h2 : xb = 0
          · by_cases h3 : xa = (a : Int) - 1
            · by_cases h4 : 0 < a
              · rw [if_pos ⟨h1, h2, h3, h4⟩]
                refine Ev.step (f := fun k => (graftbedref12_whole.f k l ((a : Int) - 1)).bind fun b => some (b.1, wrap64 (b.2 + 1))) (fun k => by rw [hst, if_pos h1, if_pos h2, if_pos h3, if_pos (by omega)]) ?_
                refine Ev.bind (f := fun _ b => some (b.1, wrap64 (b.2 + 1))) (hin h4) (Ev.congr (fun k => ?_) (Ev.now _))
                rw [w64u (by omega) (by omega)]
              · rw [if_neg (fun h => h4 h.2.2.2)]
                exact Ev.step (f := fun _ => some (-1, 0)) (fun k => by rw [hst, if_pos h1, if_pos h2, if_pos h3, if_neg (by omega)]) (Ev.now _)
            · rw [if_neg (fun h => h3 h.2.2.1)]
              exact Ev.step (f := fun _ => some (-1, 0)) (fun k => by rw [hst, if_pos h1, if_pos h2, if_neg h3]) (Ev.now _)
          · rw [if_neg (fun h => h2 h.2.1)]
            exact Ev.step (f := fun _ => some (-1, 0)) (fun k => by rw [hst, if_pos h1, if_neg h2]) (Ev.now _)
        · rw [if_neg (fun h => h1 h.1)]
          exact Ev.step (f := fun _ => some (-1, 0)) (fun k => by rw [hst, if_neg h1]) (Ev.now _)
      · rw [if_neg k1]
        have hj1f : Ev (fun k => graftbedref12_whole.j1 k l (a : Int) false kd tg xa xb) (-1, 0) := Ev.step (f := fun _ => some (-1, 0)) (fun k => by rw [graftbedref12_whole.j1, if_neg (by decide)]) (Ev.now _)
        have hj0f : Ev (fun k => graftbedref12_whole.j0 k l (a : Int) false kd tg xa xb) (-1, 0) := Ev.step (f := fun _ => some (-1, 0)) (fun k => by rw [graftbedref12_whole.j0, if_neg (by decide)]) (Ev.now _)
        have hstep : ∀ b, b = (kd == 2 || kd == 3) → ∀ R, Ev (fun k => graftbedref12_whole.j0 k l (a : Int) b kd tg xa xb) R → Ev (fun k => graftbedref12_whole.f k l (a : Int)) R := fun b hb R hR => by
          refine Ev.step (fun k => ?_) hR
          rw [graftbedref12_whole.f, if_pos (by omega), if_pos (by omega), hrd]
          simp only
          rw [if_neg k0, if_neg k1]
          by_cases k2 : kd = 2
          · rw [if_pos k2]
            have e : (kd == 2) = true := by rw [k2]; rfl
            rw [hb, e]; rfl
          · rw [if_neg k2]
            have e : (kd == 2) = false := by rw [beq_eq_false_iff_ne]; exact k2
            rw [hb, e]; rfl
        by_cases k23 : kd = 2 ∨ kd = 3
        · refine hstep true (by rcases k23 with rfl | rfl <;> rfl) _ ?_
          by_cases h1 : tg.toList = []
          · by_cases h2 : xb = (a : Int) - 1
            · by_cases h3 : 1 < a
              · rw [if_pos ⟨k23, h1, h2, h3⟩]
                refine Ev.step (f := fun k => graftbedref12_whole.j1 k l (a : Int) true kd tg xa xb) (fun k => by rw [graftbedref12_whole.j0, if_pos rfl, if_pos h1, hw1, if_pos h2, decide_eq_true (show (a : Int) > 1 by omega)]) ?_
                refine Ev.step (f := fun k => (graftbedref12_whole.f k l ((a : Int) - 1)).bind fun b => if b.1 > 0 then (if xa = wrap64 (b.1 - 1) then ((graftbedref12_whole.f k l (wrap64 (b.1 - 1))).bind fun c => some (c.1, wrap64 ((mx b.2 c.2) + 1))) else some (-1, 0)) else some (-1, 0)) (fun k => by rw [graftbedref12_whole.j1, if_pos rfl, hw1]) ?_
                refine Ev.bind (f := fun k b => if b.1 > 0 then (if xa = wrap64 (b.1 - 1) then ((graftbedref12_whole.f k l (wrap64 (b.1 - 1))).bind fun c => some (c.1, wrap64 ((mx b.2 c.2) + 1))) else some (-1, 0)) else some (-1, 0)) (hin (by omega)) ?_
                obtain ⟨r, hr⟩ : ∃ r, wholeF (rns l) n (a - 1) = r := ⟨_, rfl⟩
                rw [hr] at hbd ⊢
                obtain ⟨r1, r2⟩ := r
                simp only at hbd ⊢
                by_cases h4 : 0 < r1
                · have hw2 : wrap64 (r1 - 1) = r1 - 1 := w64u (by omega) (by omega)
                  by_cases h5 : xa = r1 - 1
                  · rw [if_pos ⟨h4, h5⟩]
                    have hq := whole_ev l hl ht n (r1 - 1).toNat (by omega) (by omega) (by omega)
                    rw [show (((r1 - 1).toNat : Nat) : Int) = r1 - 1 from by omega] at hq
                    have hbq := whole_bd (rns l) n (r1 - 1).toNat
                    refine Ev.congr (f := fun k => (graftbedref12_whole.f k l (r1 - 1)).bind fun c => some (c.1, wrap64 ((mx r2 c.2) + 1))) (fun k => by rw [hw2, if_pos h4, if_pos h5]) ?_
                    refine Ev.bind (f := fun _ c => some (c.1, wrap64 ((mx r2 c.2) + 1))) hq (Ev.congr (fun k => ?_) (Ev.now _))
                    rw [mx_max, w64u (by omega) (by omega)]
                  · rw [if_neg (fun h => h5 h.2)]
                    exact Ev.congr (f := fun _ => some (-1, 0)) (fun k => by rw [hw2, if_pos h4, if_neg h5]) (Ev.now _)
                · rw [if_neg (fun h => h4 h.1)]
                  exact Ev.congr (f := fun _ => some (-1, 0)) (fun k => by rw [if_neg h4]) (Ev.now _)
              · rw [if_neg (fun h => h3 h.2.2.2)]
                exact Ev.step (fun k => by rw [graftbedref12_whole.j0, if_pos rfl, if_pos h1, hw1, if_pos h2, decide_eq_false (show ¬ (a : Int) > 1 by omega)]) hj1f
            · rw [if_neg (fun h => h2 h.2.2.1)]
              exact Ev.step (fun k => by rw [graftbedref12_whole.j0, if_pos rfl, if_pos h1, hw1, if_neg h2]) hj1f
          · rw [if_neg (fun h => h1 h.2.1)]
            exact Ev.step (fun k => by rw [graftbedref12_whole.j0, if_pos rfl, if_neg h1]) hj1f
        · rw [if_neg (fun h => k23 h.1)]
          refine hstep false ?_ _ hj0f
          have e2 : (kd == 2) = false := by rw [beq_eq_false_iff_ne]; exact fun h => k23 (.inl h)
          have e3 : (kd == 3) = false := by rw [beq_eq_false_iff_ne]; exact fun h => k23 (.inr h)
          rw [e2, e3]; rfl

theorem same_loop (l : List S61) (hl : l.length ≤ 1000000) : ∀ (d i : Nat), l.length - i = d → i ≤ l.length → Ev (fun k => graftbedref12_Same.l0 k l l (i : Int)) true
  | 0, i, hd, hi => Ev.step (f := fun _ => some true) (fun k => by rw [graftbedref12_Same.l0, if_neg (by omega)]) (Ev.now _)
  | d + 1, i, hd, hi => by
    refine Ev.step (fun k => ?_) (same_loop l hl d (i + 1) (by omega) (by omega))
    rw [graftbedref12_Same.l0, if_pos (by omega), if_pos (by omega), if_pos (by omega), if_neg (by simp), w64u (by omega) (by omega)]
    rfl
theorem same_eq (l : List S61) (hl : l.length ≤ 1000000) : Ev (fun k => graftbedref12_Same.f k l l) true :=
  Ev.congr (fun k => by unfold graftbedref12_Same.f; rw [if_pos rfl]; rfl) (same_loop l hl _ 0 rfl (Nat.zero_le _))


/-- The reference's Check at nodes of an expression. -/
theorem rcheck_ex {N : List Nd} {dp : Int} (h : Ex N dp) (hl : N.length ≤ 1000000) (ht : ∀ x ∈ N, x.tag.size ≤ 4611686018427387904) : Ev (fun k => graftbedref12_Check.f k (rus N)) (checkF N) := by
  have hlen := rus_len N
  rw [ex_check h]
  have hpos := h.2
  by_cases h2 : (N.length : Int) > 60
  · rw [if_neg (by omega)]
    refine Ev.congr (f := fun k => graftbedref12_Check.j0 k (rus N) true) (fun k => by unfold graftbedref12_Check.f; rw [if_neg (by omega), decide_eq_true (by omega)]) ?_
    exact Ev.step (f := fun _ => some 120) (fun k => by rw [graftbedref12_Check.j0, if_pos rfl]) (Ev.now _)
  · have hw := whole_ev (rus N) (by omega) (fun x hx => by
      obtain ⟨y, hy, rfl⟩ := List.mem_map.1 hx
      exact ht y hy) N.length (N.length - 1) (by omega) (by omega) (by omega)
    rw [rns_rus, ex_whole h, show ((N.length - 1 : Nat) : Int) = (N.length : Int) - 1 from by omega] at hw
    refine Ev.congr (f := fun k => graftbedref12_Check.j0 k (rus N) false) (fun k => by unfold graftbedref12_Check.f; rw [if_neg (by omega), decide_eq_false (by omega)]) ?_
    refine Ev.step (f := fun k => (graftbedref12_whole.f k (rus N) ((N.length : Int) - 1)).bind fun b => if b.1 = 0 then (if b.2 > 40 then some 120 else some 0) else some 120) (fun k => by rw [graftbedref12_Check.j0, if_neg (by decide), hlen, w64u (by omega) (by omega)]) ?_
    refine Ev.bind (f := fun _ b => if b.1 = 0 then (if b.2 > 40 then some (120 : Int) else some 0) else some 120) hw (Ev.congr (fun k => ?_) (Ev.now _))
    simp only
    rw [if_pos trivial]
    by_cases hd : dp ≤ 40
    · rw [if_neg (by omega), if_pos ⟨by omega, hd⟩]
    · rw [if_pos (by omega), if_neg (fun h => hd h.2)]
theorem rcheck_nil : Ev (fun k => graftbedref12_Check.f k []) 120 := by
  refine Ev.congr (f := fun k => graftbedref12_Check.j0 k [] true) (fun k => by unfold graftbedref12_Check.f; rw [if_pos (by decide)]) ?_
  exact Ev.step (f := fun _ => some 120) (fun k => by rw [graftbedref12_Check.j0, if_pos rfl]) (Ev.now _)

/-! ### The reference's And, Or, Not -/
theorem rboth_eq (k : Int) {a b : List Nd} (ha : a.length ≤ 1000000) (hb : b.length ≤ 1000000) : graftbedref12_both.f k (rus a) (rus b) = some (rus (bothN k a b)) := by
  have la := rus_len a
  have lb := rus_len b
  have hm : graftbedref12_moved.f (rus b) (((rus a).length : Nat) : Int) = some (rus (b.map (shiftN (a.length : Int)))) := by
    unfold graftbedref12_moved.f
    rw [if_pos (by omega), la]
    have e : (rus b).map graftbedref12_moved.enc = b := rns_rus b
    rw [e]
    rfl
  unfold graftbedref12_both.f
  simp only [Option.bind_some, List.nil_append]
  rw [if_pos (by simp only [List.length_nil]; omega), hm]
  simp only [Option.bind_some]
  have lm : (rus (b.map (shiftN (a.length : Int)))).length = b.length := by rw [rus_len, List.length_map]
  rw [if_pos (by omega), if_pos (by rw [List.length_append]; omega)]
  rw [la, lb, w64u (x := (a.length : Int) + (b.length : Int)) (by omega) (by omega)]
  unfold bothN rus
  simp only [List.map_append, List.map_cons, List.map_nil]
  rfl
theorem rAnd_eq {a b : List Nd} (ha : a.length ≤ 1000000) (hb : b.length ≤ 1000000) : graftbedref12_And.f (rus a) (rus b) = some (rus (bothN 2 a b)) := by
  unfold graftbedref12_And.f
  rw [rboth_eq 2 ha hb]
  rfl
theorem rOr_eq {a b : List Nd} (ha : a.length ≤ 1000000) (hb : b.length ≤ 1000000) : graftbedref12_Or.f (rus a) (rus b) = some (rus (bothN 3 a b)) := by
  unfold graftbedref12_Or.f
  rw [rboth_eq 3 ha hb]
  rfl
theorem rNot_eq {a : List Nd} (ha : a.length ≤ 1000000) : graftbedref12_Not.f (rus a) = some (rus (notN' a)) := by
  have la := rus_len a
  unfold graftbedref12_Not.f
  simp only [Option.bind_some, List.nil_append]
  rw [if_pos (by simp only [List.length_nil]; omega), if_pos (by omega), la]
  unfold notN' rus
  simp only [List.map_append, List.map_cons, List.map_nil]
  rfl

/-! ### The reference's split -/
def cutAt (a b : Int) (c : UInt8) : Bool := decide ((c.toNat : Int) = a) || ((c.toNat : Int) == b)
def keepE (e : Bool) (l : List (List UInt8)) : List (List UInt8) := if e = true then l else ne l
theorem keep_cons {e : Bool} {x : List UInt8} {r : List (List UInt8)} : keepE e (x :: r) = if e = false ∧ x = [] then keepE e r else x :: keepE e r := by
  unfold keepE
  cases e
  · simp only [Bool.false_eq_true, if_false, true_and]
    exact ne_cons
  · simp
theorem ofL_piece (s : ByteArray) (a b : Nat) : s.extract a b = ofL (piece (L s) a b) := L_inj (by rw [L_piece, L_ofL])
theorem split_ev (s : ByteArray) (hs : s.size ≤ 1000000) (a b : Int) (e : Bool) : ∀ (d i fr : Nat) (acc : List ByteArray), s.size - i = d → fr ≤ i → i ≤ s.size → acc.length ≤ i → (∀ x ∈ piece (L s) fr i, cutAt a b x = false) →
    Ev (fun k => graftbedref13_split.l0 k s a b e acc (fr : Int) (i : Int)) (acc ++ (keepE e (splitP (cutAt a b) ((L s).drop fr))).map ofL) := by
  have hl := L_length s
  intro d
  induction d with
  | zero =>
    intro i fr acc hd hfr hi hacc hno
    obtain rfl : i = s.size := by omega
    have hend : ∀ (acc2 : List ByteArray) (f2 : Int), Ev (fun k => graftbedref13_split.l0 k s a b e acc2 f2 ((s.size : Int) + 1)) acc2 := fun acc2 f2 =>
      Ev.step (f := fun _ => some acc2) (fun k => by rw [graftbedref13_split.l0, if_neg (by omega)]) (Ev.now _)
    have hw : wrap64 ((s.size : Int) + 1) = (s.size : Int) + 1 := w64u (by omega) (by omega)
    rw [← hl, piece_all _ _ (by omega)] at hno
    rw [splitP_none hno, keep_cons]
    have hp : s.extract fr s.size = ofL ((L s).drop fr) := by rw [ofL_piece, ← hl, piece_all _ _ (by omega)]
    refine Ev.step (f := fun k => graftbedref13_split.j1 k s a b e acc (fr : Int) (s.size : Int) true) (fun k => by rw [graftbedref13_split.l0, if_pos (Int.le_refl _), if_pos rfl]) ?_
    have hk0 : keepE e [] = [] := by unfold keepE ne; cases e <;> rfl
    by_cases hlt : fr < s.size
    · have hne : (L s).drop fr ≠ [] := by intro h; have := congrArg List.length h; simp at this; omega
      rw [if_neg (fun h => hne h.2), hk0]
      refine Ev.step (fun k => ?_) (hend (acc ++ [ofL ((L s).drop fr)]) ((s.size : Int) + 1))
      rw [graftbedref13_split.j1, if_pos rfl, if_pos (by omega), if_pos (by omega), if_pos (by omega), if_pos (Int.le_refl _), if_pos (by omega), hw]
      rw [show ((fr : Int)).toNat = fr from by omega, show ((s.size : Int)).toNat = s.size from by omega, hp]
    · have he : (L s).drop fr = [] := List.drop_of_length_le (by omega)
      cases e with
      | true =>
        rw [if_neg (fun h => by exact absurd h.1 (by decide)), hk0]
        refine Ev.step (fun k => ?_) (hend (acc ++ [ofL ((L s).drop fr)]) ((s.size : Int) + 1))
        rw [graftbedref13_split.j1, if_pos rfl, if_neg (by omega), if_pos rfl, if_pos (by omega), if_pos (by omega), if_pos (Int.le_refl _), if_pos (by omega), hw]
        rw [show ((fr : Int)).toNat = fr from by omega, show ((s.size : Int)).toNat = s.size from by omega, hp]
      | false =>
        rw [if_pos ⟨rfl, he⟩, hk0, List.map_nil, List.append_nil]
        refine Ev.step (fun k => ?_) (hend acc ((s.size : Int) + 1))
        rw [graftbedref13_split.j1, if_pos rfl, if_neg (by omega), if_neg (by decide), hw]
  | succ d ih =>
    intro i fr acc hd hfr hi hacc hno
    have hlt : i < s.size := by omega
    have hltL : i < (L s).length := by omega
    have hb : bt s (i : Int) = (((L s)[i]).toNat : Int) := bt_nat hltL
    obtain ⟨c, hc⟩ : ∃ c, (L s)[i] = c := ⟨_, rfl⟩
    rw [hc] at hb
    have hw : wrap64 ((i : Int) + 1) = ((i + 1 : Nat) : Int) := by rw [w64u (by omega) (by omega)]; rfl
    have hdrop : (L s).drop i = c :: (L s).drop (i + 1) := by rw [List.drop_eq_getElem_cons hltL, hc]
    have hst : ∀ k, graftbedref13_split.l0 (k + 1) s a b e acc (fr : Int) (i : Int) = graftbedref13_split.j1 k s a b e acc (fr : Int) (i : Int) (cutAt a b c) := fun k => by
      rw [graftbedref13_split.l0, if_pos (by omega), if_neg (by omega), if_pos (by omega), if_pos (by omega), hb]
      unfold cutAt
      by_cases h : (c.toNat : Int) = a
      · rw [if_pos h, decide_eq_true h]; rfl
      · rw [if_neg h, decide_eq_false h]; rfl
    refine Ev.step (fun k => hst k) ?_
    by_cases hcut : cutAt a b c = true
    · rw [hcut]
      have hp : s.extract fr i = ofL (piece (L s) fr i) := ofL_piece s fr i
      rw [← piece_join (l := L s) hfr, hdrop, splitP_at hcut _ hno, keep_cons]
      have hno2 : ∀ x ∈ piece (L s) (i + 1) (i + 1), cutAt a b x = false := by unfold piece; simp
      by_cases hne : fr < i
      · have hpn : piece (L s) fr i ≠ [] := piece_ne hne (by omega)
        rw [if_neg (fun h => hpn h.2)]
        have h1 := ih (i + 1) (i + 1) (acc ++ [ofL (piece (L s) fr i)]) (by omega) (Nat.le_refl _) (by omega) (by simp; omega) hno2
        rw [List.append_assoc] at h1
        refine Ev.step (fun k => ?_) h1
        rw [graftbedref13_split.j1, if_pos rfl, if_pos (by omega), if_pos (by omega), if_pos (by omega), if_pos (by omega), if_pos (by omega), hw]
        rw [show ((fr : Int)).toNat = fr from by omega, show ((i : Int)).toNat = i from by omega, hp]
      · have hpe : piece (L s) fr i = [] := by unfold piece; rw [show i - fr = 0 from by omega]; rfl
        cases e with
        | true =>
          rw [if_neg (fun h => by exact absurd h.1 (by decide))]
          have h1 := ih (i + 1) (i + 1) (acc ++ [ofL (piece (L s) fr i)]) (by omega) (Nat.le_refl _) (by omega) (by simp; omega) hno2
          rw [List.append_assoc] at h1
          refine Ev.step (fun k => ?_) h1
          rw [graftbedref13_split.j1, if_pos rfl, if_neg (by omega), if_pos rfl, if_pos (by omega), if_pos (by omega), if_pos (by omega), if_pos (by omega), hw]
          rw [show ((fr : Int)).toNat = fr from by omega, show ((i : Int)).toNat = i from by omega, hp]
        | false =>
          rw [if_pos ⟨rfl, hpe⟩]
          refine Ev.step (fun k => ?_) (ih (i + 1) (i + 1) acc (by omega) (Nat.le_refl _) (by omega) (by omega) hno2)
          rw [graftbedref13_split.j1, if_pos rfl, if_neg (by omega), if_neg (by decide), hw]
    · have hcf : cutAt a b c = false := by simpa using hcut
      rw [hcf]
      refine Ev.step (fun k => ?_) (ih (i + 1) fr acc (by omega) (by omega) (by omega) (by omega) (fun x hx => ?_))
      · rw [graftbedref13_split.j1, if_neg (by decide), hw]
      · unfold piece at hno hx
        rw [show i + 1 - fr = (i - fr) + 1 from by omega, List.take_succ_eq_append_getElem (by rw [List.length_drop]; omega)] at hx
        rcases List.mem_append.1 hx with h3 | h3
        · exact hno x h3
        · rw [List.mem_singleton, List.getElem_drop] at h3
          have : (L s)[fr + (i - fr)]'(by omega) = c := by rw [← hc]; congr 1; omega
          rw [h3, this]; exact hcf
theorem map_ofL_L (l : List ByteArray) : (l.map L).map ofL = l := by
  rw [List.map_map]
  conv => rhs; rw [← List.map_id l]
  apply List.map_congr_left
  intro x _
  exact L_inj (by show L (ofL (L x)) = L x; rw [L_ofL])
theorem cut_blank : cutAt 32 9 = blankB := by
  funext c
  unfold cutAt blankB
  have h1 : decide ((c.toNat : Int) = 32) = (c == 32) := by
    by_cases h : c = 32
    · subst h; rfl
    · rw [beq_eq_false_iff_ne.2 h, decide_eq_false (fun e => h (by apply UInt8.toNat_inj.1; show c.toNat = 32; omega))]
  have h2 : ((c.toNat : Int) == 9) = (c == 9) := by
    by_cases h : c = 9
    · subst h; rfl
    · rw [beq_eq_false_iff_ne.2 h, beq_eq_false_iff_ne.2 (fun e => h (by apply UInt8.toNat_inj.1; show c.toNat = 9; omega))]
  rw [h1, h2]
theorem cut_comma : cutAt 44 44 = commaB := by
  funext c
  unfold cutAt commaB
  have h1 : decide ((c.toNat : Int) = 44) = (c == 44) := by
    by_cases h : c = 44
    · subst h; rfl
    · rw [beq_eq_false_iff_ne.2 h, decide_eq_false (fun e => h (by apply UInt8.toNat_inj.1; show c.toNat = 44; omega))]
  have h2 : ((c.toNat : Int) == 44) = (c == 44) := by
    by_cases h : c = 44
    · subst h; rfl
    · rw [beq_eq_false_iff_ne.2 h, beq_eq_false_iff_ne.2 (fun e => h (by apply UInt8.toNat_inj.1; show c.toNat = 44; omega))]
  rw [h1, h2, Bool.or_self]
theorem fields_ev (s : ByteArray) (hs : s.size ≤ 1000000) : Ev (fun k => graftbedref13_split.f k s 32 9 false) (fieldsOf s) := by
  have h := split_ev s hs 32 9 false s.size 0 0 [] (by omega) (Nat.le_refl _) (Nat.zero_le _) (Nat.zero_le _) (by unfold piece; simp)
  rw [cut_blank] at h
  have e : (keepE false (splitP blankB ((L s).drop 0))).map ofL = fieldsOf s := by
    show (ne (splitP blankB (L s))).map ofL = _
    rw [← fields_eq, map_ofL_L]
  rw [List.nil_append, e] at h
  exact h
theorem terms_ev (s : ByteArray) (hs : s.size ≤ 1000000) : Ev (fun k => graftbedref13_split.f k s 44 44 true) (termsOf s) := by
  have h := split_ev s hs 44 44 true s.size 0 0 [] (by omega) (Nat.le_refl _) (Nat.zero_le _) (Nat.zero_le _) (by unfold piece; simp)
  rw [cut_comma] at h
  have e : (keepE true (splitP commaB ((L s).drop 0))).map ofL = termsOf s := by
    show (splitP commaB (L s)).map ofL = _
    rw [← terms_eq, map_ofL_L]
  rw [List.nil_append, e] at h
  exact h
end Go.Proofs.YtjndccjpjknbkaaDoor.PurePl

