/- Expressions: what the printed functions answer, in plain words. -/
import Derived.Test.YtjndccjpjknbkaaDoorMpc
import Derived.Test.YtjndccjpjknbkaaDoorMpa
import Derived.Test.YtjndccjpjknbkaaDoorMpb
import Derived.Test.YtjndccjpjknbkaaDoorExLaw
import Derived.Test.YtjndccjpjknbkaaDoorBytesLib
namespace Go.Proofs.YtjndccjpjknbkaaDoor.PureEx
open Go.RowKit Go.Proofs.YtjndccjpjknbkaaDoor.PEx Go.Proofs.YtjndccjpjknbkaaDoorW.PrintWords Go.Proofs.YtjndccjpjknbkaaDoorW.PrintLast Go.Proofs.YtjndccjpjknbkaaDoorW.PrintMore Go.Proofs.YtjndccjpjknbkaaDoor.BytesLib Go.Proofs.YtjndccjpjknbkaaDoor.ExNode Go.Proofs.YtjndccjpjknbkaaDoor.ExTag Go.Proofs.YtjndccjpjknbkaaDoor.ExSem Go.Proofs.YtjndccjpjknbkaaDoor.ExLaw
open Go.Proofs.YtjndccjpjknbkaaDoor.ExCheck (checkF)
set_option linter.unusedVariables false

def nd (x : S52) : Nd := ⟨x.f0, x.f1, x.f2, x.f3⟩
def nds (l : List S52) : List Nd := l.map nd
def rn (x : S61) : Nd := ⟨x.f0, x.f1, x.f2, x.f3⟩
def rns (l : List S61) : List Nd := l.map rn
def tags (l : List S52) : Prop := ∀ x ∈ l, x.f1.size ≤ 4611686018427387904

theorem w64u {x : Int} (h1 : -9223372036854775808 ≤ x) (h2 : x ≤ 9223372036854775807) : wrap64 x = x := by unfold wrap64; omega

theorem tags_all {l : List S52} (h : tags l) : l.all (fun x => decide (x.f1.size ≤ 4611686018427387904)) = true := List.all_eq_true.2 fun x hx => decide_eq_true (h x hx)
theorem Check_eq {l : List S52} (h : tags l) : expr_Check.f l = some (checkF (nds l)) := by
  unfold expr_Check.f
  rw [if_pos (show expr_Check.tagsOk l = true from tags_all h)]
  rfl
theorem Any_eq {l : List S52} (h : tags l) : expr_Any.f l = some (anyF (nds l)) := by
  unfold expr_Any.f
  rw [if_pos (show expr_Any.tagsOk l = true from tags_all h)]
  rfl
theorem Eval_eq {l : List S52} (h : tags l) (ts : List ByteArray) : expr_Eval.f l ts = some (evalF (nds l) ts) := by
  unfold expr_Eval.f
  rw [if_pos (show expr_Eval.tagsOk l = true from tags_all h)]
  rfl
theorem Node_eq {l : List S52} (h : l.length ≤ 3518437208880) : expr_Node.f l = some l := by
  unfold expr_Node.f
  rw [if_pos h]

/-! ### a -/
theorem parse_a : ExPar.parseF ⟨#[97]⟩ = ([⟨0, ⟨#[97]⟩, 0, 0⟩], 0) := by decide +kernel
theorem a_eq : ∃ l : List S52, graftbedlaw12_a.f = some l ∧ 0 < l.length := by
  unfold graftbedlaw12_a.f expr_Parse.f
  rw [if_pos (show (⟨#[97]⟩ : ByteArray).size ≤ 1099511627776 by decide), parse_a]
  exact ⟨_, rfl, by decide⟩

/-! ### heavy -/
theorem heavy_loop (l : List S52) (hl : l.length ≤ 4611686018427387904) : ∀ (d i : Nat), l.length - i = d → i ≤ l.length → (∀ x ∈ l.take i, x.f1.size ≤ 100) → ∃ b, Ev (fun k => graftbedlaw12_heavy.l0 k l (i : Int)) b ∧ (b = false → ∀ x ∈ l, x.f1.size ≤ 100)
  | 0, i, hd, hi, ha => by
    refine ⟨false, Ev.step (f := fun _ => some false) (fun k => by rw [graftbedlaw12_heavy.l0, if_neg (by omega)]) (Ev.now _), fun _ => ?_⟩
    rwa [List.take_of_length_le (by omega)] at ha
  | d + 1, i, hd, hi, ha => by
    have hlt : i < l.length := by omega
    have hrd : rd_T52 l (i : Int) = l[i] := by
      unfold rd_T52
      simp [List.getD, hlt]
    by_cases hx : (l[i].f1.size : Int) > 100
    · exact ⟨true, Ev.step (f := fun _ => some true) (fun k => by rw [graftbedlaw12_heavy.l0, if_pos (by omega), if_pos (by omega), hrd, if_pos hx]) (Ev.now _), by simp⟩
    · obtain ⟨b, h1, h2⟩ := heavy_loop l hl d (i + 1) (by omega) (by omega) (by
        rw [List.take_succ_eq_append_getElem hlt]
        intro x hxm
        rcases List.mem_append.1 hxm with h | h
        · exact ha x h
        · rw [List.mem_singleton] at h; subst h; omega)
      refine ⟨b, Ev.step (fun k => ?_) h1, h2⟩
      rw [graftbedlaw12_heavy.l0, if_pos (by omega), if_pos (by omega), hrd, if_neg hx, w64u (by omega) (by omega)]
      rfl
theorem heavy_eq (l : List S52) (hl : l.length ≤ 4611686018427387904) : ∃ b, Ev (fun k => graftbedlaw12_heavy.f k l) b ∧ (b = false → l.length ≤ 70 ∧ ∀ x ∈ l, x.f1.size ≤ 100) := by
  by_cases h : (l.length : Int) > 70
  · exact ⟨true, Ev.congr (fun k => by unfold graftbedlaw12_heavy.f; rw [if_pos h]) (Ev.now _), by simp⟩
  · obtain ⟨b, h1, h2⟩ := heavy_loop l hl _ 0 rfl (Nat.zero_le _) (by simp)
    exact ⟨b, Ev.congr (fun k => by unfold graftbedlaw12_heavy.f; rw [if_neg h]; rfl) h1, fun hb => ⟨by omega, h2 hb⟩⟩

/-! ### Not -/
theorem Not_eq {l : List S52} (h : l.length ≤ 1000000) : ∃ t : List S52, expr_Not.f l = some t ∧ nds t = notN (nds l) ∧ t.length = l.length + 1 ∧ (tags l → tags t) := by
  refine ⟨l ++ [⟨1, ⟨#[]⟩, (l.length : Int) - 1, 0⟩], ?_, ?_, by simp, fun ht x hx => ?_⟩
  · unfold expr_Not.f
    rw [Node_eq (by omega)]
    simp only [Option.bind_some]
    rw [if_pos (by omega), w64u (by omega) (by omega)]
  · unfold nds notN
    rw [List.map_append, List.length_map]
    rfl
  · rcases List.mem_append.1 hx with h1 | h1
    · exact ht x h1
    · rw [List.mem_singleton] at h1; subst h1; show (⟨#[]⟩ : ByteArray).size ≤ _; decide

/-! ### theirs -/
def their (x : S52) : S61 := ⟨x.f0, x.f1, x.f2, x.f3⟩
theorem theirs_loop (l : List S52) (hl : l.length ≤ 1000000) : ∀ (d i : Nat), l.length - i = d → i ≤ l.length → Ev (fun k => graftbedlaw12_theirs.l0 k l ((l.take i).map their) (i : Int)) (l.map their)
  | 0, i, hd, hi => Ev.step (f := fun _ => some (l.map their)) (fun k => by rw [graftbedlaw12_theirs.l0, if_neg (by omega), List.take_of_length_le (by omega)]) (Ev.now _)
  | d + 1, i, hd, hi => by
    have hlt : i < l.length := by omega
    have hrd : rd_T52 l (i : Int) = l[i] := by
      unfold rd_T52
      simp [List.getD, hlt]
    refine Ev.step (fun k => ?_) (theirs_loop l hl d (i + 1) (by omega) (by omega))
    rw [graftbedlaw12_theirs.l0, if_pos (by omega), if_pos (by omega), if_pos (by rw [List.length_map, List.length_take]; omega), hrd, w64u (by omega) (by omega), List.take_succ_eq_append_getElem hlt, List.map_append]
    rfl
theorem theirs_eq {l : List S52} (hl : l.length ≤ 1000000) : Ev (fun k => graftbedlaw12_theirs.f k l) (l.map their) := theirs_loop l hl _ 0 rfl (Nat.zero_le _)
theorem rns_their (l : List S52) : rns (l.map their) = nds l := by
  unfold rns nds
  rw [List.map_map]
  rfl

/-! ### The reference's Check -/
theorem rletter_all : ∀ n : Fin 256, graftbedref12_letter.f (n.val : Int) = some (letB (UInt8.ofNat n.val)) := by decide +kernel
theorem rletter_eq (c : UInt8) : graftbedref12_letter.f (c.toNat : Int) = some (letB c) := by
  have h := rletter_all ⟨c.toNat, c.toNat_lt⟩
  simpa using h
theorem rtag_loop (s : ByteArray) (hs : s.size ≤ 4611686018427387904) : ∀ (d i : Nat), s.size - i = d → i ≤ s.size → ((L s).take i).all letB = true → Ev (fun k => graftbedref12_Tag.l0 k s (i : Int)) (tagOk s)
  | 0, i, hd, hi, ha => by
    obtain rfl : i = s.size := by omega
    rw [← L_length, List.take_length] at ha
    refine Ev.step (f := fun _ => some (tagOk s)) (fun k => ?_) (Ev.now _)
    rw [graftbedref12_Tag.l0, if_neg (by omega)]
    unfold tagOk tagL
    rw [ha, toList_L, L_length]
    by_cases h : L s = []
    · rw [if_pos h, h]; rfl
    · rw [if_neg h]
      have : (L s).isEmpty = false := by simpa using h
      rw [this]
      simp
      omega
  | d + 1, i, hd, hi, ha => by
    have hlt : i < (L s).length := by rw [L_length]; omega
    have hb : bt s (i : Int) = (((L s)[i]).toNat : Int) := bt_nat hlt
    by_cases hl : letB (L s)[i] = true
    · refine Ev.step (fun k => ?_) (rtag_loop s hs d (i + 1) (by omega) (by omega) (by rw [List.take_succ_eq_append_getElem hlt, List.all_append, ha]; simp [hl]))
      rw [graftbedref12_Tag.l0, if_pos (by omega), if_pos (by omega), hb, rletter_eq, w64u (by omega) (by omega)]
      simp only [Option.bind_some]
      rw [if_pos hl]; rfl
    · refine Ev.step (f := fun _ => some false) (fun k => ?_) ?_
      · rw [graftbedref12_Tag.l0, if_pos (by omega), if_pos (by omega), hb, rletter_eq]
        simp only [Option.bind_some]
        rw [if_neg hl]
      · have : tagOk s = false := by
          unfold tagOk tagL
          have : (L s).all letB = false := by
            rw [Bool.eq_false_iff]
            intro h
            exact hl (List.all_eq_true.1 h _ (List.getElem_mem hlt))
          rw [this]; rfl
        rw [this]; exact Ev.now _
theorem rtag_eq (s : ByteArray) (hs : s.size ≤ 4611686018427387904) : Ev (fun k => graftbedref12_Tag.f k s) (tagOk s) := rtag_loop s hs _ 0 rfl (Nat.zero_le _) (by simp)

theorem mx_max (a b : Int) : mx a b = max a b := by unfold mx; rw [Int.max_def]; split <;> split <;> omega
theorem whole_bd (l : List Nd) : ∀ (n a : Nat), -1 ≤ (wholeF l n a).1 ∧ (wholeF l n a).1 ≤ (a : Int) ∧ 0 ≤ (wholeF l n a).2 ∧ (wholeF l n a).2 ≤ (n : Int)
  | 0, a => by unfold wholeF; exact ⟨by decide, by show (-1 : Int) ≤ a; omega, by decide, by decide⟩
  | n + 1, a => by
    have h1 := whole_bd l n (a - 1)
    have h2 := whole_bd l n ((wholeF l n (a - 1)).1 - 1).toNat
    unfold wholeF
    split
    · exact ⟨by decide, by show (-1 : Int) ≤ a; omega, by decide, by show (0 : Int) ≤ _; omega⟩
    · split
      · split
        · exact ⟨by show (-1 : Int) ≤ a; omega, Int.le_refl _, by show (0 : Int) ≤ 1; omega, by show (1 : Int) ≤ ((n + 1 : Nat) : Int); omega⟩
        · exact ⟨by decide, by show (-1 : Int) ≤ a; omega, by decide, by show (0 : Int) ≤ _; omega⟩
      · split
        · split
          · exact ⟨h1.1, by show (wholeF l n (a - 1)).1 ≤ _; omega, by show 0 ≤ (wholeF l n (a - 1)).2 + 1; omega, by show (wholeF l n (a - 1)).2 + 1 ≤ ((n + 1 : Nat) : Int); omega⟩
          · exact ⟨by decide, by show (-1 : Int) ≤ a; omega, by decide, by show (0 : Int) ≤ _; omega⟩
        · split
          · split
            · refine ⟨h2.1, by show (wholeF l n _).1 ≤ _; omega, by show 0 ≤ max _ _ + 1; omega, by show max _ _ + 1 ≤ ((n + 1 : Nat) : Int); omega⟩
            · exact ⟨by decide, by show (-1 : Int) ≤ a; omega, by decide, by show (0 : Int) ≤ _; omega⟩
          · exact ⟨by decide, by show (-1 : Int) ≤ a; omega, by decide, by show (0 : Int) ≤ _; omega⟩

theorem whole_ev (l : List S61) (hl : l.length ≤ 1000) (ht : ∀ x ∈ l, x.f1.size ≤ 4611686018427387904) : ∀ (n a : Nat), a < n → a < l.length → n ≤ 1000 → Ev (fun k => graftbedref12_whole.f k l (a : Int)) (wholeF (rns l) n a)
  | 0, a, h, _, _ => absurd h (Nat.not_lt_zero _)
  | n + 1, a, h, ha, hn => by
    have hrd : rd_T61 l (a : Int) = l[a] := by
      unfold rd_T61
      simp [List.getD, ha]
    have htx := ht l[a] (List.getElem_mem ha)
    have hx : (rns l)[a]? = some (rn l[a]) := by unfold rns; rw [List.getElem?_map, List.getElem?_eq_getElem ha]; rfl
    have hbd := whole_bd (rns l) n (a - 1)
    obtain ⟨x, hxe⟩ : ∃ x, l[a] = x := ⟨_, rfl⟩
    rw [hxe] at hrd hx htx
    obtain ⟨kd, tg, xa, xb⟩ := x
    have hW : wholeF (rns l) (n + 1) a = if kd = 0 then (if tagOk tg = true ∧ xa = 0 ∧ xb = 0 then ((a : Int), 1) else (-1, 0))
      else if kd = 1 then (if tg.toList = [] ∧ xb = 0 ∧ xa = (a : Int) - 1 ∧ 0 < a then ((wholeF (rns l) n (a - 1)).1, (wholeF (rns l) n (a - 1)).2 + 1) else (-1, 0))
      else if (kd = 2 ∨ kd = 3) ∧ tg.toList = [] ∧ xb = (a : Int) - 1 ∧ 1 < a then
        (if 0 < (wholeF (rns l) n (a - 1)).1 ∧ xa = (wholeF (rns l) n (a - 1)).1 - 1 then ((wholeF (rns l) n ((wholeF (rns l) n (a - 1)).1 - 1).toNat).1, max (wholeF (rns l) n (a - 1)).2 (wholeF (rns l) n ((wholeF (rns l) n (a - 1)).1 - 1).toNat).2 + 1) else (-1, 0))
      else (-1, 0) := by
      rw [wholeF, hx]
      rfl
    rw [hW]
    have hw1 : wrap64 ((a : Int) - 1) = (a : Int) - 1 := w64u (by omega) (by omega)
    have hin : 0 < a → Ev (fun k => graftbedref12_whole.f k l ((a : Int) - 1)) (wholeF (rns l) n (a - 1)) := fun h0 => by
      have := whole_ev l hl ht n (a - 1) (by omega) (by omega) (by omega)
      rw [show ((a - 1 : Nat) : Int) = (a : Int) - 1 from by omega] at this
      exact this
    by_cases k0 : kd = 0
    · rw [if_pos k0]
      refine Ev.step (f := fun k => (graftbedref12_Tag.f k tg).bind fun t => if t = true then (if xa = 0 then (if xb = 0 then some ((a : Int), (1 : Int)) else some (-1, 0)) else some (-1, 0)) else some (-1, 0)) (fun k => ?_) ?_
      · rw [graftbedref12_whole.f, if_pos (by omega), if_pos (by omega), hrd, if_pos k0]
      · refine Ev.bind (f := fun _ t => if t = true then (if xa = 0 then (if xb = 0 then some ((a : Int), (1 : Int)) else some (-1, 0)) else some (-1, 0)) else some (-1, 0)) (rtag_eq tg htx) (Ev.congr (fun k => ?_) (Ev.now _))
        by_cases h1 : tagOk tg = true
        · rw [if_pos h1]
          by_cases h2 : xa = 0
          · rw [if_pos h2]
            by_cases h3 : xb = 0
            · rw [if_pos h3, if_pos ⟨h1, h2, h3⟩]
            · rw [if_neg h3, if_neg (fun h => h3 h.2.2)]
          · rw [if_neg h2, if_neg (fun h => h2 h.2.1)]
        · rw [if_neg h1, if_neg (fun h => h1 h.1)]
    · rw [if_neg k0]
      by_cases k1 : kd = 1
      · rw [if_pos k1]
        have hst : ∀ k, graftbedref12_whole.f (k + 1) l (a : Int) = if tg.toList = ([] : List UInt8) then (if xb = 0 then (if xa = (a : Int) - 1 then (if (a : Int) > 0 then ((graftbedref12_whole.f k l ((a : Int) - 1)).bind fun b => some (b.1, wrap64 (b.2 + 1))) else some (-1, 0)) else some (-1, 0)) else some (-1, 0)) else some (-1, 0) := fun k => by
          rw [graftbedref12_whole.f, if_pos (by omega), if_pos (by omega), hrd, hw1]
          simp only
          rw [if_neg k0, if_pos k1]
        by_cases h1 : tg.toList = []
        · by_cases h2 : xb = 0
          · by_cases h3 : xa = (a : Int) - 1
            · by_cases h4 : 0 < a
              · rw [if_pos ⟨h1, h2, h3, h4⟩]
                refine Ev.step (f := fun k => (graftbedref12_whole.f k l ((a : Int) - 1)).bind fun b => some (b.1, wrap64 (b.2 + 1))) (fun k => by rw [hst, if_pos h1, if_pos h2, if_pos h3, if_pos (by omega)]) ?_
                refine Ev.bind (f := fun _ b => some (b.1, wrap64 (b.2 + 1))) (hin h4) (Ev.congr (fun k => ?_) (Ev.now _))
                rw [w64u (by omega) (by omega)]
              · rw [if_neg (fun h => h4 h.2.2.2)]
                exact Ev.step (f := fun _ => some (-1, 0)) (fun k => by rw [hst, if_pos h1, if_pos h2, if_pos h3, if_neg (by omega)]) (Ev.now _)
            · rw [if_neg (fun h => h3 h.2.2.1)]
              exact Ev.step (f := fun _ => some (-1, 0)) (fun k => by rw [hst, if_pos h1, if_pos h2, if_neg h3]) (Ev.now _)
          · rw [if_neg (fun h => h2 h.2.1)]
            exact Ev.step (f := fun _ => some (-1, 0)) (fun k => by rw [hst, if_pos h1, if_neg h2]) (Ev.now _)
        · rw [if_neg (fun h => h1 h.1)]
          exact Ev.step (f := fun _ => some (-1, 0)) (fun k => by rw [hst, if_neg h1]) (Ev.now _)
      · rw [if_neg k1]
        have hj1f : Ev (fun k => graftbedref12_whole.j1 k l (a : Int) false kd tg xa xb) (-1, 0) := Ev.step (f := fun _ => some (-1, 0)) (fun k => by rw [graftbedref12_whole.j1, if_neg (by decide)]) (Ev.now _)
        have hj0f : Ev (fun k => graftbedref12_whole.j0 k l (a : Int) false kd tg xa xb) (-1, 0) := Ev.step (f := fun _ => some (-1, 0)) (fun k => by rw [graftbedref12_whole.j0, if_neg (by decide)]) (Ev.now _)
        have hstep : ∀ b, b = (kd == 2 || kd == 3) → ∀ R, Ev (fun k => graftbedref12_whole.j0 k l (a : Int) b kd tg xa xb) R → Ev (fun k => graftbedref12_whole.f k l (a : Int)) R := fun b hb R hR => by
          refine Ev.step (fun k => ?_) hR
          rw [graftbedref12_whole.f, if_pos (by omega), if_pos (by omega), hrd]
          simp only
          rw [if_neg k0, if_neg k1]
          by_cases k2 : kd = 2
          · rw [if_pos k2]
            have e : (kd == 2) = true := by rw [k2]; rfl
            rw [hb, e]; rfl
          · rw [if_neg k2]
            have e : (kd == 2) = false := by rw [beq_eq_false_iff_ne]; exact k2
            rw [hb, e]; rfl
        by_cases k23 : kd = 2 ∨ kd = 3
        · refine hstep true (by rcases k23 with rfl | rfl <;> rfl) _ ?_
          by_cases h1 : tg.toList = []
          · by_cases h2 : xb = (a : Int) - 1
            · by_cases h3 : 1 < a
              · rw [if_pos ⟨k23, h1, h2, h3⟩]
                refine Ev.step (f := fun k => graftbedref12_whole.j1 k l (a : Int) true kd tg xa xb) (fun k => by rw [graftbedref12_whole.j0, if_pos rfl, if_pos h1, hw1, if_pos h2, decide_eq_true (show (a : Int) > 1 by omega)]) ?_
                refine Ev.step (f := fun k => (graftbedref12_whole.f k l ((a : Int) - 1)).bind fun b => if b.1 > 0 then (if xa = wrap64 (b.1 - 1) then ((graftbedref12_whole.f k l (wrap64 (b.1 - 1))).bind fun c => some (c.1, wrap64 ((mx b.2 c.2) + 1))) else some (-1, 0)) else some (-1, 0)) (fun k => by rw [graftbedref12_whole.j1, if_pos rfl, hw1]) ?_
                refine Ev.bind (f := fun k b => if b.1 > 0 then (if xa = wrap64 (b.1 - 1) then ((graftbedref12_whole.f k l (wrap64 (b.1 - 1))).bind fun c => some (c.1, wrap64 ((mx b.2 c.2) + 1))) else some (-1, 0)) else some (-1, 0)) (hin (by omega)) ?_
                obtain ⟨r, hr⟩ : ∃ r, wholeF (rns l) n (a - 1) = r := ⟨_, rfl⟩
                rw [hr] at hbd ⊢
                obtain ⟨r1, r2⟩ := r
                simp only at hbd ⊢
                by_cases h4 : 0 < r1
                · have hw2 : wrap64 (r1 - 1) = r1 - 1 := w64u (by omega) (by omega)
                  by_cases h5 : xa = r1 - 1
                  · rw [if_pos ⟨h4, h5⟩]
                    have hq := whole_ev l hl ht n (r1 - 1).toNat (by omega) (by omega) (by omega)
                    rw [show (((r1 - 1).toNat : Nat) : Int) = r1 - 1 from by omega] at hq
                    have hbq := whole_bd (rns l) n (r1 - 1).toNat
                    refine Ev.congr (f := fun k => (graftbedref12_whole.f k l (r1 - 1)).bind fun c => some (c.1, wrap64 ((mx r2 c.2) + 1))) (fun k => by rw [hw2, if_pos h4, if_pos h5]) ?_
                    refine Ev.bind (f := fun _ c => some (c.1, wrap64 ((mx r2 c.2) + 1))) hq (Ev.congr (fun k => ?_) (Ev.now _))
                    rw [mx_max, w64u (by omega) (by omega)]
                  · rw [if_neg (fun h => h5 h.2)]
                    exact Ev.congr (f := fun _ => some (-1, 0)) (fun k => by rw [hw2, if_pos h4, if_neg h5]) (Ev.now _)
                · rw [if_neg (fun h => h4 h.1)]
                  exact Ev.congr (f := fun _ => some (-1, 0)) (fun k => by rw [if_neg h4]) (Ev.now _)
              · rw [if_neg (fun h => h3 h.2.2.2)]
                exact Ev.step (fun k => by rw [graftbedref12_whole.j0, if_pos rfl, if_pos h1, hw1, if_pos h2, decide_eq_false (show ¬ (a : Int) > 1 by omega)]) hj1f
            · rw [if_neg (fun h => h2 h.2.2.1)]
              exact Ev.step (fun k => by rw [graftbedref12_whole.j0, if_pos rfl, if_pos h1, hw1, if_neg h2]) hj1f
          · rw [if_neg (fun h => h1 h.2.1)]
            exact Ev.step (fun k => by rw [graftbedref12_whole.j0, if_pos rfl, if_neg h1]) hj1f
        · rw [if_neg (fun h => k23 h.1)]
          refine hstep false ?_ _ hj0f
          have e2 : (kd == 2) = false := by rw [beq_eq_false_iff_ne]; exact fun h => k23 (.inl h)
          have e3 : (kd == 3) = false := by rw [beq_eq_false_iff_ne]; exact fun h => k23 (.inr h)
          rw [e2, e3]; rfl

/-- What the reference's Check answers. -/
theorem rcheck_ev (l : List S61) (hl : l.length ≤ 1000) (ht : ∀ x ∈ l, x.f1.size ≤ 4611686018427387904) : ∃ r : Int, Ev (fun k => graftbedref12_Check.f k l) r ∧ (r = 0 → checkF (rns l) = 0) := by
  have hbad : Ev (fun k => graftbedref12_Check.j0 k l true) 120 := Ev.step (f := fun _ => some 120) (fun k => by rw [graftbedref12_Check.j0, if_pos rfl]) (Ev.now _)
  by_cases h1 : (l.length : Int) < 1
  · exact ⟨120, Ev.congr (fun k => by unfold graftbedref12_Check.f; rw [if_pos h1]) hbad, fun h => absurd h (by decide)⟩
  · by_cases h2 : (l.length : Int) > 60
    · exact ⟨120, Ev.congr (fun k => by unfold graftbedref12_Check.f; rw [if_neg h1, decide_eq_true h2]) hbad, fun h => absurd h (by decide)⟩
    · have hw := whole_ev l hl ht l.length (l.length - 1) (by omega) (by omega) (by omega)
      rw [show ((l.length - 1 : Nat) : Int) = (l.length : Int) - 1 from by omega] at hw
      have hlen : (rns l).length = l.length := by unfold rns; simp
      cases hq : wholeF (rns l) l.length (l.length - 1) with
      | mk fr dp =>
        rw [hq] at hw
        refine ⟨if fr = 0 then (if dp > 40 then 120 else 0) else 120, Ev.congr (f := fun k => graftbedref12_Check.j0 k l false) (fun k => by unfold graftbedref12_Check.f; rw [if_neg h1, decide_eq_false h2]) ?_, fun h => ?_⟩
        · refine Ev.step (f := fun k => (graftbedref12_whole.f k l ((l.length : Int) - 1)).bind fun b => if b.1 = 0 then (if b.2 > 40 then some 120 else some 0) else some 120) (fun k => by rw [graftbedref12_Check.j0, if_neg (by decide), w64u (by omega) (by omega)]) ?_
          refine Ev.bind (f := fun _ b => if b.1 = 0 then (if b.2 > 40 then some (120 : Int) else some 0) else some 120) hw (Ev.congr (fun k => ?_) (Ev.now _))
          simp only
          split
          · split <;> rfl
          · rfl
        · split at h
          · rename_i h0
            subst h0
            split at h
            · exact absurd h (by decide)
            · exact ref_ok (by omega) (by omega) (by rw [hlen]; exact hq) (by omega)
          · exact absurd h (by decide)
end Go.Proofs.YtjndccjpjknbkaaDoor.PureEx
