/- The reference's Parse: its walk. -/
import Derived.Test.YtaddonafdllciaaDoorSemRefB
import Derived.Test.YtaddonafdllciaaDoorMba
import Derived.Deep.DeepCutAuto
namespace Go.Proofs.YtaddonafdllciaaDoor.SemRefParse
open Go.Proofs.YtaddonafdllciaaDoorW.PrintLast Go.RowKit Go.Shelf Go.Proofs.YtaddonafdllciaaDoor.Iter Go.Proofs.YtaddonafdllciaaDoor.BytesLib Go.Proofs.YtaddonafdllciaaDoor.SemParts Go.Proofs.YtaddonafdllciaaDoor.SemNum Go.Proofs.YtaddonafdllciaaDoor.SemParse Go.Proofs.YtaddonafdllciaaDoor.SemOrder Go.Proofs.YtaddonafdllciaaDoor.SemSplit Go.Proofs.YtaddonafdllciaaDoor.SemCmp Go.Proofs.YtaddonafdllciaaDoor.SemRefB Go.Proofs.YtaddonafdllciaaDoorW.PrintWords
set_option linter.unusedVariables false
set_option linter.unusedSimpArgs false

theorem ids_calls (s : ByteArray) (hs : s.size ≤ 60) (strict : Bool) (w : World) :
    Calls Tryd.prog 38 #[.string s, .bool strict] w fun e w' => e = .returned (.bool ((split 46 s).all (strictB strict))) ∧ Below w.heap.size w w' :=
  BRef.graftbedref03_identifiers.calls 5000 s strict _ w (ref_identifiers s hs strict 5000 (Nat.le_refl _))
theorem num_calls (s : ByteArray) (hs : s.size ≤ 60) (w : World) :
    Calls Tryd.prog 40 #[.string s] w fun e w' => e = .returned (.int .i64 (if numB s = true then (numF s).1 else -1)) ∧ Drawn0 w w' :=
  BRef.graftbedref03_Number.calls 100 s _ w (ref_number s hs 100 (Nat.le_refl _))

theorem ref_cut (c : UInt8) (s : ByteArray) (hs : s.size ≤ 1099511627776) (k : Nat) (hk : s.size < k) :
    ∃ i : Nat, BRef.graftbedref03_find.f k s (c.toNat : Int) = some (i : Int) ∧ i ≤ s.size ∧ s.extract 0 i = cutA c s ∧ (cutF c s = true → i < s.size ∧ s.extract (i + 1) s.size = cutB c s) ∧ (cutF c s = false → i = s.size ∧ cutB c s = ⟨#[]⟩) := by
  have h := ref_find c s hs k hk
  have hl := cutI_lt c s
  by_cases h0 : 0 ≤ cutI c s
  · rw [if_pos h0] at h
    obtain ⟨i, hi⟩ : ∃ i : Nat, cutI c s = i := ⟨(cutI c s).toNat, by omega⟩
    rw [hi] at h hl
    refine ⟨i, h, by omega, ?_, fun _ => ⟨by omega, ?_⟩, fun hf => absurd h0 (of_decide_eq_false hf)⟩
    · unfold cutA; rw [if_pos h0, hi, Int.toNat_natCast]
    · unfold cutB; rw [if_pos h0, hi]; rfl
  · rw [if_neg h0] at h
    refine ⟨s.size, h, Nat.le_refl _, ?_, fun hf => absurd (of_decide_eq_true hf) h0, fun _ => ⟨rfl, ?_⟩⟩
    · unfold cutA; rw [if_neg h0]; exact L_inj (by rw [L_head, List.take_of_length_le (by rw [L_length]; exact Nat.le_refl _)])
    · unfold cutB; rw [if_neg h0]

/-- A number's value; -1: none. -/
def nV (x : ByteArray) : Int := if numB x = true then (numF x).1 else -1
theorem nV_neg (x : ByteArray) : nV x < 0 ↔ numB x = false := by
  unfold nV numF
  cases numB x with
  | true => simp
  | false => simp
theorem nV_pos {x : ByteArray} (h : ¬ nV x < 0) : numB x = true ∧ nV x = (numF x).1 := by
  have h1 : numB x = true := by
    cases hb : numB x with
    | true => rfl
    | false => exact absurd ((nV_neg x).2 hb) h
  exact ⟨h1, by unfold nV; rw [h1]; rfl⟩
theorem num_calls' (s : ByteArray) (hs : s.size ≤ 60) (w : World) :
    Calls Tryd.prog 40 #[.string s] w fun e w' => e = .returned (.int .i64 (nV s)) ∧ Drawn0 w w' := num_calls s hs w

/-- The result's block and v's. -/
def RB (w : World) (a b c : Int) (p m : ByteArray) (W : World) : Prop :=
  W.heap[w.heap.size]? = some (.cells #[.int .i64 0, .int .i64 0, .int .i64 0, .string ⟨#[]⟩, .string ⟨#[]⟩] 27 (0, 0)) ∧
  W.heap[w.heap.size + 1]? = some (.cells #[.int .i64 a, .int .i64 b, .int .i64 c, .string p, .string m] 27 (0, 0)) ∧ Below w.heap.size w W

theorem RB.kept {w W W' : World} {a b c : Int} {p m : ByteArray} (h : RB w a b c p m W) (hb : Below W.heap.size W W') : RB w a b c p m W' := by
  obtain ⟨h0, h1, h2⟩ := h
  have hl0 := (Array.getElem?_eq_some_iff.1 h0).1
  have hl1 := (Array.getElem?_eq_some_iff.1 h1).1
  exact ⟨(hb.block _ hl0).trans h0, (hb.block _ hl1).trans h1, h2.trans (hb.mono (by omega))⟩
theorem RB.drewN {w W : World} {a b c : Int} {p m : ByteArray} (h : RB w a b c p m W) (n : Nat) : RB w a b c p m (W.drewN n) := ⟨h.1, h.2.1, pw_below_drewN h.2.2 n⟩
theorem RB.st0 {w W : World} {a b c : Int} {p m : ByteArray} (h : RB w a b c p m W) (v : Int) : RB w v b c p m (W.setCell ⟨w.heap.size + 1, 0, none⟩ (.int .i64 v)) :=
  ⟨(sc_other W _ 0 _ _ (by omega)).trans h.1, heap_setCell_same W _ 0 _ _ _ h.2.1, h.2.2.setCell (p := ⟨w.heap.size + 1, 0, none⟩) (by show w.heap.size ≤ w.heap.size + 1; omega) _⟩
theorem RB.st1 {w W : World} {a b c : Int} {p m : ByteArray} (h : RB w a b c p m W) (v : Int) : RB w a v c p m (W.setCell ⟨w.heap.size + 1, 1, none⟩ (.int .i64 v)) :=
  ⟨(sc_other W _ 1 _ _ (by omega)).trans h.1, heap_setCell_same W _ 1 _ _ _ h.2.1, h.2.2.setCell (p := ⟨w.heap.size + 1, 1, none⟩) (by show w.heap.size ≤ w.heap.size + 1; omega) _⟩
theorem RB.st2 {w W : World} {a b c : Int} {p m : ByteArray} (h : RB w a b c p m W) (v : Int) : RB w a b v p m (W.setCell ⟨w.heap.size + 1, 2, none⟩ (.int .i64 v)) :=
  ⟨(sc_other W _ 2 _ _ (by omega)).trans h.1, heap_setCell_same W _ 2 _ _ _ h.2.1, h.2.2.setCell (p := ⟨w.heap.size + 1, 2, none⟩) (by show w.heap.size ≤ w.heap.size + 1; omega) _⟩
theorem RB.st3 {w W : World} {a b c : Int} {p m : ByteArray} (h : RB w a b c p m W) (v : ByteArray) : RB w a b c v m (W.setCell ⟨w.heap.size + 1, 3, none⟩ (.string v)) :=
  ⟨(sc_other W _ 3 _ _ (by omega)).trans h.1, heap_setCell_same W _ 3 _ _ _ h.2.1, h.2.2.setCell (p := ⟨w.heap.size + 1, 3, none⟩) (by show w.heap.size ≤ w.heap.size + 1; omega) _⟩
theorem RB.st4 {w W : World} {a b c : Int} {p m : ByteArray} (h : RB w a b c p m W) (v : ByteArray) : RB w a b c p v (W.setCell ⟨w.heap.size + 1, 4, none⟩ (.string v)) :=
  ⟨(sc_other W _ 4 _ _ (by omega)).trans h.1, heap_setCell_same W _ 4 _ _ _ h.2.1, h.2.2.setCell (p := ⟨w.heap.size + 1, 4, none⟩) (by show w.heap.size ≤ w.heap.size + 1; omega) _⟩
theorem RB.cell {w W : World} {a b c : Int} {p m : ByteArray} (h : RB w a b c p m W) (j : Nat) : W.cell? ⟨w.heap.size + 1, j, none⟩ = #[.int .i64 a, .int .i64 b, .int .i64 c, .string p, .string m][j]? := cell_of_row _ _ j _ _ _ h.2.1
theorem RB.frozen {w W : World} {a b c : Int} {p m : ByteArray} (h : RB w a b c p m W) (j : Nat) : W.frozen? ⟨w.heap.size + 1, j, none⟩ = false := by simp [World.frozen?, h.2.1]
theorem RB.cell0 {w W : World} {a b c : Int} {p m : ByteArray} (h : RB w a b c p m W) (j : Nat) : W.cell? ⟨w.heap.size, j, none⟩ = #[.int .i64 0, .int .i64 0, .int .i64 0, .string ⟨#[]⟩, .string ⟨#[]⟩][j]? := cell_of_row _ _ j _ _ _ h.1
theorem RB.frozen0 {w W : World} {a b c : Int} {p m : ByteArray} (h : RB w a b c p m W) (j : Nat) : W.frozen? ⟨w.heap.size, j, none⟩ = false := by simp [World.frozen?, h.1]
/-- What a call leaves that has told the result's parts. -/
def fin5 (W : World) (x : Nat) (a b c p m : Value) : World := ((((W.setCell ⟨x, 0, none⟩ a).setCell ⟨x, 1, none⟩ b).setCell ⟨x, 2, none⟩ c).setCell ⟨x, 3, none⟩ p).setCell ⟨x, 4, none⟩ m
theorem RB.fin {w W : World} {a b c : Int} {p m : ByteArray} (h : RB w a b c p m W) (a' b' c' p' m' : Value) :
    (fin5 W w.heap.size a' b' c' p' m').heap[w.heap.size]? = some (.cells #[a', b', c', p', m'] 27 (0, 0)) ∧ Below w.heap.size w (fin5 W w.heap.size a' b' c' p' m') := by
  obtain ⟨h1, h2⟩ := fin_world W w.heap.size a' b' c' p' m' _ _ _ _ _ _ h.1
  exact ⟨h1, ((((h.2.2.setCell (p := ⟨w.heap.size, 0, none⟩) (Nat.le_refl _) _).setCell (p := ⟨w.heap.size, 1, none⟩) (Nat.le_refl _) _).setCell (p := ⟨w.heap.size, 2, none⟩) (Nat.le_refl _) _).setCell (p := ⟨w.heap.size, 3, none⟩) (Nat.le_refl _) _).setCell (p := ⟨w.heap.size, 4, none⟩) (Nat.le_refl _) _⟩

set_option maxRecDepth 100000 in
set_option maxHeartbeats 4000000 in
theorem RefParse_calls (s : ByteArray) (hs : s.size ≤ 140737488351232) (w : World) :
    Calls Tryd.prog 12 #[.string s] w fun e w' => e = .returned (.tuple #[.agg #[.int .i64 (parseF s).1, .int .i64 (parseF s).2.1, .int .i64 (parseF s).2.2.1, .string (parseF s).2.2.2.1, .string (parseF s).2.2.2.2.1], .int .i64 (parseF s).2.2.2.2.2]) ∧ Below w.heap.size w w' := by
  have hu := Tryd.underlying27
  by_cases h1 : (L s).head? = some 118 ∧ s.size ≤ 60
  · have hlt0 : 0 < (L s).length := by cases h : L s with | nil => rw [h] at h1; cases h1.1 | cons _ _ => exact Nat.succ_pos _
    have hh : (L s)[0] = 118 := by
      have := h1.1
      rw [List.head?_eq_getElem?, List.getElem?_eq_getElem hlt0] at this
      exact Option.some.inj this
    have hs1 : 1 ≤ s.size := by rw [L_length] at hlt0; exact hlt0
    have hs60 := h1.2
    have hbt : ∀ h : 0 < s.size, ((s[0]'h).toNat : Int) = 118 := fun h => by
      have h2 := bt_at s 0
      have h3 := (bt_ne (s := s) hlt0 118).2 hh
      exact (h2 h).trans h3
    have hpf : parseF s = bodyF (s.extract 1 s.size) := by
      unfold parseF bodyF
      by_cases hk : ok4 (s.extract 1 s.size) = true
      · rw [if_pos ⟨h1.1, h1.2, hk⟩, if_pos hk]
      · rw [if_neg (fun h => hk h.2.2), if_neg hk]
    obtain ⟨r, hr⟩ : ∃ r, s.extract 1 s.size = r := ⟨_, rfl⟩
    have hrs : r.size ≤ 60 := by rw [← hr, ByteArray.size_extract]; omega
    rw [hpf, hr]
    have d1 : decide ((s.size : Int) < 1) = false := decide_eq_false (by omega)
    have d2 : decide ((60 : Int) < (s.size : Int)) = false := decide_eq_false (by omega)
    have HS60 := Aside0.mk hs60
    clear hpf h1 hh hlt0 hs60
    go_enter Tryd.func12, Tryd.ntmps12
    go_wp2_with fail
    clear hbt hr
    obtain ⟨o, f1, f2, f3, f4, f5⟩ := ref_cut 43 r (by omega) 100 (by omega)
    refine (BRef.graftbedref03_find.calls 100 r 43 (o : Int) _ f1).mono ?_
    rintro e w' ⟨rfl, ⟨n1, rfl⟩⟩
    have hst : RB w 0 0 0 ⟨#[]⟩ ⟨#[]⟩ (((w.alloc (.cells #[.int .i64 0, .int .i64 0, .int .i64 0, .string ⟨#[]⟩, .string ⟨#[]⟩] 27)).alloc (.cells #[.int .i64 0, .int .i64 0, .int .i64 0, .string ⟨#[]⟩, .string ⟨#[]⟩] 27)).drewN n1) := by
      refine RB.drewN ⟨(Below.heap_alloc _ _ _ (by simp)).trans (World.alloc_heap_new w _), ?_, ((Below.refl _ w).alloc (Nat.le_refl _) _).alloc (by simp) _⟩ n1
      have := World.alloc_heap_new (w.alloc (.cells #[.int .i64 0, .int .i64 0, .int .i64 0, .string ⟨#[]⟩, .string ⟨#[]⟩] 27)) (.cells #[.int .i64 0, .int .i64 0, .int .i64 0, .string ⟨#[]⟩, .string ⟨#[]⟩] 27)
      simpa using this
    generalize ((w.alloc (.cells #[.int .i64 0, .int .i64 0, .int .i64 0, .string ⟨#[]⟩, .string ⟨#[]⟩] 27)).alloc (.cells #[.int .i64 0, .int .i64 0, .int .i64 0, .string ⟨#[]⟩, .string ⟨#[]⟩] 27)).drewN n1 = W at hst ⊢
    have HST := Aside0.mk hst
    have HF4 := Aside0.mk f4
    have HF5 := Aside0.mk f5
    have HF3 := Aside0.mk f3
    clear hst f1 f3 f4 f5 HS60 d1 d2
    go_upto_if 30 with fail
    go_cut [] (fun wc => Aside0 (RB w 0 0 0 ⟨#[]⟩ (metaOf r) wc) ∧ Aside0 ((split 46 (metaOf r)).all (metaB (hasMeta r)) = true))
    case first =>
      cases hF : cutF 43 r with
      | true =>
        obtain ⟨g1, g2⟩ := HF4.out hF
        have d30 : decide (o < r.size) = true := decide_eq_true g1
        have hc := HST.out.cell 4
        have hf := HST.out.frozen 4
        have hn1 := HST.out.st4 (cutB 43 r)
        have hbl := cutB_le 43 r
        have HI := Aside0.mk (ids_calls (cutB 43 r) (by omega) false (W.setCell ⟨w.heap.size + 1, 4, none⟩ (.string (cutB 43 r))))
        have HN1 := Aside0.mk hn1
        have HM : Aside0 (metaOf r = cutB 43 r ∧ hasMeta r = true) := ⟨rfl, hF⟩
        clear hF hn1
        go_wp2_with fail
        refine HI.out.mono ?_
        rintro e w' ⟨rfl, hb⟩
        have hn2 := HN1.out.kept hb
        cases hA : (split 46 (cutB 43 r)).all (strictB false) with
        | true =>
          have HN2 := Aside0.mk hn2
          clear hn2
          go_wp2_with fail
          go_meet
          case rel => exact ⟨⟨by rw [HM.out.1]; exact HN2.out⟩, ⟨by rw [HM.out.2, HM.out.1, show metaB true = strictB false from (funext fun e => (by unfold strictB metaB; simp)), hA]⟩⟩
        | false =>
          have hd0 := hn2.cell0 0
          have hd1 := hn2.cell0 1
          have hd2 := hn2.cell0 2
          have hd3 := hn2.cell0 3
          have hd4 := hn2.cell0 4
          have he0 := hn2.frozen0 0
          have he1 := hn2.frozen0 1
          have he2 := hn2.frozen0 2
          have he3 := hn2.frozen0 3
          have he4 := hn2.frozen0 4
          have hbo : bodyF r = (0, 0, 0, ⟨#[]⟩, ⟨#[]⟩, 30) := by
            unfold bodyF ok4
            rw [HM.out.2, HM.out.1, show metaB true = strictB false from (funext fun e => (by unfold strictB metaB; simp)), hA, Bool.and_false, if_neg (by decide)]
          have HBO := Aside0.mk hbo
          have HN2 := Aside0.mk hn2
          clear hn2 hbo
          go_wp2_with fail
          obtain ⟨HZ, HB⟩ := HN2.out.fin (.int .i64 0) (.int .i64 0) (.int .i64 0) (.string ⟨#[]⟩) (.string ⟨#[]⟩)
          refine ⟨rfl, _, results_ct rfl _ _ w.heap.size 27 #[.int .i64 0, .int .i64 0, .int .i64 0, .string ⟨#[]⟩, .string ⟨#[]⟩] (0, 0) _ rfl HZ Tryd.underlying27 rfl (by kernel_rfl), ?_, HB⟩
          rw [HBO.out]; rfl
      | false =>
        obtain ⟨g1, g2⟩ := HF5.out hF
        have d30 : decide (o < r.size) = false := decide_eq_false (by omega)
        go_wp2_with fail
        go_meet
        case rel =>
          refine ⟨⟨?_⟩, ⟨?_⟩⟩
          · rw [show metaOf r = ⟨#[]⟩ from g2]; exact HST.out
          · rw [show hasMeta r = false from hF]; exact List.all_eq_true.2 (fun _ _ => rfl)
    case rest =>
      obtain ⟨HR, HM⟩ := hcut
      clear HF4 HF5 HST
      have hq := HF3.out
      clear HF3
      go_wp2_with fail
      have hys : (cutA 43 r).size ≤ 60 := by have := cutA_le 43 r; omega
      clear hq
      obtain ⟨y, hy⟩ : ∃ y, cutA 43 r = y := ⟨_, rfl⟩
      have HPO : Aside0 (preOf r = cutB 45 y ∧ hasPre r = cutF 45 y ∧ restOf r = cutA 45 y) := by unfold preOf hasPre restOf; rw [hy]; exact ⟨⟨rfl, rfl, rfl⟩⟩
      rw [hy] at hys ⊢
      clear hy
      obtain ⟨o2, f1, f22, f3, f4, f5⟩ := ref_cut 45 y (by omega) 100 (by omega)
      refine (BRef.graftbedref03_find.calls 100 y 45 (o2 : Int) _ f1).mono ?_
      rintro e w' ⟨rfl, ⟨n2, rfl⟩⟩
      have hst := HR.out.drewN n2
      generalize wc.drewN n2 = W1 at hst ⊢
      have HST := Aside0.mk hst
      have HF4 := Aside0.mk f4
      have HF5 := Aside0.mk f5
      have HF3 := Aside0.mk f3
      clear hst f1 f3 f4 f5 HR
      go_upto_if 49 with fail
      go_cut [] (fun wc2 => Aside0 (RB w 0 0 0 (preOf r) (metaOf r) wc2) ∧ Aside0 ((split 46 (preOf r)).all (preB (hasPre r)) = true))
      case first =>
        cases hF : cutF 45 y with
        | true =>
          obtain ⟨g1, g2⟩ := HF4.out hF
          have d30 : decide (o2 < y.size) = true := decide_eq_true g1
          have hc := HST.out.cell 3
          have hf := HST.out.frozen 3
          have hn1 := HST.out.st3 (cutB 45 y)
          have hbl := cutB_le 45 y
          have HI := Aside0.mk (ids_calls (cutB 45 y) (by omega) true (W1.setCell ⟨w.heap.size + 1, 3, none⟩ (.string (cutB 45 y))))
          have HN1 := Aside0.mk hn1
          have HM2 : Aside0 (preOf r = cutB 45 y ∧ hasPre r = true) := ⟨HPO.out.1, HPO.out.2.1.trans hF⟩
          clear hF hn1
          go_wp2_with fail
          refine HI.out.mono ?_
          rintro e w' ⟨rfl, hb⟩
          have hn2 := HN1.out.kept hb
          cases hA : (split 46 (cutB 45 y)).all (strictB true) with
          | true =>
            have HN2 := Aside0.mk hn2
            clear hn2
            go_wp2_with fail
            go_meet
            case rel => exact ⟨⟨by rw [HM2.out.1]; exact HN2.out⟩, ⟨by rw [HM2.out.2, HM2.out.1, show preB true = strictB true from (funext fun e => (by unfold strictB preB; simp)), hA]⟩⟩
          | false =>
            have hd0 := hn2.cell0 0
            have hd1 := hn2.cell0 1
            have hd2 := hn2.cell0 2
            have hd3 := hn2.cell0 3
            have hd4 := hn2.cell0 4
            have he0 := hn2.frozen0 0
            have he1 := hn2.frozen0 1
            have he2 := hn2.frozen0 2
            have he3 := hn2.frozen0 3
            have he4 := hn2.frozen0 4
            have hbo : bodyF r = (0, 0, 0, ⟨#[]⟩, ⟨#[]⟩, 30) := by
              unfold bodyF ok4 ok3
              rw [HM2.out.2, HM2.out.1, show preB true = strictB true from (funext fun e => (by unfold strictB preB; simp)), hA, Bool.and_false, Bool.false_and, if_neg (by decide)]
            have HBO := Aside0.mk hbo
            have HN2 := Aside0.mk hn2
            clear hn2 hbo
            go_wp2_with fail
            obtain ⟨HZ, HB⟩ := HN2.out.fin (.int .i64 0) (.int .i64 0) (.int .i64 0) (.string ⟨#[]⟩) (.string ⟨#[]⟩)
            refine ⟨rfl, _, results_ct rfl _ _ w.heap.size 27 #[.int .i64 0, .int .i64 0, .int .i64 0, .string ⟨#[]⟩, .string ⟨#[]⟩] (0, 0) _ rfl HZ Tryd.underlying27 rfl (by kernel_rfl), ?_, HB⟩
            rw [HBO.out]; rfl
        | false =>
          obtain ⟨g1, g2⟩ := HF5.out hF
          have d30 : decide (o2 < y.size) = false := decide_eq_false (by omega)
          go_wp2_with fail
          go_meet
          case rel =>
            refine ⟨⟨?_⟩, ⟨?_⟩⟩
            · rw [show preOf r = ⟨#[]⟩ from HPO.out.1.trans g2]; exact HST.out
            · rw [show hasPre r = false from HPO.out.2.1.trans hF]; exact List.all_eq_true.2 (fun _ _ => rfl)
      case rest =>

        obtain ⟨HR, HM2⟩ := hcut
        clear HF4 HF5 HST
        have hq := HF3.out
        have HX : Aside0 (restOf r = cutA 45 y) := ⟨HPO.out.2.2⟩
        clear HF3 HPO
        go_wp2_with fail
        have hxs : (cutA 45 y).size ≤ 60 := by have := cutA_le 45 y; omega
        clear hq
        refine (BRef.graftbedref03_Split.calls 100 (cutA 45 y) 46 (split 46 (cutA 45 y)) _ (ref_split 46 (cutA 45 y) (by omega) 100 (by omega))).mono ?_
        rintro e W2 ⟨v0, rfl, hR, hb⟩
        have hst := HR.out.kept hb
        have hlt1 := (Array.getElem?_eq_some_iff.1 HR.out.2.1).1
        obtain ⟨A, cap, hv⟩ := Kd.R_slice hR
        subst hv
        have hlen := split_length (cutA 45 y)
        have hln := split_len (cutA 45 y)
        by_cases h3 : Lib.countByte (cutA 45 y).data.toList 46 = 2
        · obtain ⟨x0, x1, x2, hxe⟩ : ∃ x0 x1 x2, split 46 (cutA 45 y) = [x0, x1, x2] := by
            rw [h3] at hlen
            match split 46 (cutA 45 y), hlen with
            | [a, b, c], _ => exact ⟨a, b, c, rfl⟩
          have ho1 : ok1 r = true := by unfold ok1; rw [HX.out, h3]; rfl
          have HXE : Aside0 (split 46 (restOf r) = [x0, x1, x2] ∧ ok1 r = true) := ⟨by rw [HX.out, hxe], ho1⟩
          rw [hxe] at hR hln ⊢
          have hz0 := hln x0 (by simp)
          have hz1 := hln x1 (by simp)
          have hz2 := hln x2 (by simp)
          obtain ⟨ad, cap', hv⟩ := Kd.R_slice1 hR (by simp)
          injection hv with hA hc1 hc2
          subst hA
          clear hc1 hc2 cap'
          obtain ⟨g, rfl⟩ := Kd.R_head hR
          have hne : ∀ k, (True ∧ wc.heap.size ≤ k ∧ k < W2.heap.size ∧ ∃ q, q ∈ 9 :: Kd.string.E ∧ ∃ cells, W2.heap[k]? = some (.cells cells q (0, 0))) → k ≠ w.heap.size + 1 := fun k hk => by have := hk.2.1; omega
          have hR2 := Kd.R_bound hR
          obtain ⟨okk, hok⟩ : ∃ okk : Nat → Prop, (fun k => True ∧ wc.heap.size ≤ k ∧ k < W2.heap.size ∧ ∃ q, q ∈ 9 :: Kd.string.E ∧ ∃ cells, W2.heap[k]? = some (.cells cells q (0, 0))) = okk := ⟨_, rfl⟩
          rw [hok] at hR2
          have hne2 : ∀ k, okk k → k ≠ w.heap.size + 1 := fun k hk => hne k (by rw [← hok] at hk; exact hk)
          clear hne hok hxe hlen hln h3 hR ho1 hb HR
          have HR := Aside0.mk hR2
          have HS := Aside0.mk hst
          have q0 := (Kd.R_cell ByteArray.empty hR2 0 (by simp) (by simp)).1
          rw [show rdOf ByteArray.empty [x0, x1, x2] 0 = x0 from rfl, show ((0 : Int)).toNat = 0 from rfl] at q0
          have hc := hst.cell 0
          have hf := hst.frozen 0
          have HN := fun W => Aside0.mk (num_calls' x0 (by omega) W)
          have HN1 := fun W => Aside0.mk (num_calls' x1 (by omega) W)
          have HN2 := fun W => Aside0.mk (num_calls' x2 (by omega) W)
          clear hst hR2
          have HNE := Aside0.mk hne2
          clear hne2 hys hxs hz0 hz1 hz2
          go_wp2_with fail
          refine (HN _).out.mono ?_
          rintro e w' ⟨rfl, ⟨n3, rfl⟩⟩
          go_upto_region 20 with fail
          have hR3 := Kd.R_far (Kd.R_drewN HR.out n3) (p := ⟨w.heap.size + 1, 0, none⟩) HNE.out (.int .i64 (nV x0))
          have hS3 := (HS.out.drewN n3).st0 (nV x0)
          clear q0 hc hf HR HS
          generalize ((W2.drewN n3).setCell ⟨w.heap.size + 1, 0, none⟩ (.int .i64 (nV x0))) = W3 at hR3 hS3 ⊢
          have HR := Aside0.mk hR3
          have HS := Aside0.mk hS3
          have q0 := (Kd.R_cell ByteArray.empty hR3 1 (by simp) (by simp)).1
          rw [show rdOf ByteArray.empty [x0, x1, x2] 1 = x1 from rfl, show ((1 : Int)).toNat = 1 from rfl] at q0
          have hc := hS3.cell 1
          have hf := hS3.frozen 1
          clear hR3 hS3
          go_wp2_with fail
          refine (HN1 _).out.mono ?_
          rintro e w' ⟨rfl, ⟨n4, rfl⟩⟩
          go_upto_region 21 with fail
          have hR4 := Kd.R_far (Kd.R_drewN HR.out n4) (p := ⟨w.heap.size + 1, 1, none⟩) HNE.out (.int .i64 (nV x1))
          have hS4 := (HS.out.drewN n4).st1 (nV x1)
          clear q0 hc hf HR HS
          generalize ((W3.drewN n4).setCell ⟨w.heap.size + 1, 1, none⟩ (.int .i64 (nV x1))) = W4 at hR4 hS4 ⊢
          have HR := Aside0.mk hR4
          have HS := Aside0.mk hS4
          have q0 := (Kd.R_cell ByteArray.empty hR4 2 (by simp) (by simp)).1
          rw [show rdOf ByteArray.empty [x0, x1, x2] 2 = x2 from rfl, show ((2 : Int)).toNat = 2 from rfl] at q0
          have hc := hS4.cell 2
          have hf := hS4.frozen 2
          clear hR4 hS4
          go_wp2_with fail
          refine (HN2 _).out.mono ?_
          rintro e w' ⟨rfl, ⟨n5, rfl⟩⟩
          go_upto_region 22 with fail
          have hR5 := Kd.R_far (Kd.R_drewN HR.out n5) (p := ⟨w.heap.size + 1, 2, none⟩) HNE.out (.int .i64 (nV x2))
          have hS5 := (HS.out.drewN n5).st2 (nV x2)
          clear q0 hc hf HR HS
          generalize ((W4.drewN n5).setCell ⟨w.heap.size + 1, 2, none⟩ (.int .i64 (nV x2))) = W5 at hR5 hS5 ⊢
          have HR := Aside0.mk hR5
          have HS := Aside0.mk hS5
          have hk0 := hS5.cell 0
          have hk1 := hS5.cell 1
          have hk2 := hS5.cell 2
          clear hR5 hS5 HR HN HN1 HN2 HNE
          by_cases hv : nV x0 < 0
          · have dv0 : decide (nV x0 < 0) = true := decide_eq_true hv
            have HBO : Aside0 (bodyF r = (0, 0, 0, ⟨#[]⟩, ⟨#[]⟩, 30)) := ⟨by
              have hv := (nV_neg x0).1 hv
              unfold bodyF ok4 ok3 ok2
              rw [HXE.out.1, if_neg (by simp [List.all_cons, hv])]⟩
            clear hv
            have hd0 := HS.out.cell0 0
            have hd1 := HS.out.cell0 1
            have hd2 := HS.out.cell0 2
            have hd3 := HS.out.cell0 3
            have hd4 := HS.out.cell0 4
            have he0 := HS.out.frozen0 0
            have he1 := HS.out.frozen0 1
            have he2 := HS.out.frozen0 2
            have he3 := HS.out.frozen0 3
            have he4 := HS.out.frozen0 4
            go_wp2_with fail
            obtain ⟨HZ, HB⟩ := HS.out.fin (.int .i64 0) (.int .i64 0) (.int .i64 0) (.string ⟨#[]⟩) (.string ⟨#[]⟩)
            refine ⟨rfl, _, results_ct rfl _ _ w.heap.size 27 #[.int .i64 0, .int .i64 0, .int .i64 0, .string ⟨#[]⟩, .string ⟨#[]⟩] (0, 0) _ rfl HZ Tryd.underlying27 rfl (by kernel_rfl), ?_, HB⟩
            rw [HBO.out]; rfl
          · have dv0 : decide (nV x0 < 0) = false := decide_eq_false hv
            have HV0 := Aside0.mk (nV_pos hv)
            clear hv
            by_cases hv : nV x1 < 0
            · have dv1 : decide (nV x1 < 0) = true := decide_eq_true hv
              have HBO : Aside0 (bodyF r = (0, 0, 0, ⟨#[]⟩, ⟨#[]⟩, 30)) := ⟨by
                have hv := (nV_neg x1).1 hv
                unfold bodyF ok4 ok3 ok2
                rw [HXE.out.1, if_neg (by simp [List.all_cons, hv])]⟩
              clear hv
              have hd0 := HS.out.cell0 0
              have hd1 := HS.out.cell0 1
              have hd2 := HS.out.cell0 2
              have hd3 := HS.out.cell0 3
              have hd4 := HS.out.cell0 4
              have he0 := HS.out.frozen0 0
              have he1 := HS.out.frozen0 1
              have he2 := HS.out.frozen0 2
              have he3 := HS.out.frozen0 3
              have he4 := HS.out.frozen0 4
              go_wp2_with fail
              obtain ⟨HZ, HB⟩ := HS.out.fin (.int .i64 0) (.int .i64 0) (.int .i64 0) (.string ⟨#[]⟩) (.string ⟨#[]⟩)
              refine ⟨rfl, _, results_ct rfl _ _ w.heap.size 27 #[.int .i64 0, .int .i64 0, .int .i64 0, .string ⟨#[]⟩, .string ⟨#[]⟩] (0, 0) _ rfl HZ Tryd.underlying27 rfl (by kernel_rfl), ?_, HB⟩
              rw [HBO.out]; rfl
            · have dv1 : decide (nV x1 < 0) = false := decide_eq_false hv
              have HV1 := Aside0.mk (nV_pos hv)
              clear hv
              by_cases hv : nV x2 < 0
              · have dv2 : decide (nV x2 < 0) = true := decide_eq_true hv
                have HBO : Aside0 (bodyF r = (0, 0, 0, ⟨#[]⟩, ⟨#[]⟩, 30)) := ⟨by
                  have hv := (nV_neg x2).1 hv
                  unfold bodyF ok4 ok3 ok2
                  rw [HXE.out.1, if_neg (by simp [List.all_cons, hv])]⟩
                clear hv
                have hd0 := HS.out.cell0 0
                have hd1 := HS.out.cell0 1
                have hd2 := HS.out.cell0 2
                have hd3 := HS.out.cell0 3
                have hd4 := HS.out.cell0 4
                have he0 := HS.out.frozen0 0
                have he1 := HS.out.frozen0 1
                have he2 := HS.out.frozen0 2
                have he3 := HS.out.frozen0 3
                have he4 := HS.out.frozen0 4
                go_wp2_with fail
                obtain ⟨HZ, HB⟩ := HS.out.fin (.int .i64 0) (.int .i64 0) (.int .i64 0) (.string ⟨#[]⟩) (.string ⟨#[]⟩)
                refine ⟨rfl, _, results_ct rfl _ _ w.heap.size 27 #[.int .i64 0, .int .i64 0, .int .i64 0, .string ⟨#[]⟩, .string ⟨#[]⟩] (0, 0) _ rfl HZ Tryd.underlying27 rfl (by kernel_rfl), ?_, HB⟩
                rw [HBO.out]; rfl
              · have dv2 : decide (nV x2 < 0) = false := decide_eq_false hv
                have HV2 := Aside0.mk (nV_pos hv)
                clear hv
                have HBO : Aside0 (bodyF r = (nV x0, nV x1, nV x2, preOf r, metaOf r, 0)) := ⟨by
                  unfold bodyF ok4 ok3 ok2 numAt
                  rw [HXE.out.1, HXE.out.2, HM.out, HM2.out, HV0.out.2, HV1.out.2, HV2.out.2, if_pos (by simp [List.all_cons, HV0.out.1, HV1.out.1, HV2.out.1])]
                  rfl⟩
                have hk3 := HS.out.cell 3
                have hk4 := HS.out.cell 4
                have hd0 := HS.out.cell0 0
                have hd1 := HS.out.cell0 1
                have hd2 := HS.out.cell0 2
                have hd3 := HS.out.cell0 3
                have hd4 := HS.out.cell0 4
                have he0 := HS.out.frozen0 0
                have he1 := HS.out.frozen0 1
                have he2 := HS.out.frozen0 2
                have he3 := HS.out.frozen0 3
                have he4 := HS.out.frozen0 4
                go_wp2_with fail
                obtain ⟨HZ, HB⟩ := HS.out.fin (.int .i64 (nV x0)) (.int .i64 (nV x1)) (.int .i64 (nV x2)) (.string (preOf r)) (.string (metaOf r))
                refine ⟨rfl, _, results_ct rfl _ _ w.heap.size 27 #[.int .i64 (nV x0), .int .i64 (nV x1), .int .i64 (nV x2), .string (preOf r), .string (metaOf r)] (0, 0) _ rfl HZ Tryd.underlying27 rfl (by kernel_rfl), ?_, HB⟩
                rw [HBO.out]; rfl
        · have hn3 : ¬ (split 46 (cutA 45 y)).length = 3 := by omega
          have d66 : decide ((split 46 (cutA 45 y)).length = 3) = false := decide_eq_false hn3
          have d67 : ((((split 46 (cutA 45 y)).length : Nat) : Int) == 3) = false := beq_eq_false_iff_ne.2 (by omega)
          have HBO : Aside0 (bodyF r = (0, 0, 0, ⟨#[]⟩, ⟨#[]⟩, 30)) := ⟨by
            unfold bodyF ok4 ok3 ok2 ok1
            rw [HX.out, show (((Lib.countByte (cutA 45 y).data.toList 46 : Nat) : Int) == 2) = false from beq_eq_false_iff_ne.2 (by omega), Bool.false_and, Bool.false_and, Bool.false_and, if_neg (by decide)]⟩
          have HS := Aside0.mk hst
          clear hst hR hlen hln h3 hn3 hb HR
          have hd0 := HS.out.cell0 0
          have hd1 := HS.out.cell0 1
          have hd2 := HS.out.cell0 2
          have hd3 := HS.out.cell0 3
          have hd4 := HS.out.cell0 4
          have he0 := HS.out.frozen0 0
          have he1 := HS.out.frozen0 1
          have he2 := HS.out.frozen0 2
          have he3 := HS.out.frozen0 3
          have he4 := HS.out.frozen0 4
          go_wp2_with fail
          obtain ⟨HZ, HB⟩ := HS.out.fin (.int .i64 0) (.int .i64 0) (.int .i64 0) (.string ⟨#[]⟩) (.string ⟨#[]⟩)
          refine ⟨rfl, _, results_ct rfl _ _ w.heap.size 27 #[.int .i64 0, .int .i64 0, .int .i64 0, .string ⟨#[]⟩, .string ⟨#[]⟩] (0, 0) _ rfl HZ Tryd.underlying27 rfl (by kernel_rfl), ?_, HB⟩
          rw [HBO.out]; rfl
  · have hpf : parseF s = (0, 0, 0, ⟨#[]⟩, ⟨#[]⟩, 30) := by
      unfold parseF
      rw [if_neg (fun h => h1 ⟨h.1, h.2.1⟩)]
    rw [hpf]
    go_enter Tryd.func12, Tryd.ntmps12
    have HB : Below w.heap.size w (w.alloc (.cells #[.int .i64 0, .int .i64 0, .int .i64 0, .string ⟨#[]⟩, .string ⟨#[]⟩] 27)) := (Below.refl _ w).alloc (Nat.le_refl _) _
    have HZ := World.alloc_heap_new w (.cells #[.int .i64 0, .int .i64 0, .int .i64 0, .string ⟨#[]⟩, .string ⟨#[]⟩] 27)
    by_cases c1 : s.size < 1
    · have d1 : decide ((s.size : Int) < 1) = true := decide_eq_true (by omega)
      clear h1 hpf c1
      go_wp2_with fail
      refine ⟨rfl, _, results_ct rfl _ _ w.heap.size 27 #[.int .i64 0, .int .i64 0, .int .i64 0, .string ⟨#[]⟩, .string ⟨#[]⟩] (0, 0) _ rfl HZ Tryd.underlying27 rfl (by kernel_rfl), ?_, HB⟩
      rfl
    · have d1 : decide ((s.size : Int) < 1) = false := decide_eq_false (by omega)
      by_cases c2 : s.size ≤ 60
      · have d2 : decide ((60 : Int) < (s.size : Int)) = false := decide_eq_false (by omega)
        have hlt0 : 0 < (L s).length := by rw [L_length]; omega
        have hne : (L s)[0] ≠ 118 := fun e => h1 ⟨by rw [List.head?_eq_getElem?, List.getElem?_eq_getElem hlt0, e], c2⟩
        have hb : (bt s 0 == 118) = false := beq_eq_false_iff_ne.2 (fun e => hne ((bt_ne (s := s) hlt0 118).1 e))
        have hs0 : (0 : Int) < s.size := by omega
        have hx7 : ∀ h : 0 < s.size, ((s[0]'h).toNat : Int) = bt s 0 := bt_at s 0
        have q7 : (0 < s.size) = True := eq_true (by omega)
        have qi7 : (0 < (s.size : Int)) = True := eq_true hs0
        clear h1 hpf c1 c2 hne hlt0 hs0
        go_wp2_with fail
        refine ⟨rfl, _, results_ct rfl _ _ w.heap.size 27 #[.int .i64 0, .int .i64 0, .int .i64 0, .string ⟨#[]⟩, .string ⟨#[]⟩] (0, 0) _ rfl HZ Tryd.underlying27 rfl (by kernel_rfl), ?_, HB⟩
        rfl
      · have d2 : decide ((60 : Int) < (s.size : Int)) = true := decide_eq_true (by omega)
        clear h1 hpf c1 c2
        go_wp2_with fail
        refine ⟨rfl, _, results_ct rfl _ _ w.heap.size 27 #[.int .i64 0, .int .i64 0, .int .i64 0, .string ⟨#[]⟩, .string ⟨#[]⟩] (0, 0) _ rfl HZ Tryd.underlying27 rfl (by kernel_rfl), ?_, HB⟩
        rfl

end Go.Proofs.YtaddonafdllciaaDoor.SemRefParse
