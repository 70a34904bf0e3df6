/- A number of a version: the walk. -/
import Derived.Test.YtaddonafdllciaaDoorSemParts
import Derived.Lib.AtoiErrMem
namespace Go.Proofs.YtaddonafdllciaaDoor.SemNum
open Go.RowKit Go.Shelf Go.Proofs.YtaddonafdllciaaDoor.Iter Go.Proofs.YtaddonafdllciaaDoor.BytesLib Go.Proofs.YtaddonafdllciaaDoor.SemParts Go.Proofs.YtaddonafdllciaaDoorW.PrintWords
set_option linter.unusedVariables false
set_option linter.unusedSimpArgs false
attribute [local go_sem] Oper.semAt_some

/-- May it be a number? -/
def numB (s : ByteArray) : Bool := everyB digB s && decide (s.size ≤ 9) && !noughtB s
/-- The number, and whether it is one. -/
def numF (s : ByteArray) : Int × Bool := if numB s = true then ((((Lib.decFrom 0 (L s)).getD 0 : Nat) : Int), true) else (0, false)

theorem dec_all : ∀ (l : List UInt8) (acc : Nat), l.all digB = true → ∃ n, Lib.decFrom acc l = some n
  | [], acc, _ => ⟨acc, rfl⟩
  | c :: l, acc, h => by
    rw [List.all_cons, Bool.and_eq_true] at h
    have hd : Lib.digitVal c = some (c.toNat - 48) := by
      have := h.1
      unfold digB at this
      rw [Bool.and_eq_true] at this
      unfold Lib.digitVal
      rw [if_pos ⟨of_decide_eq_true this.1, of_decide_eq_true this.2⟩]
    obtain ⟨n, hn⟩ := dec_all l (acc * 10 + (c.toNat - 48)) h.2
    exact ⟨n, by unfold Lib.decFrom; rw [hd]; exact hn⟩

theorem atoi_num {s : ByteArray} (h : everyB digB s = true) : ∃ n : Nat, Lib.decFrom 0 (L s) = some n ∧ Lib.atoi s.data.toList = some (n : Int) := by
  unfold everyB at h
  rw [Bool.and_eq_true] at h
  obtain ⟨n, hn⟩ := dec_all (L s) 0 h.1
  refine ⟨n, hn, ?_⟩
  show Lib.atoi (L s) = _
  cases hl : L s with
  | nil => rw [hl] at h; cases h.2
  | cons c l =>
    have hc := h.1
    rw [hl, List.all_cons, Bool.and_eq_true] at hc
    have hc := hc.1
    unfold digB at hc
    rw [Bool.and_eq_true] at hc
    have h1 := of_decide_eq_true hc.1
    have n45 : (c == 45) = false := by rw [beq_eq_false_iff_ne]; rintro rfl; simp at h1
    have n43 : (c == 43) = false := by rw [beq_eq_false_iff_ne]; rintro rfl; simp at h1
    show (if (c == 45) = true then (Lib.decNat l).map fun (m : Nat) => -(m : Int) else if (c == 43) = true then (Lib.decNat l).map fun (m : Nat) => (m : Int) else (Lib.decNat (c :: l)).map fun (m : Nat) => (m : Int)) = some (n : Int)
    rw [n45, n43, if_neg (by decide), if_neg (by decide)]
    unfold Lib.decNat
    rw [← hl, hn, hl]; rfl

set_option maxRecDepth 100000 in
set_option maxHeartbeats 4000000 in
theorem number_calls (s : ByteArray) (hs : s.size ≤ 140737488351232) (w : World) :
    Calls Tryd.prog 33 #[.string s] w fun e w' => e = .returned (.tuple #[.int .i64 (numF s).1, .bool (numF s).2]) ∧ Below w.heap.size w w' := by
  have HC := Aside0.mk (every_digit s hs w)
  have HN := fun W => Aside0.mk (nought_calls s hs W)
  have bad : numB s = false → numF s = (0, false) := fun h => by unfold numF; rw [h]; rfl
  cases h1 : everyB digB s with
  | false =>
    have hb := bad (by unfold numB; rw [h1]; rfl)
    rw [h1] at HC
    rw [hb]
    clear hb bad h1
    go_enter Tryd.func33, Tryd.ntmps33
    go_wp2_with fail
    refine HC.out.mono ?_
    rintro e w' ⟨rfl, ⟨nd, rfl⟩⟩
    go_wp2_with fail
    go_ret2
    exact ⟨rfl, pw_below_drewN (Below.refl _ _) _⟩
  | true =>
    by_cases h2 : s.size ≤ 9
    · cases h3 : noughtB s with
      | true =>
        have hb := bad (by unfold numB; rw [h3]; simp)
        rw [hb]
        have H1 := Aside0.mk h1
        have H3 := Aside0.mk h3
        clear hb bad h1 h3
        go_enter Tryd.func33, Tryd.ntmps33
        go_wp2_with fail
        refine HC.out.mono ?_
        rintro e w' ⟨he, ⟨nd, rfl⟩⟩
        rw [H1.out] at he
        subst he
        go_wp2_with fail
        refine (HN _).out.mono ?_
        rintro e w' ⟨he, ⟨nd2, rfl⟩⟩
        rw [H3.out] at he
        subst he
        go_wp2_with fail
        go_ret2
        exact ⟨rfl, pw_below_drewN (Below.refl _ _) _⟩
      | false =>
        have hg : numB s = true := by unfold numB; rw [h1, h3, decide_eq_true h2]; rfl
        obtain ⟨n, hn, ha⟩ := atoi_num h1
        have hv : numF s = ((n : Int), true) := by unfold numF; rw [if_pos hg, hn]; rfl
        rw [hv]
        have HA := fun W => Aside0.mk (Tryd.strconv_Atoi s n (by omega) ha W)
        have H1 := Aside0.mk h1
        have H3 := Aside0.mk h3
        clear bad h1 h3 hg hv ha hn
        go_enter Tryd.func33, Tryd.ntmps33
        go_wp2_with fail
        refine HC.out.mono ?_
        rintro e w' ⟨he, ⟨nd, rfl⟩⟩
        rw [H1.out] at he
        subst he
        go_wp2_with fail
        refine (HN _).out.mono ?_
        rintro e w' ⟨he, ⟨nd2, rfl⟩⟩
        rw [H3.out] at he
        subst he
        go_wp2_with fail
        refine (HA _).out.mono ?_
        rintro e w' ⟨rfl, ⟨t, hw⟩⟩
        have hb : Below w.heap.size w w' := by
          rw [hw]
          have hb2 : Below w.heap.size (w.drewN (nd + nd2)) (Lib.bytesWorld (w.drewN (nd + nd2)) 5 t) := Lib.bytesWorld_below (w.drewN (nd + nd2)) 5 t
          exact (pw_below_drewN (Below.refl _ _) _).trans hb2
        have HB := Aside0.mk hb
        clear hw hb
        go_wp2_with fail
        go_quiet (fail)
        go_wp2_with fail
        go_ret2
        exact ⟨rfl, pw_below_drewN HB.out _⟩
    · have hb := bad (by unfold numB; rw [decide_eq_false h2]; simp)
      rw [hb]
      have H1 := Aside0.mk h1
      clear hb bad h1
      go_enter Tryd.func33, Tryd.ntmps33
      go_wp2_with fail
      refine HC.out.mono ?_
      rintro e w' ⟨he, ⟨nd, rfl⟩⟩
      rw [H1.out] at he
      subst he
      go_wp2_with fail
      go_ret2
      exact ⟨rfl, pw_below_drewN (Below.refl _ _) _⟩

end Go.Proofs.YtaddonafdllciaaDoor.SemNum
