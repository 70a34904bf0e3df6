/- How a text is matched by a list of pieces: the walk. -/
import Derived.Test.YtjcopbgbmokfmaaGlobLib
import Derived.Test.YtjcopbgbmokfmaaBytesLib
import Derived.Test.YtjcopbgbmokfmaaWMore
import Derived.Test.YtjcopbgbmokfmaaBFnsx
import Derived.Test.YtjcopbgbmokfmaaShelf
import Derived.WalkSmall
import Derived.Outline
import Derived.Deep.QuietTactic
import Derived.BigQuiet
namespace Go.Proofs.Ytjcopbgbmokfmaa.GlobMatch
open Go.RowKit Go.Shelf Go.Proofs.Ytjcopbgbmokfmaa.GlobLib Go.Proofs.Ytjcopbgbmokfmaa.BytesLib Go.Proofs.YtjcopbgbmokfmaaW.PrintWords
set_option linter.unusedVariables false
set_option linter.unusedSimpArgs false
attribute [local go_sem] Oper.semAt_some

theorem L_at (s : ByteArray) (i : Nat) (h : i < s.size) : (L s)[i]? = some (s[i]'h) := by
  rw [List.getElem?_eq_getElem (by rw [L_length]; exact h)]; rfl

theorem int_ne (c d : UInt8) : ((c.toNat : Int) != (d.toNat : Int)) = (c != d) := by
  by_cases h : c = d
  · subst h; simp
  · rw [bne_iff_ne.2 h, bne_iff_ne]
    intro e
    exact h (UInt8.toNat_inj.1 (by omega))
theorem int_eq (c d : UInt8) : ((c.toNat : Int) == (d.toNat : Int)) = (c == d) := by
  by_cases h : c = d
  · subst h; simp
  · rw [beq_eq_false_iff_ne.2 h, beq_eq_false_iff_ne]
    intro e
    exact h (UInt8.toNat_inj.1 (by omega))

theorem any_calls (c : UInt8) (w : World) : Calls Try.prog 21 #[.int .u8 c.toNat] w fun e w' => e = .returned (.bool (Pc.any.ok c)) ∧ Drawn0 w w' := by
  have h : Pc.any.ok c = ((c.toNat : Int) != 47) := (int_ne c 47).symm
  rw [h]
  clear h
  go_enter Try.func21, Try.ntmps21
  go_wp2
  go_ret
  exact ⟨rfl, Drawn0.refl _⟩

theorem byte_calls (b c : UInt8) (B : Nat) (w : World) (hB : w.cell? ⟨B, 0, none⟩ = some (.int .u8 b.toNat)) : Calls Try.prog 24 #[.int .u8 c.toNat, .pointer (some ⟨B, 0, none⟩)] w fun e w' => e = .returned (.bool ((Pc.byte b).ok c)) ∧ Drawn0 w w' := by
  have h : (Pc.byte b).ok c = ((c.toNat : Int) == (b.toNat : Int)) := (int_eq c b).symm
  rw [h]
  clear h
  go_enter Try.func24, Try.ntmps24
  go_wp2
  go_ret
  exact ⟨rfl, Drawn0.refl _⟩

theorem cls_calls (tab : Nat → Bool) (no : Bool) (c : UInt8) (B B2 : Nat) (w : World) (hB : ∀ j, j < 256 → w.cell? ⟨B, j, none⟩ = some (.bool (tab j))) (hB2 : w.cell? ⟨B2, 0, none⟩ = some (.bool no)) :
    Calls Try.prog 31 #[.int .u8 c.toNat, .pointer (some ⟨B, 0, none⟩), .pointer (some ⟨B2, 0, none⟩)] w fun e w' => e = .returned (.bool ((Pc.cls tab no).ok c)) ∧ Drawn0 w w' := by
  have hc := hB c.toNat c.toNat_lt
  have h : (Pc.cls tab no).ok c = (((c.toNat : Int) != 47) && (tab c.toNat != no)) := by
    show (c != 47 && _) = _
    rw [← int_ne c 47]; rfl
  have hlt : (c.toNat : Int) < 256 := by have := c.toNat_lt; omega
  rw [h]
  clear h hB
  by_cases h : ((c.toNat : Int) != 47) = true
  · rw [h]
    go_enter Try.func31, Try.ntmps31
    go_wp2
    go_quiet (fail)
    go_wp2
    go_ret
    exact ⟨by rw [Bool.true_and]; rfl, ⟨nq, rfl⟩⟩
  · rw [eq_false_of_ne_true h]
    have h := eq_false_of_ne_true h
    go_enter Try.func31, Try.ntmps31
    go_wp2
    go_quiet (fail)
    go_wp2
    go_ret
    exact ⟨by rw [Bool.false_and]; rfl, ⟨nq, rfl⟩⟩

/-- A piece's two words. -/
def PV (W : World) : Pc → Value → Value → Prop
  | .star, a, _ => a = .bool true
  | .any, a, b => a = .bool false ∧ b = .func (.func 21) #[] #[]
  | .byte c, a, b => a = .bool false ∧ ∃ B, b = .func (.func 24) #[] #[.pointer (some ⟨B, 0, none⟩)] ∧ W.cell? ⟨B, 0, none⟩ = some (.int .u8 c.toNat)
  | .cls tab no, a, b => a = .bool false ∧ ∃ B B2, b = .func (.func 31) #[] #[.pointer (some ⟨B, 0, none⟩), .pointer (some ⟨B2, 0, none⟩)] ∧ (∀ j, j < 256 → W.cell? ⟨B, j, none⟩ = some (.bool (tab j))) ∧ W.cell? ⟨B2, 0, none⟩ = some (.bool no)

/-- Where a list of pieces lies. -/
def Lies (W : World) (A : Option Addr) (l : List Pc) : Prop :=
  ∀ (k : Nat) (p : Pc), l[k]? = some p → ∃ g a b, A = some ⟨g, 0, none⟩ ∧ W.cell? ⟨g, k * 2, none⟩ = some a ∧ W.cell? ⟨g, k * 2 + 1, none⟩ = some b ∧ PV W p a b

theorem meas_star {S n bk i k : Nat} (h : bk ≤ i) (hk : k < n) : (S - i) * (n + 2) + (n - (k + 1)) < (S - bk) * (n + 2) + (n - k) := by
  have := Nat.mul_le_mul_right (n + 2) (show S - i ≤ S - bk by omega)
  omega
theorem meas_fit {S n bk k : Nat} (hk : k < n) : (S - bk) * (n + 2) + (n - (k + 1)) < (S - bk) * (n + 2) + (n - k) := by
  omega
theorem meas_back {S n bk k t : Nat} (h : bk < S) : (S - (bk + 1)) * (n + 2) + (n - (t + 1)) < (S - bk) * (n + 2) + (n - k) := by
  rw [show S - bk = (S - (bk + 1)) + 1 by omega, Nat.succ_mul]
  omega
theorem num_nat (n : Nat) : (intOf (.int .i64 (n : Int))).toNat = n := by simp [intOf]
theorem num_succ (n : Nat) : (intOf (.int .i64 ((n : Int) + 1))).toNat = n + 1 := by simp [intOf]

set_option maxRecDepth 100000 in
set_option maxHeartbeats 8000000 in
theorem matched_calls (l : List Pc) (s : ByteArray) (A : Option Addr) (c : Nat) (w : World) (hA : Lies w A l) (hl : l.length ≤ 140737488355328) (hs : s.size ≤ 140737488355328) :
    Calls Try.prog 15 #[.slice A l.length c, .string s] w fun e w' => e = .returned (.bool (mt l (L s))) ∧ Drawn0 w w' := by
  go_enter Try.func15, Try.ntmps15
  go_wp2
  go_loopw [5, 6, 7, 8] (fun vs vb vi vk wr => ∃ (st : Int) (bk i k m : Nat), vs = .int .i64 st ∧ vb = .int .i64 bk ∧ vi = .int .i64 i ∧ vk = .int .i64 k ∧ wr = w.drewN m ∧ i ≤ s.size ∧ k ≤ l.length ∧ bk ≤ i ∧ -1 ≤ st ∧ st < l.length ∧ Aside0 (Inv l (L s) ⟨st, bk, i, k⟩)) (fun vs vb vi vk _ => (s.size - (intOf vb).toNat) * (l.length + 2) + (l.length - (intOf vk).toNat))
  case atStart => exact ⟨-1, 0, 0, 0, 0, rfl, rfl, rfl, rfl, rfl, Nat.zero_le _, Nat.zero_le _, Nat.zero_le _, by omega, by omega, ⟨inv_start _ _⟩⟩
  case round =>
    obtain ⟨st, bk, i, k, m, rfl, rfl, rfl, rfl, rfl, hi, hk, hbk, hst1, hst2, HI⟩ := hrel
    by_cases hdone : i = s.size ∧ k = l.length
    · obtain ⟨rfl, rfl⟩ := hdone
      go_wp2
      have h := inv_done HI.out (L_length s).symm rfl
      go_ret
      exact ⟨by rw [h]; rfl, ⟨m, rfl⟩⟩
    · have hLs := L_length s
      by_cases hkl : k < l.length
      · have hp := List.getElem?_eq_getElem hkl
        obtain ⟨p, hp2⟩ : ∃ p, l[k] = p := ⟨_, rfl⟩
        rw [hp2] at hp
        clear hp2
        obtain ⟨g, a, b, rfl, hca, hcb, hpv⟩ := hA k p hp
        have hca' : (w.drewN m).cell? ⟨g, k * 2, none⟩ = some a := hca
        have hcb' : (w.drewN m).cell? ⟨g, k * 2 + 1, none⟩ = some b := hcb
        cases p with
        | star =>
          obtain rfl : a = .bool true := hpv
          have HN := Aside0.mk (inv_star HI.out hp)
          clear hp hcb hcb' hca hA HI
          by_cases hil : i < s.size
          all_goals
            go_wp2
            refine ⟨⟨(k : Int), i, i, k + 1, m, rfl, rfl, rfl, by push_cast; rfl, rfl, hi, hkl, Nat.le_refl _, by omega, by omega, HN⟩, ?_⟩
            rw [num_nat, num_nat, num_nat, num_succ]
            exact meas_star hbk hkl
        | any =>
          obtain ⟨rfl, rfl⟩ := hpv
          have hBs := hkl
          by_cases hil : i < s.size
          · have hat0 := L_at s i hil
            have hC : ∀ j, Calls Try.prog 21 #[.int .u8 s[i].toNat] (w.drewN (m + j)) (fun e w' => e = .returned (.bool ((Pc.any).ok s[i])) ∧ ∃ q, w' = w.drewN (m + q)) := fun j => (any_calls _ _).mono (fun _ _ ⟨h1, ⟨q, h2⟩⟩ => ⟨h1, j + q, by rw [h2, World.drewN_drewN, Nat.add_assoc]⟩)
            by_cases hok : (Pc.any).ok s[i] = true
            · have HN := Aside0.mk (inv_fit HI.out hp rfl hat0 hok)
              rw [hok] at hC
              clear hok hat0 hp HI hA hBs
              go_wp2; go_quiet (first | (exact hC _)); go_wp2
              refine ⟨⟨st, bk, i + 1, k + 1, m + nq, rfl, rfl, by push_cast; rfl, by push_cast; rfl, rfl, by omega, by omega, by omega, hst1, hst2, HN⟩, ?_⟩
              rw [num_nat, num_nat, num_succ]
              exact meas_fit hkl
            · have hno := GlobLib.stuck (s := L s) (i := i) (k := k) (by omega) hk (.inr hkl) (fun p e => by rw [hp] at e; cases e; rfl) (fun p c e1 e2 => by rw [hp] at e1; rw [hat0] at e2; cases e1; cases e2; exact eq_false_of_ne_true hok)
              rw [eq_false_of_ne_true hok] at hC
              clear hok hat0 hp hA hBs
              by_cases hs0 : 0 ≤ st
              · obtain ⟨n, rfl⟩ : ∃ n : Nat, st = (n : Int) := ⟨st.toNat, by omega⟩
                by_cases hb0 : bk < s.size
                · have hat := L_at s bk hb0
                  by_cases hsl : s[bk] = 47
                  · have hslb : ((s[bk].toNat : Int) != 47) = false := by rw [hsl]; rfl
                    have hslc : ((s[bk].toNat : Int) == 47) = true := by rw [hsl]; rfl
                    have HF := Aside0.mk (inv_fail HI.out hno (.inr (.inr (by rw [← hsl]; exact hat))))
                    clear hat hno HI hsl
                    go_wp2; go_quiet (first | (exact hC _)); go_wp2
                    go_ret
                    exact ⟨by rw [HF.out]; rfl, ⟨m + nq, rfl⟩⟩
                  · have hslb : ((s[bk].toNat : Int) != 47) = true := (int_ne (s[bk]) 47).trans (bne_iff_ne.2 hsl)
                    have hslc : ((s[bk].toNat : Int) == 47) = false := (int_eq (s[bk]) 47).trans (beq_eq_false_iff_ne.2 hsl)
                    have HN := Aside0.mk (inv_back (n := n) HI.out rfl hno hat hsl)
                    clear hat hno HI hsl
                    go_wp2; go_quiet (first | (exact hC _)); go_wp2
                    refine ⟨⟨(n : Int), bk + 1, bk + 1, n + 1, m + nq, rfl, by push_cast; rfl, by push_cast; rfl, by push_cast; rfl, rfl, by omega, by omega, Nat.le_refl _, hst1, hst2, HN⟩, ?_⟩
                    rw [num_nat, num_succ, num_nat, num_succ]
                    exact meas_back hb0
                · exact absurd (Nat.lt_of_le_of_lt hbk hil) hb0
              · obtain rfl : st = -1 := by omega
                have HF := Aside0.mk (inv_fail HI.out hno (.inl (by show (-1 : Int) < 0; omega)))
                clear hno HI
                go_wp2; go_quiet (first | (exact hC _)); go_wp2
                go_ret
                exact ⟨by rw [HF.out]; rfl, ⟨m + nq, rfl⟩⟩
          · have hno := GlobLib.stuck (s := L s) (i := i) (k := k) (by omega) hk (.inr hkl) (fun p e => by rw [hp] at e; cases e; rfl) (fun p c e1 e2 => by rw [List.getElem?_eq_none (by omega)] at e2; cases e2)
            clear hp hA hBs
            by_cases hs0 : 0 ≤ st
            · obtain ⟨n, rfl⟩ : ∃ n : Nat, st = (n : Int) := ⟨st.toNat, by omega⟩
              by_cases hb0 : bk < s.size
              · have hat := L_at s bk hb0
                by_cases hsl : s[bk] = 47
                · have hslb : ((s[bk].toNat : Int) != 47) = false := by rw [hsl]; rfl
                  have hslc : ((s[bk].toNat : Int) == 47) = true := by rw [hsl]; rfl
                  have HF := Aside0.mk (inv_fail HI.out hno (.inr (.inr (by rw [← hsl]; exact hat))))
                  clear hat hno HI hsl
                  go_wp2; go_quiet (fail); go_wp2
                  go_ret
                  exact ⟨by rw [HF.out]; rfl, ⟨m + nq, rfl⟩⟩
                · have hslb : ((s[bk].toNat : Int) != 47) = true := (int_ne (s[bk]) 47).trans (bne_iff_ne.2 hsl)
                  have hslc : ((s[bk].toNat : Int) == 47) = false := (int_eq (s[bk]) 47).trans (beq_eq_false_iff_ne.2 hsl)
                  have HN := Aside0.mk (inv_back (n := n) HI.out rfl hno hat hsl)
                  clear hat hno HI hsl
                  go_wp2; go_quiet (fail); go_wp2
                  refine ⟨⟨(n : Int), bk + 1, bk + 1, n + 1, m + nq, rfl, by push_cast; rfl, by push_cast; rfl, by push_cast; rfl, rfl, by omega, by omega, Nat.le_refl _, hst1, hst2, HN⟩, ?_⟩
                  rw [num_nat, num_succ, num_nat, num_succ]
                  exact meas_back hb0
              · have HF := Aside0.mk (inv_fail HI.out hno (.inr (.inl (by show (L s).length ≤ bk; omega))))
                clear hno HI
                go_wp2; go_quiet (fail); go_wp2
                go_ret
                exact ⟨by rw [HF.out]; rfl, ⟨m + nq, rfl⟩⟩
            · obtain rfl : st = -1 := by omega
              have HF := Aside0.mk (inv_fail HI.out hno (.inl (by show (-1 : Int) < 0; omega)))
              clear hno HI
              go_wp2; go_quiet (fail); go_wp2
              go_ret
              exact ⟨by rw [HF.out]; rfl, ⟨m + nq, rfl⟩⟩
        | byte b =>
          obtain ⟨rfl, B, rfl, hBs⟩ := hpv
          by_cases hil : i < s.size
          · have hat0 := L_at s i hil
            have hC : ∀ j, Calls Try.prog 24 #[.int .u8 s[i].toNat, .pointer (some ⟨B, 0, none⟩)] (w.drewN (m + j)) (fun e w' => e = .returned (.bool ((Pc.byte b).ok s[i])) ∧ ∃ q, w' = w.drewN (m + q)) := fun j => (byte_calls b _ B (w.drewN (m + j)) hBs).mono (fun _ _ ⟨h1, ⟨q, h2⟩⟩ => ⟨h1, j + q, by rw [h2, World.drewN_drewN, Nat.add_assoc]⟩)
            by_cases hok : (Pc.byte b).ok s[i] = true
            · have HN := Aside0.mk (inv_fit HI.out hp rfl hat0 hok)
              rw [hok] at hC
              clear hok hat0 hp HI hA hBs
              go_wp2; go_quiet (first | (exact hC _)); go_wp2
              refine ⟨⟨st, bk, i + 1, k + 1, m + nq, rfl, rfl, by push_cast; rfl, by push_cast; rfl, rfl, by omega, by omega, by omega, hst1, hst2, HN⟩, ?_⟩
              rw [num_nat, num_nat, num_succ]
              exact meas_fit hkl
            · have hno := GlobLib.stuck (s := L s) (i := i) (k := k) (by omega) hk (.inr hkl) (fun p e => by rw [hp] at e; cases e; rfl) (fun p c e1 e2 => by rw [hp] at e1; rw [hat0] at e2; cases e1; cases e2; exact eq_false_of_ne_true hok)
              rw [eq_false_of_ne_true hok] at hC
              clear hok hat0 hp hA hBs
              by_cases hs0 : 0 ≤ st
              · obtain ⟨n, rfl⟩ : ∃ n : Nat, st = (n : Int) := ⟨st.toNat, by omega⟩
                by_cases hb0 : bk < s.size
                · have hat := L_at s bk hb0
                  by_cases hsl : s[bk] = 47
                  · have hslb : ((s[bk].toNat : Int) != 47) = false := by rw [hsl]; rfl
                    have hslc : ((s[bk].toNat : Int) == 47) = true := by rw [hsl]; rfl
                    have HF := Aside0.mk (inv_fail HI.out hno (.inr (.inr (by rw [← hsl]; exact hat))))
                    clear hat hno HI hsl
                    go_wp2; go_quiet (first | (exact hC _)); go_wp2
                    go_ret
                    exact ⟨by rw [HF.out]; rfl, ⟨m + nq, rfl⟩⟩
                  · have hslb : ((s[bk].toNat : Int) != 47) = true := (int_ne (s[bk]) 47).trans (bne_iff_ne.2 hsl)
                    have hslc : ((s[bk].toNat : Int) == 47) = false := (int_eq (s[bk]) 47).trans (beq_eq_false_iff_ne.2 hsl)
                    have HN := Aside0.mk (inv_back (n := n) HI.out rfl hno hat hsl)
                    clear hat hno HI hsl
                    go_wp2; go_quiet (first | (exact hC _)); go_wp2
                    refine ⟨⟨(n : Int), bk + 1, bk + 1, n + 1, m + nq, rfl, by push_cast; rfl, by push_cast; rfl, by push_cast; rfl, rfl, by omega, by omega, Nat.le_refl _, hst1, hst2, HN⟩, ?_⟩
                    rw [num_nat, num_succ, num_nat, num_succ]
                    exact meas_back hb0
                · exact absurd (Nat.lt_of_le_of_lt hbk hil) hb0
              · obtain rfl : st = -1 := by omega
                have HF := Aside0.mk (inv_fail HI.out hno (.inl (by show (-1 : Int) < 0; omega)))
                clear hno HI
                go_wp2; go_quiet (first | (exact hC _)); go_wp2
                go_ret
                exact ⟨by rw [HF.out]; rfl, ⟨m + nq, rfl⟩⟩
          · have hno := GlobLib.stuck (s := L s) (i := i) (k := k) (by omega) hk (.inr hkl) (fun p e => by rw [hp] at e; cases e; rfl) (fun p c e1 e2 => by rw [List.getElem?_eq_none (by omega)] at e2; cases e2)
            clear hp hA hBs
            by_cases hs0 : 0 ≤ st
            · obtain ⟨n, rfl⟩ : ∃ n : Nat, st = (n : Int) := ⟨st.toNat, by omega⟩
              by_cases hb0 : bk < s.size
              · have hat := L_at s bk hb0
                by_cases hsl : s[bk] = 47
                · have hslb : ((s[bk].toNat : Int) != 47) = false := by rw [hsl]; rfl
                  have hslc : ((s[bk].toNat : Int) == 47) = true := by rw [hsl]; rfl
                  have HF := Aside0.mk (inv_fail HI.out hno (.inr (.inr (by rw [← hsl]; exact hat))))
                  clear hat hno HI hsl
                  go_wp2; go_quiet (fail); go_wp2
                  go_ret
                  exact ⟨by rw [HF.out]; rfl, ⟨m + nq, rfl⟩⟩
                · have hslb : ((s[bk].toNat : Int) != 47) = true := (int_ne (s[bk]) 47).trans (bne_iff_ne.2 hsl)
                  have hslc : ((s[bk].toNat : Int) == 47) = false := (int_eq (s[bk]) 47).trans (beq_eq_false_iff_ne.2 hsl)
                  have HN := Aside0.mk (inv_back (n := n) HI.out rfl hno hat hsl)
                  clear hat hno HI hsl
                  go_wp2; go_quiet (fail); go_wp2
                  refine ⟨⟨(n : Int), bk + 1, bk + 1, n + 1, m + nq, rfl, by push_cast; rfl, by push_cast; rfl, by push_cast; rfl, rfl, by omega, by omega, Nat.le_refl _, hst1, hst2, HN⟩, ?_⟩
                  rw [num_nat, num_succ, num_nat, num_succ]
                  exact meas_back hb0
              · have HF := Aside0.mk (inv_fail HI.out hno (.inr (.inl (by show (L s).length ≤ bk; omega))))
                clear hno HI
                go_wp2; go_quiet (fail); go_wp2
                go_ret
                exact ⟨by rw [HF.out]; rfl, ⟨m + nq, rfl⟩⟩
            · obtain rfl : st = -1 := by omega
              have HF := Aside0.mk (inv_fail HI.out hno (.inl (by show (-1 : Int) < 0; omega)))
              clear hno HI
              go_wp2; go_quiet (fail); go_wp2
              go_ret
              exact ⟨by rw [HF.out]; rfl, ⟨m + nq, rfl⟩⟩
        | cls tab no =>
          obtain ⟨rfl, B, B2, rfl, hBs, hBs2⟩ := hpv
          by_cases hil : i < s.size
          · have hat0 := L_at s i hil
            have hC : ∀ j, Calls Try.prog 31 #[.int .u8 s[i].toNat, .pointer (some ⟨B, 0, none⟩), .pointer (some ⟨B2, 0, none⟩)] (w.drewN (m + j)) (fun e w' => e = .returned (.bool ((Pc.cls tab no).ok s[i])) ∧ ∃ q, w' = w.drewN (m + q)) := fun j => (cls_calls tab no _ B B2 (w.drewN (m + j)) hBs hBs2).mono (fun _ _ ⟨h1, ⟨q, h2⟩⟩ => ⟨h1, j + q, by rw [h2, World.drewN_drewN, Nat.add_assoc]⟩)
            by_cases hok : (Pc.cls tab no).ok s[i] = true
            · have HN := Aside0.mk (inv_fit HI.out hp rfl hat0 hok)
              rw [hok] at hC
              clear hok hat0 hp HI hA hBs
              go_wp2; go_quiet (first | (exact hC _)); go_wp2
              refine ⟨⟨st, bk, i + 1, k + 1, m + nq, rfl, rfl, by push_cast; rfl, by push_cast; rfl, rfl, by omega, by omega, by omega, hst1, hst2, HN⟩, ?_⟩
              rw [num_nat, num_nat, num_succ]
              exact meas_fit hkl
            · have hno := GlobLib.stuck (s := L s) (i := i) (k := k) (by omega) hk (.inr hkl) (fun p e => by rw [hp] at e; cases e; rfl) (fun p c e1 e2 => by rw [hp] at e1; rw [hat0] at e2; cases e1; cases e2; exact eq_false_of_ne_true hok)
              rw [eq_false_of_ne_true hok] at hC
              clear hok hat0 hp hA hBs
              by_cases hs0 : 0 ≤ st
              · obtain ⟨n, rfl⟩ : ∃ n : Nat, st = (n : Int) := ⟨st.toNat, by omega⟩
                by_cases hb0 : bk < s.size
                · have hat := L_at s bk hb0
                  by_cases hsl : s[bk] = 47
                  · have hslb : ((s[bk].toNat : Int) != 47) = false := by rw [hsl]; rfl
                    have hslc : ((s[bk].toNat : Int) == 47) = true := by rw [hsl]; rfl
                    have HF := Aside0.mk (inv_fail HI.out hno (.inr (.inr (by rw [← hsl]; exact hat))))
                    clear hat hno HI hsl
                    go_wp2; go_quiet (first | (exact hC _)); go_wp2
                    go_ret
                    exact ⟨by rw [HF.out]; rfl, ⟨m + nq, rfl⟩⟩
                  · have hslb : ((s[bk].toNat : Int) != 47) = true := (int_ne (s[bk]) 47).trans (bne_iff_ne.2 hsl)
                    have hslc : ((s[bk].toNat : Int) == 47) = false := (int_eq (s[bk]) 47).trans (beq_eq_false_iff_ne.2 hsl)
                    have HN := Aside0.mk (inv_back (n := n) HI.out rfl hno hat hsl)
                    clear hat hno HI hsl
                    go_wp2; go_quiet (first | (exact hC _)); go_wp2
                    refine ⟨⟨(n : Int), bk + 1, bk + 1, n + 1, m + nq, rfl, by push_cast; rfl, by push_cast; rfl, by push_cast; rfl, rfl, by omega, by omega, Nat.le_refl _, hst1, hst2, HN⟩, ?_⟩
                    rw [num_nat, num_succ, num_nat, num_succ]
                    exact meas_back hb0
                · exact absurd (Nat.lt_of_le_of_lt hbk hil) hb0
              · obtain rfl : st = -1 := by omega
                have HF := Aside0.mk (inv_fail HI.out hno (.inl (by show (-1 : Int) < 0; omega)))
                clear hno HI
                go_wp2; go_quiet (first | (exact hC _)); go_wp2
                go_ret
                exact ⟨by rw [HF.out]; rfl, ⟨m + nq, rfl⟩⟩
          · have hno := GlobLib.stuck (s := L s) (i := i) (k := k) (by omega) hk (.inr hkl) (fun p e => by rw [hp] at e; cases e; rfl) (fun p c e1 e2 => by rw [List.getElem?_eq_none (by omega)] at e2; cases e2)
            clear hp hA hBs
            by_cases hs0 : 0 ≤ st
            · obtain ⟨n, rfl⟩ : ∃ n : Nat, st = (n : Int) := ⟨st.toNat, by omega⟩
              by_cases hb0 : bk < s.size
              · have hat := L_at s bk hb0
                by_cases hsl : s[bk] = 47
                · have hslb : ((s[bk].toNat : Int) != 47) = false := by rw [hsl]; rfl
                  have hslc : ((s[bk].toNat : Int) == 47) = true := by rw [hsl]; rfl
                  have HF := Aside0.mk (inv_fail HI.out hno (.inr (.inr (by rw [← hsl]; exact hat))))
                  clear hat hno HI hsl
                  go_wp2; go_quiet (fail); go_wp2
                  go_ret
                  exact ⟨by rw [HF.out]; rfl, ⟨m + nq, rfl⟩⟩
                · have hslb : ((s[bk].toNat : Int) != 47) = true := (int_ne (s[bk]) 47).trans (bne_iff_ne.2 hsl)
                  have hslc : ((s[bk].toNat : Int) == 47) = false := (int_eq (s[bk]) 47).trans (beq_eq_false_iff_ne.2 hsl)
                  have HN := Aside0.mk (inv_back (n := n) HI.out rfl hno hat hsl)
                  clear hat hno HI hsl
                  go_wp2; go_quiet (fail); go_wp2
                  refine ⟨⟨(n : Int), bk + 1, bk + 1, n + 1, m + nq, rfl, by push_cast; rfl, by push_cast; rfl, by push_cast; rfl, rfl, by omega, by omega, Nat.le_refl _, hst1, hst2, HN⟩, ?_⟩
                  rw [num_nat, num_succ, num_nat, num_succ]
                  exact meas_back hb0
              · have HF := Aside0.mk (inv_fail HI.out hno (.inr (.inl (by show (L s).length ≤ bk; omega))))
                clear hno HI
                go_wp2; go_quiet (fail); go_wp2
                go_ret
                exact ⟨by rw [HF.out]; rfl, ⟨m + nq, rfl⟩⟩
            · obtain rfl : st = -1 := by omega
              have HF := Aside0.mk (inv_fail HI.out hno (.inl (by show (-1 : Int) < 0; omega)))
              clear hno HI
              go_wp2; go_quiet (fail); go_wp2
              go_ret
              exact ⟨by rw [HF.out]; rfl, ⟨m + nq, rfl⟩⟩
      · have hil : i < s.size := by omega
        have hno := GlobLib.stuck (s := L s) (i := i) (k := k) (by omega) hk (.inl (by omega)) (fun p e => by rw [List.getElem?_eq_none (by omega)] at e; cases e) (fun p c e1 e2 => by rw [List.getElem?_eq_none (by omega)] at e1; cases e1)
        obtain rfl : k = l.length := by omega
        clear hA
        by_cases hs0 : 0 ≤ st
        · obtain ⟨n, rfl⟩ : ∃ n : Nat, st = (n : Int) := ⟨st.toNat, by omega⟩
          by_cases hb0 : bk < s.size
          · have hat := L_at s bk hb0
            by_cases hsl : s[bk] = 47
            · have hslb : ((s[bk].toNat : Int) != 47) = false := by rw [hsl]; rfl
              have hslc : ((s[bk].toNat : Int) == 47) = true := by rw [hsl]; rfl
              have HF := Aside0.mk (inv_fail HI.out hno (.inr (.inr (by rw [← hsl]; exact hat))))
              clear hat hno HI hsl
              go_wp2; go_quiet (fail); go_wp2
              go_ret
              exact ⟨by rw [HF.out]; rfl, ⟨m + nq, rfl⟩⟩
            · have hslb : ((s[bk].toNat : Int) != 47) = true := (int_ne (s[bk]) 47).trans (bne_iff_ne.2 hsl)
              have hslc : ((s[bk].toNat : Int) == 47) = false := (int_eq (s[bk]) 47).trans (beq_eq_false_iff_ne.2 hsl)
              have HN := Aside0.mk (inv_back (n := n) HI.out rfl hno hat hsl)
              clear hat hno HI hsl
              go_wp2; go_quiet (fail); go_wp2
              refine ⟨⟨(n : Int), bk + 1, bk + 1, n + 1, m + nq, rfl, by push_cast; rfl, by push_cast; rfl, by push_cast; rfl, rfl, by omega, by omega, Nat.le_refl _, hst1, hst2, HN⟩, ?_⟩
              rw [num_nat, num_succ, num_nat, num_succ]
              exact meas_back hb0
          · exact absurd (Nat.lt_of_le_of_lt hbk hil) hb0
        · obtain rfl : st = -1 := by omega
          have HF := Aside0.mk (inv_fail HI.out hno (.inl (by show (-1 : Int) < 0; omega)))
          clear hno HI
          go_wp2; go_quiet (fail); go_wp2
          go_ret
          exact ⟨by rw [HF.out]; rfl, ⟨m + nq, rfl⟩⟩

end Go.Proofs.Ytjcopbgbmokfmaa.GlobMatch
