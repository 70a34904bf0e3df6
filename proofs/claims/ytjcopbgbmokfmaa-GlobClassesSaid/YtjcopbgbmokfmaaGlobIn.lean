/- The reference's in, walked: of what may stand between a class's brackets, whether a byte is in it. Condition: the text may stand there. -/
import Derived.Test.YtjcopbgbmokfmaaBOnex
import Derived.Test.YtjcopbgbmokfmaaGlobNext
import Derived.WalkSpells
import Derived.Deep.QuietTactic
import Derived.Deep.DeepCutAuto
namespace Go.Proofs.Ytjcopbgbmokfmaa.GlobIn
open Go.RowKit Go.Proofs.Ytjcopbgbmokfmaa.BytesLib Go.Proofs.Ytjcopbgbmokfmaa.GlobLib Go.Proofs.Ytjcopbgbmokfmaa.GlobNext Go.Proofs.YtjcopbgbmokfmaaW.PrintWords
set_option linter.unusedVariables false
set_option linter.unusedSimpArgs false
attribute [local go_sem] Oper.semAt_some

def pick (is : Bool) (lo c hi : Int) : Bool := if is = true then true else if lo ≤ c then decide (c ≤ hi) else false
/-- What in says of a text without its ^. -/
def inL : Nat → List UInt8 → Int → Bool → Option Bool
  | 0, _, _, _ => none
  | n + 1, u, c, is => if u = [] then some is else match nextB [45, 93] u with
    | none => none
    | some (lo, u1) => if u1.head? = some 45 then (match nextB [45, 93] u1.tail with
        | none => none
        | some (hi, u2) => inL n u2 c (pick is (lo.toNat : Int) c (hi.toNat : Int)))
      else inL n u1 c (pick is (lo.toNat : Int) c (lo.toNat : Int))
def inF (v : List UInt8) (c : Int) : Option Bool := if v.head? = some 94 then (inL (v.length + 1) v.tail c false).map (· != true) else (inL (v.length + 1) v c false).map (· != false)

theorem split2 {b l : List UInt8} {c : UInt8} {r : List UInt8} (h : nextB b l = some (c, r)) : (l = c :: r ∧ c ∉ b ∧ c ≠ 92) ∨ (l = 92 :: c :: r ∧ (92 : UInt8) ∉ b) := by
  cases l with
  | nil => cases h
  | cons x l =>
    have h : (if x ∈ b then none else if x = 92 then (match l with | [] => none | d :: l' => some (d, l')) else some (x, l)) = some (c, r) := h
    by_cases h1 : x ∈ b
    · rw [if_pos h1] at h; cases h
    · rw [if_neg h1] at h
      by_cases h2 : x = 92
      · rw [if_pos h2] at h
        cases l with
        | nil => cases h
        | cons d l => cases h; subst h2; exact .inr ⟨rfl, h1⟩
      · rw [if_neg h2] at h; cases h; exact .inl ⟨rfl, h1, h2⟩
theorem btAt (x : List UInt8) (i : Nat) (h : i < x.length) : bt (ofL x) (i : Int) = ((x[i]'h).toNat : Int) := by
  have hb := bt_nat (s := ofL x) (i := i) (by rw [L_ofL]; exact h)
  rw [hb]
  have e : (L (ofL x))[i]'(by rw [L_ofL]; exact h) = x[i]'h := by simp [L_ofL]
  rw [e]
theorem one_calls (u : List UInt8) {c : UInt8} {r : List UInt8} (h : nextB [45, 93] u = some (c, r)) (w : World) :
    Calls Try.prog 27 #[.string (ofL u)] w fun e w' => e = .returned (.tuple #[.int .u8 (c.toNat : Int), .int .i64 ((u.length - r.length : Nat) : Int)]) ∧ Drawn0 w w' := by
  refine BOne.graftbedref15_one.calls 1 (ofL u) _ _ w ?_
  have hsz := size_ofL u
  rcases split2 h with ⟨rfl, h1, h2⟩ | ⟨rfl, h1⟩
  · have b0 := btAt (c :: r) 0 (by simp)
    have n45 : ¬ (bt (ofL (c :: r)) 0 = 45) := fun e => h1 (by
      have : c = 45 := UInt8.toNat_inj.1 (by show c.toNat = 45; have := b0.symm.trans e; simp at this; omega)
      rw [this]; simp)
    have n93 : (bt (ofL (c :: r)) 0 == 93) = false := beq_eq_false_iff_ne.2 fun e => h1 (by
      have : c = 93 := UInt8.toNat_inj.1 (by show c.toNat = 93; have := b0.symm.trans e; simp at this; omega)
      rw [this]; simp)
    have n92 : ¬ (bt (ofL (c :: r)) 0 = 92) := fun e => h2 (UInt8.toNat_inj.1 (by show c.toNat = 92; have := b0.symm.trans e; simp at this; omega))
    simp only [List.length_cons] at hsz
    unfold BOne.graftbedref15_one.f
    rw [if_neg (by rw [toList_L, L_ofL]; simp), if_pos (by omega), if_neg n45, n93]
    rw [BOne.graftbedref15_one.j0, if_neg (by decide), if_pos (by omega), if_neg n92]
    rw [show bt (ofL (c :: r)) 0 = (c.toNat : Int) from b0, show (c :: r).length - r.length = 1 from by simp only [List.length_cons]; omega]; rfl
  · have b0 : bt (ofL (92 :: c :: r)) 0 = 92 := btAt (92 :: c :: r) 0 (by simp)
    have b1 : bt (ofL (92 :: c :: r)) 1 = (c.toNat : Int) := btAt (92 :: c :: r) 1 (by simp)
    simp only [List.length_cons] at hsz
    unfold BOne.graftbedref15_one.f
    rw [if_neg (by rw [toList_L, L_ofL]; simp), if_pos (by omega), if_neg (by rw [b0]; decide), b0, show ((92 : Int) == 93) = false from rfl]
    rw [BOne.graftbedref15_one.j0, if_neg (by decide), if_pos (by omega), b0, if_pos rfl, if_neg (by omega), if_pos (by omega), b1, show (92 :: c :: r).length - r.length = 2 from by simp only [List.length_cons]; omega]; rfl

theorem drop_of {u r : List UInt8} {c : UInt8} (h : nextB [45, 93] u = some (c, r)) : r.length < u.length ∧ (ofL u).extract (u.length - r.length) (ofL u).size = ofL r := by
  rcases split2 h with ⟨rfl, _⟩ | ⟨rfl, _⟩
  · refine ⟨by simp, L_inj ?_⟩
    rw [L_tail, L_ofL, L_ofL, show (c :: r).length - r.length = 1 from by simp only [List.length_cons]; omega]; rfl
  · refine ⟨by simp; omega, L_inj ?_⟩
    rw [L_tail, L_ofL, L_ofL, show (92 :: c :: r).length - r.length = 2 from by simp only [List.length_cons]; omega]; rfl
theorem isE (u : List UInt8) : (ofL u).toList.isEmpty = u.isEmpty := by rw [toList_L, L_ofL]
theorem at0 (x : UInt8) (u : List UInt8) (h : 0 < (ofL (x :: u)).size) : (ofL (x :: u))[0] = x := by
  have : (L (ofL (x :: u)))[0]'(by rw [L_ofL]; simp) = x := by simp [L_ofL]
  exact this

theorem inL_up : ∀ (n m : Nat) (u : List UInt8) (c : Int) (is : Bool) (r : Bool), inL n u c is = some r → n ≤ m → inL m u c is = some r := by
  intro n
  induction n with
  | zero => intro m u c is r h; cases h
  | succ n ih =>
    intro m u c is r h hm
    obtain ⟨m, rfl⟩ : ∃ m', m = m' + 1 := ⟨m - 1, by omega⟩
    rw [inL] at h ⊢
    by_cases hu : u = []
    · rw [if_pos hu] at h ⊢; exact h
    · rw [if_neg hu] at h ⊢
      cases hx : nextB [45, 93] u with
      | none => rw [hx] at h; cases h
      | some p =>
        obtain ⟨lo, u1⟩ := p
        rw [hx] at h
        dsimp only at h ⊢
        by_cases h45 : u1.head? = some 45
        · rw [if_pos h45] at h ⊢
          cases hy : nextB [45, 93] u1.tail with
          | none => rw [hy] at h; cases h
          | some p =>
            obtain ⟨hi, u2⟩ := p
            rw [hy] at h
            exact ih m u2 c _ r h (by omega)
        · rw [if_neg h45] at h ⊢
          exact ih m u1 c _ r h (by omega)
theorem inL_step : ∀ (n : Nat) (u : List UInt8) (c : Int) (is : Bool) (r : Bool), inL n u c is = some r → u.length < n → inL (u.length + 1) u c is = some r := by
  intro n
  induction n using Nat.strongRecOn with
  | _ n ih =>
    intro u c is r h hl
    cases n with
    | zero => cases h
    | succ n =>
      rw [inL] at h ⊢
      by_cases hu : u = []
      · rw [if_pos hu] at h ⊢; exact h
      · rw [if_neg hu] at h ⊢
        cases hx : nextB [45, 93] u with
        | none => rw [hx] at h; cases h
        | some p =>
          obtain ⟨lo, u1⟩ := p
          rw [hx] at h
          have l1 := (drop_of hx).1
          dsimp only at h ⊢
          have key : ∀ (u2 : List UInt8) (b : Bool), u2.length < u.length → inL n u2 c b = some r → inL u.length u2 c b = some r := by
            intro u2 b h2 h3
            have h4 := ih n (by omega) u2 c b r h3 (by omega)
            exact inL_up (u2.length + 1) u.length u2 c b r h4 (by omega)
          by_cases h45 : u1.head? = some 45
          · rw [if_pos h45] at h ⊢
            cases hy : nextB [45, 93] u1.tail with
            | none => rw [hy] at h; cases h
            | some p =>
              obtain ⟨hi, u2⟩ := p
              rw [hy] at h
              have l2 := (drop_of hy).1
              have l3 : u1.tail.length ≤ u1.length := by simp
              exact key u2 _ (by omega) h
          · rw [if_neg h45] at h ⊢
            exact key u1 _ l1 h
theorem inL_more {n : Nat} {u : List UInt8} {c : Int} {is : Bool} {r : Bool} (h : inL n u c is = some r) (hl : u.length < n) : inL (u.length + 1) u c is = some r := inL_step n u c is r h hl

set_option maxRecDepth 100000 in
set_option maxHeartbeats 16000000 in
theorem in_calls (s : ByteArray) (c : Int) (r : Bool) (w : World) (hz0 : s.size ≤ 1099511627776) (HF : inF (L s) c = some r) :
    Calls Try.prog 33 #[.string s, .int .u8 c] w fun e w' => e = .returned (.bool r) ∧ Drawn0 w w' := by
  obtain ⟨u0, no, fin, hr, HI0, hu0, hway⟩ : ∃ (u0 : List UInt8) (no fin : Bool), (fin != no) = r ∧ inL (u0.length + 1) u0 c false = some fin ∧ u0.length ≤ 1099511627776 ∧
      ((no = true ∧ ∃ h : 0 < s.size, ((s[0].toNat : Int) == 94) = true ∧ s.extract 1 s.size = ofL u0) ∨ (no = false ∧ s.size = 0 ∧ s = ofL u0) ∨ (no = false ∧ s = ofL u0 ∧ ∃ h : 0 < s.size, ((s[0].toNat : Int) == 94) = false)) := by
    have hl := L_length s
    unfold inF at HF
    by_cases h94 : (L s).head? = some 94
    · rw [if_pos h94] at HF
      obtain ⟨f, h1, h2⟩ := Option.map_eq_some_iff.1 HF
      cases hL : L s with
      | nil => rw [hL] at h94; cases h94
      | cons x u =>
        rw [hL] at h94 h1 hl
        obtain rfl := Option.some.inj h94
        simp only [List.length_cons] at hl
        have hs : s = ofL (94 :: u) := by rw [← hL, ofL_L]
        refine ⟨u, true, f, h2, inL_more h1 (by simp only [List.tail_cons, List.length_cons]; omega), by omega, .inl ⟨rfl, by omega, ?_, ?_⟩⟩
        · subst hs; rw [at0]; rfl
        · subst hs; exact L_inj (by rw [L_tail, L_ofL, L_ofL]; rfl)
    · rw [if_neg h94] at HF
      obtain ⟨f, h1, h2⟩ := Option.map_eq_some_iff.1 HF
      refine ⟨L s, false, f, h2, h1, by omega, .inr ?_⟩
      cases hL : L s with
      | nil => rw [hL] at hl; exact .inl ⟨rfl, hl.symm, by rw [← hL, ofL_L]⟩
      | cons x u =>
        rw [hL] at hl h94
        simp only [List.length_cons] at hl
        have hs : s = ofL (x :: u) := by rw [← hL, ofL_L]
        refine .inr ⟨rfl, hs, by omega, ?_⟩
        subst hs
        rw [at0, beq_eq_false_iff_ne]
        intro e
        exact h94 (congrArg some (UInt8.toNat_inj.1 (by show x.toNat = 94; omega)))
  have HF := Aside0.mk HI0
  have HR := Aside0.mk hr
  have HZ := Aside0.mk hu0
  clear HI0 hr hu0 hz0
  have HW := Aside0.mk hway
  clear hway
  go_enter Try.func33, Try.ntmps33
  go_upto_region 1 with (fail)
  go_cut [5] (fun v5 wc => v5 = .bool no ∧ Drawn0 w wc)
  case first =>
    rcases HW.out with ⟨rfl, h0, h1, h2⟩ | ⟨rfl, h0, h1⟩ | ⟨rfl, h1, h0, h2⟩
    · have g0 : decide (0 < (s.size : Int)) = true := decide_eq_true (by omega)
      clear h2
      go_wp2_with fail
      go_meet
      case rel => first | exact ⟨rfl, Drawn0.refl _⟩ | ((repeat apply Exists.intro); exact ⟨⟨rfl, Drawn0.refl _⟩, rfl⟩)
    · have g1 : ¬ (0 < s.size) := by omega
      have g0 : decide (0 < (s.size : Int)) = false := decide_eq_false (by omega)
      clear h1
      go_wp2_with fail
      go_meet
      case rel => first | exact ⟨rfl, Drawn0.refl _⟩ | ((repeat apply Exists.intro); exact ⟨⟨rfl, Drawn0.refl _⟩, rfl⟩)
    · have g0 : decide (0 < (s.size : Int)) = true := decide_eq_true (by omega)
      clear h1
      go_wp2_with fail
      go_meet
      case rel => first | exact ⟨rfl, Drawn0.refl _⟩ | ((repeat apply Exists.intro); exact ⟨⟨rfl, Drawn0.refl _⟩, rfl⟩)
  case rest =>
    obtain ⟨rfl, ⟨mc0, rfl⟩⟩ := hcut
    go_upto_if 20 with (fail)
    go_cut [0] (fun v0 wc => v0 = .string (ofL u0) ∧ Drawn0 w wc)
    case first =>
      rcases HW.out with ⟨rfl, h0, h1, h2⟩ | ⟨rfl, h0, h1⟩ | ⟨rfl, h1, h0, h2⟩
      · have g1 : 1 ≤ s.size := h0
        clear h1
        go_wp2_with fail
        go_meet
        case rel => first | exact ⟨rfl, ⟨_, rfl⟩⟩ | ((repeat apply Exists.intro); exact ⟨⟨rfl, ⟨_, rfl⟩⟩, rfl⟩)
      · have HS1 := Aside0.mk h1
        clear h1 h0
        go_wp2_with fail
        go_meet
        case rel => first | exact ⟨by rw [← HS1.out], ⟨_, rfl⟩⟩ | ((repeat apply Exists.intro); exact ⟨⟨by rw [← HS1.out], ⟨_, rfl⟩⟩, rfl⟩)
      · have HS1 := Aside0.mk h1
        clear h1 h2
        go_wp2_with fail
        go_meet
        case rel => first | exact ⟨by rw [← HS1.out], ⟨_, rfl⟩⟩ | ((repeat apply Exists.intro); exact ⟨⟨by rw [← HS1.out], ⟨_, rfl⟩⟩, rfl⟩)
    case rest =>
     obtain ⟨rfl, ⟨mc, rfl⟩⟩ := hcut
     clear HW
     go_wp2_with fail
     go_loopw [0, 6] (fun vl vi wr => ∃ (u : List UInt8) (is : Bool) (q : Nat), vl = .string (ofL u) ∧ vi = .bool is ∧ wr = w.drewN q ∧ Aside0 (inL (u.length + 1) u c is = some fin) ∧ u.length ≤ 1099511627776) (fun vl _ _ => match vl with | .string s => s.size | _ => 0)
     case atStart => exact ⟨u0, false, mc, rfl, rfl, rfl, HF, HZ.out⟩
     case round =>
      obtain ⟨u, is, q, rfl, rfl, rfl, HA, hz⟩ := hrel
      have HI := HA.out
      rw [inL] at HI
      by_cases hu : u = []
      · subst hu
        rw [if_pos rfl] at HI
        obtain rfl := Option.some.inj HI
        have g0 : (ofL []).toList.isEmpty = true := isE []
        clear HI HA
        go_wp2_with fail
        go_ret
        exact ⟨by rw [← HR.out]; rfl, ⟨_, rfl⟩⟩
      · rw [if_neg hu] at HI
        have g0 : (ofL u).toList.isEmpty = false := by rw [isE]; cases u <;> first | rfl | exact absurd rfl hu
        cases hx : nextB [45, 93] u with
        | none => rw [hx] at HI; cases HI
        | some p =>
          obtain ⟨lo, u1⟩ := p
          rw [hx] at HI
          dsimp only at HI
          have H1 := fun W => Aside0.mk (one_calls u hx W)
          obtain ⟨hl1, he1⟩ := drop_of hx
          have hsu := size_ofL u
          have b1 : u.length - u1.length ≤ (ofL u).size := by omega
          generalize hn1 : u.length - u1.length = n1 at H1 he1 b1
          have i1 : 0 ≤ (n1 : Int) := by omega
          clear hsu
          have hlen : ∀ x : Bool, inL (u1.length + 1) u1 c x = some fin ↔ inL (u1.length + 1) u1 c x = some fin := fun _ => Iff.rfl
          clear hlen hx
          by_cases h45 : u1.head? = some 45
          · rw [if_pos h45] at HI
            cases u1 with
            | nil => cases h45
            | cons z u1 =>
              obtain rfl := Option.some.inj h45
              rw [show ((45 : UInt8) :: u1).tail = u1 from rfl] at HI
              cases hy : nextB [45, 93] u1 with
              | none => rw [hy] at HI; cases HI
              | some p =>
                obtain ⟨hi, u2⟩ := p
                rw [hy] at HI
                dsimp only at HI
                have H2 := fun W => Aside0.mk (one_calls u1 hy W)
                obtain ⟨hl2, _⟩ := drop_of hy
                simp only [List.length_cons] at hl1
                have hz2 : u2.length ≤ 1099511627776 := by omega
                have hm2 : (ofL u2).size < (ofL u).size := by rw [size_ofL, size_ofL]; omega
                have HI := inL_more HI (show u2.length < u.length by omega)
                have hs1 := size_ofL (45 :: u1)
                simp only [List.length_cons] at hs1
                obtain ⟨s1, hs1'⟩ : ∃ s1, s1 = ofL (45 :: u1) := ⟨_, rfl⟩
                rw [← hs1'] at he1 hs1
                have g1 : s1.toList.isEmpty = false := by rw [hs1']; exact isE _
                have z1 : 0 < s1.size := by omega
                have g2 : ((s1[0].toNat : Int) == 45) = true := by
                  have : ∀ (s : ByteArray) (h : 0 < s.size), s = ofL (45 :: u1) → ((s[0].toNat : Int) == 45) = true := by
                    rintro s h rfl
                    rw [at0]; rfl
                  exact this s1 z1 hs1'
                have he2 : s1.extract 1 s1.size = ofL u1 := by rw [hs1']; exact L_inj (by rw [L_tail, L_ofL, L_ofL]; rfl)
                have hw : wrap64 (1 + ((u1.length - u2.length : Nat) : Int)) = ((1 + (u1.length - u2.length) : Nat) : Int) := by unfold wrap64; omega
                have he3 : s1.extract (1 + (u1.length - u2.length)) s1.size = ofL u2 := by
                  rw [hs1']
                  refine L_inj ?_
                  rw [L_tail, L_ofL, L_ofL, Nat.add_comm, List.drop_succ_cons]
                  have := congrArg L (drop_of hy).2
                  rw [L_tail, L_ofL, L_ofL] at this
                  exact this
                have b3 : 1 + (u1.length - u2.length) ≤ s1.size := by omega
                have b2 : 1 ≤ s1.size := by omega
                generalize hn2 : u1.length - u2.length = n2 at H2 hw he3 b3
                generalize hn3 : 1 + n2 = n3 at hw he3 b3
                clear hy hs1' hs1
                by_cases his : is = true
                · obtain rfl : is = true := his
                  rw [show pick true (lo.toNat : Int) c (hi.toNat : Int) = true from by unfold pick; rw [if_pos rfl]] at HI
                  have HA2 := Aside0.mk HI
                  clear HI HA
                  go_wp2_with fail
                  refine (H1 _).out.mono ?_
                  rintro e w' ⟨rfl, ⟨nd, rfl⟩⟩
                  go_wp2_with fail
                  refine (H2 _).out.mono ?_
                  rintro e w' ⟨rfl, ⟨nd2, rfl⟩⟩
                  go_wp2_with fail
                  go_roundw
                  case rel => first | exact ⟨u2, true, q + nd + nd2, rfl, rfl, rfl, HA2, hz2⟩ | ((repeat apply Exists.intro); exact ⟨⟨u2, true, q + nd + nd2, rfl, rfl, rfl, HA2, hz2⟩, rfl⟩)
                  case measure => exact hm2

                · by_cases hle : (lo.toNat : Int) ≤ c
                  · have his2 : is = false := by cases is <;> first | rfl | exact absurd rfl his
                    subst his2
                    have gl : decide ((lo.toNat : Int) ≤ c) = true := decide_eq_true hle
                    rw [show pick false (lo.toNat : Int) c (hi.toNat : Int) = (decide (c ≤ (hi.toNat : Int))) from by unfold pick; rw [if_neg (by decide), if_pos hle]] at HI
                    have HA2 := Aside0.mk HI
                    clear HI HA hle
                    go_wp2_with fail
                    refine (H1 _).out.mono ?_
                    rintro e w' ⟨rfl, ⟨nd, rfl⟩⟩
                    go_wp2_with fail
                    refine (H2 _).out.mono ?_
                    rintro e w' ⟨rfl, ⟨nd2, rfl⟩⟩
                    go_wp2_with fail
                    go_roundw
                    case rel => first | exact ⟨u2, (decide (c ≤ (hi.toNat : Int))), q + nd + nd2, rfl, rfl, rfl, HA2, hz2⟩ | ((repeat apply Exists.intro); exact ⟨⟨u2, (decide (c ≤ (hi.toNat : Int))), q + nd + nd2, rfl, rfl, rfl, HA2, hz2⟩, rfl⟩)
                    case measure => exact hm2

                  · have his2 : is = false := by cases is <;> first | rfl | exact absurd rfl his
                    subst his2
                    have gl : decide ((lo.toNat : Int) ≤ c) = false := decide_eq_false hle
                    rw [show pick false (lo.toNat : Int) c (hi.toNat : Int) = false from by unfold pick; rw [if_neg (by decide), if_neg hle]] at HI
                    have HA2 := Aside0.mk HI
                    clear HI HA hle
                    go_wp2_with fail
                    refine (H1 _).out.mono ?_
                    rintro e w' ⟨rfl, ⟨nd, rfl⟩⟩
                    go_wp2_with fail
                    refine (H2 _).out.mono ?_
                    rintro e w' ⟨rfl, ⟨nd2, rfl⟩⟩
                    go_wp2_with fail
                    go_roundw
                    case rel => first | exact ⟨u2, false, q + nd + nd2, rfl, rfl, rfl, HA2, hz2⟩ | ((repeat apply Exists.intro); exact ⟨⟨u2, false, q + nd + nd2, rfl, rfl, rfl, HA2, hz2⟩, rfl⟩)
                    case measure => exact hm2


          · rw [if_neg h45] at HI
            have HI := inL_more HI hl1
            have hz2 : u1.length ≤ 1099511627776 := by omega
            have hm2 : (ofL u1).size < (ofL u).size := by rw [size_ofL, size_ofL]; omega
            cases u1 with
            | nil =>
              have g1 : (ofL []).toList.isEmpty = true := isE []
              by_cases his : is = true
              · obtain rfl : is = true := his
                rw [show pick true (lo.toNat : Int) c (lo.toNat : Int) = true from by unfold pick; rw [if_pos rfl]] at HI
                have HA2 := Aside0.mk HI
                clear HI HA
                go_wp2_with fail
                refine (H1 _).out.mono ?_
                rintro e w' ⟨rfl, ⟨nd, rfl⟩⟩
                go_wp2_with fail
                go_roundw
                case rel => first | exact ⟨[], true, q + nd, rfl, rfl, rfl, HA2, hz2⟩ | ((repeat apply Exists.intro); exact ⟨⟨[], true, q + nd, rfl, rfl, rfl, HA2, hz2⟩, rfl⟩)
                case measure => exact hm2

              · by_cases hle : (lo.toNat : Int) ≤ c
                · have his2 : is = false := by cases is <;> first | rfl | exact absurd rfl his
                  subst his2
                  have gl : decide ((lo.toNat : Int) ≤ c) = true := decide_eq_true hle
                  rw [show pick false (lo.toNat : Int) c (lo.toNat : Int) = (decide (c ≤ (lo.toNat : Int))) from by unfold pick; rw [if_neg (by decide), if_pos hle]] at HI
                  have HA2 := Aside0.mk HI
                  clear HI HA hle
                  go_wp2_with fail
                  refine (H1 _).out.mono ?_
                  rintro e w' ⟨rfl, ⟨nd, rfl⟩⟩
                  go_wp2_with fail
                  go_roundw
                  case rel => first | exact ⟨[], (decide (c ≤ (lo.toNat : Int))), q + nd, rfl, rfl, rfl, HA2, hz2⟩ | ((repeat apply Exists.intro); exact ⟨⟨[], (decide (c ≤ (lo.toNat : Int))), q + nd, rfl, rfl, rfl, HA2, hz2⟩, rfl⟩)
                  case measure => exact hm2

                · have his2 : is = false := by cases is <;> first | rfl | exact absurd rfl his
                  subst his2
                  have gl : decide ((lo.toNat : Int) ≤ c) = false := decide_eq_false hle
                  rw [show pick false (lo.toNat : Int) c (lo.toNat : Int) = false from by unfold pick; rw [if_neg (by decide), if_neg hle]] at HI
                  have HA2 := Aside0.mk HI
                  clear HI HA hle
                  go_wp2_with fail
                  refine (H1 _).out.mono ?_
                  rintro e w' ⟨rfl, ⟨nd, rfl⟩⟩
                  go_wp2_with fail
                  go_roundw
                  case rel => first | exact ⟨[], false, q + nd, rfl, rfl, rfl, HA2, hz2⟩ | ((repeat apply Exists.intro); exact ⟨⟨[], false, q + nd, rfl, rfl, rfl, HA2, hz2⟩, rfl⟩)
                  case measure => exact hm2


            | cons z u1' =>
              have hs1 := size_ofL (z :: u1')
              simp only [List.length_cons] at hs1
              obtain ⟨s1, hs1'⟩ : ∃ s1, s1 = ofL (z :: u1') := ⟨_, rfl⟩
              rw [← hs1'] at he1 hs1
              have g1 : s1.toList.isEmpty = false := by rw [hs1']; exact isE _
              have z1 : 0 < s1.size := by omega
              have g2 : ((s1[0].toNat : Int) == 45) = false := by
                have : ∀ (s : ByteArray) (h : 0 < s.size), s = ofL (z :: u1') → ((s[0].toNat : Int) == 45) = false := by
                  rintro s h rfl
                  rw [at0, beq_eq_false_iff_ne]
                  intro e
                  exact h45 (congrArg some (UInt8.toNat_inj.1 (by show z.toNat = 45; omega)))
                exact this s1 z1 hs1'
              generalize hu1 : z :: u1' = u1 at *
              have HS1 := Aside0.mk hs1'
              clear hs1 hs1' hu1
              by_cases his : is = true
              · obtain rfl : is = true := his
                rw [show pick true (lo.toNat : Int) c (lo.toNat : Int) = true from by unfold pick; rw [if_pos rfl]] at HI
                have HA2 := Aside0.mk HI
                clear HI HA
                go_wp2_with fail
                refine (H1 _).out.mono ?_
                rintro e w' ⟨rfl, ⟨nd, rfl⟩⟩
                go_wp2_with fail
                go_roundw
                case rel => first | exact ⟨u1, true, q + nd, by rw [HS1.out], rfl, rfl, HA2, hz2⟩ | ((repeat apply Exists.intro); exact ⟨⟨u1, true, q + nd, by rw [HS1.out], rfl, rfl, HA2, hz2⟩, rfl⟩)
                case measure => show s1.size < (ofL u).size; rw [HS1.out]; exact hm2

              · by_cases hle : (lo.toNat : Int) ≤ c
                · have his2 : is = false := by cases is <;> first | rfl | exact absurd rfl his
                  subst his2
                  have gl : decide ((lo.toNat : Int) ≤ c) = true := decide_eq_true hle
                  rw [show pick false (lo.toNat : Int) c (lo.toNat : Int) = (decide (c ≤ (lo.toNat : Int))) from by unfold pick; rw [if_neg (by decide), if_pos hle]] at HI
                  have HA2 := Aside0.mk HI
                  clear HI HA hle
                  go_wp2_with fail
                  refine (H1 _).out.mono ?_
                  rintro e w' ⟨rfl, ⟨nd, rfl⟩⟩
                  go_wp2_with fail
                  go_roundw
                  case rel => first | exact ⟨u1, (decide (c ≤ (lo.toNat : Int))), q + nd, by rw [HS1.out], rfl, rfl, HA2, hz2⟩ | ((repeat apply Exists.intro); exact ⟨⟨u1, (decide (c ≤ (lo.toNat : Int))), q + nd, by rw [HS1.out], rfl, rfl, HA2, hz2⟩, rfl⟩)
                  case measure => show s1.size < (ofL u).size; rw [HS1.out]; exact hm2

                · have his2 : is = false := by cases is <;> first | rfl | exact absurd rfl his
                  subst his2
                  have gl : decide ((lo.toNat : Int) ≤ c) = false := decide_eq_false hle
                  rw [show pick false (lo.toNat : Int) c (lo.toNat : Int) = false from by unfold pick; rw [if_neg (by decide), if_neg hle]] at HI
                  have HA2 := Aside0.mk HI
                  clear HI HA hle
                  go_wp2_with fail
                  refine (H1 _).out.mono ?_
                  rintro e w' ⟨rfl, ⟨nd, rfl⟩⟩
                  go_wp2_with fail
                  go_roundw
                  case rel => first | exact ⟨u1, false, q + nd, by rw [HS1.out], rfl, rfl, HA2, hz2⟩ | ((repeat apply Exists.intro); exact ⟨⟨u1, false, q + nd, by rw [HS1.out], rfl, rfl, HA2, hz2⟩, rfl⟩)
                  case measure => show s1.size < (ofL u).size; rw [HS1.out]; exact hm2



end Go.Proofs.Ytjcopbgbmokfmaa.GlobIn
