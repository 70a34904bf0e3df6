/- rewrite.Replaced, from the inside: the predicate of its slices.IndexFunc. -/
import Derived.Test.YtecccjpbfbbaoaaProg
import Derived.Shelf.SlicesQ.IndexFunc
import Derived.Ground.SlgfProg
import Derived.Lib.SliceRun
import Derived.Deep.LoopGhost
import Derived.Deep.RegionHeld3
import Derived.Test.YtecccjpbfbbaoaaWWords
namespace Go.Proofs.Ytecccjpbfbbaoaa.RwFind
set_option linter.unusedVariables false
set_option linter.unusedSimpArgs false
open Go Go.Proofs Go.Shelf Go.RowKit Go.Lib

/-- A Replace's four cells. -/
def encR (x : (ByteArray × ByteArray) × ByteArray × ByteArray) : List Value := [.string x.1.1, .string x.1.2, .string x.2.1, .string x.2.2]

/-- The closure 'r.Old == old', old in the cells ⟨B, 0⟩, ⟨B, 1⟩. -/
theorem pred (o : ByteArray × ByteArray) (B : Nat) (w : World) (hB : B < w.heap.size) (h0 : w.cell? ⟨B, 0, none⟩ = some (.string o.1)) (h1 : w.cell? ⟨B, 1, none⟩ = some (.string o.2)) :
    PredBelow Try.prog 9 #[.pointer (some ⟨B, 0, none⟩)] (fun x => .agg (encR x).toArray) (fun x => x.1.1.toList == o.1.toList && x.1.2.toList == o.2.toList) w := fun W x hb => by
  have c0 : W.cell? ⟨B, 0, none⟩ = some (.string o.1) := (hb.cell (p := ⟨B, 0, none⟩) hB).trans h0
  have c1 : W.cell? ⟨B, 1, none⟩ = some (.string o.2) := (hb.cell (p := ⟨B, 1, none⟩) hB).trans h1
  have hBW : B < W.heap.size := Nat.lt_of_lt_of_le hB hb.size
  have hne : B ≠ W.heap.size := by omega
  show Calls Try.prog 9 #[.agg #[.string x.1.1, .string x.1.2, .string x.2.1, .string x.2.2], .pointer (some ⟨B, 0, none⟩)] W _
  go_enter Try.func9, Try.ntmps9
  go_wp2
  all_goals (go_ret; exact ⟨by simp_all, hb.alloc hb.size _⟩)
open Go.Proofs.YtecccjpbfbbaoaaW.PrintWords

theorem add_add (b : Addr) (p q : Nat) : (b.add p).add q = b.add (p + q) := by
  unfold Addr.add
  rcases Nat.eq_zero_or_pos p with rfl | hp
  · simp
  · rcases Nat.eq_zero_or_pos q with rfl | hq
    · simp
    · rw [if_neg (by omega), if_neg (by omega), if_neg (by omega)]
      simp [Nat.add_assoc]
/-- The first place from i on at which p holds, or -1. -/
def findI {α : Type} (p : α → Bool) : List α → Nat → Int
  | [], _ => -1
  | y :: r, i => if p y = true then (i : Int) else findI p r (i + 1)

def isOld {α : Type} (enc : α → (ByteArray × ByteArray) × ByteArray × ByteArray) (o : ByteArray × ByteArray) (x : α) : Bool := (enc x).1.1.toList == o.1.toList && (enc x).1.2.toList == o.2.toList

set_option maxHeartbeats 1000000 in
/-- slices.IndexFunc over the replaces, with the closure. -/
theorem find_calls {α : Type} (d : Kd α) (hsz : d.sz = 4) (enc : α → (ByteArray × ByteArray) × ByteArray × ByteArray) (hK : ∀ {w x cs}, d.K w x cs → cs = encR (enc x)) (o : ByteArray × ByteArray) (B : Nat) (w : World)
    (hB : B < w.heap.size) (h0 : w.cell? ⟨B, 0, none⟩ = some (.string o.1)) (h1 : w.cell? ⟨B, 1, none⟩ = some (.string o.2))
    (A : Option Addr) (c : Nat) (l : List α) (hr : Kd.C d w A l.length l) :
    Calls Try.prog 8 #[.slice A l.length c, .func (.func 9) #[] #[.pointer (some ⟨B, 0, none⟩)]] w
      fun e w' => e = .returned (.int .i64 (findI (isOld enc o) l 0)) ∧ Below w.heap.size w w' := by
  have hmax := Kd.C_max hr
  have HP := Aside0.mk (pred o B w hB h0 h1)
  have HR := Aside0.mk hr
  clear hr h0 h1
  go_enter Try.func8, Try.ntmps8
  go_wp2
  go_loopg [5, 8] l.length (fun gg _ s8 wr => ∃ kk : Nat, kk ≤ l.length ∧ l.length - kk ≤ gg ∧ s8 = .int .i64 kk ∧ Aside0 (Below w.heap.size w wr) ∧ Aside0 (findI (isOld enc o) (l.drop kk) kk = findI (isOld enc o) l 0))
  case atStart => exact ⟨0, Nat.zero_le _, by omega, rfl, ⟨Below.refl _ w⟩, ⟨rfl⟩⟩
  case round =>
    obtain ⟨kk, hkk, hg, rfl, BW, F⟩ := hrel
    by_cases hlt : kk < l.length
    · obtain ⟨ad, cs, rfl, hl, hk, hc⟩ := Kd.C_get (Kd.C_below HR.out BW.out) (l[kk]) (kk : Int) (by omega) (by omega)
      rw [hsz] at hl hc
      have hcs := hK hk
      have hgd : l.getD (kk : Int).toNat l[kk] = l[kk] := by
        simp [List.getD, List.getElem?_eq_getElem hlt]
      rw [hgd] at hcs hk
      have F1 : findI (isOld enc o) (l.drop kk) kk = if isOld enc o l[kk] = true then (kk : Int) else findI (isOld enc o) (l.drop (kk + 1)) (kk + 1) := by
        rw [List.drop_eq_getElem_cons hlt]; rfl
      rw [hcs] at hc
      simp only [Int.toNat_natCast] at hc
      have q0 : wr.cell? (ad.add (kk * 4)) = some (.string (enc l[kk]).1.1) := by
        have := hc 0 _ rfl
        simpa using this
      have q1 : wr.cell? ⟨(ad.add (kk * 4)).block, (ad.add (kk * 4)).off + 1, none⟩ = some (.string (enc l[kk]).1.2) := by
        have h := hc 1 _ rfl
        rw [← add_add] at h
        exact h
      have q2 : wr.cell? ⟨(ad.add (kk * 4)).block, (ad.add (kk * 4)).off + 2, none⟩ = some (.string (enc l[kk]).2.1) := by
        have h := hc 2 _ rfl
        rw [← add_add] at h
        exact h
      have q3 : wr.cell? ⟨(ad.add (kk * 4)).block, (ad.add (kk * 4)).off + 3, none⟩ = some (.string (enc l[kk]).2.2) := by
        have h := hc 3 _ rfl
        rw [← add_add] at h
        exact h
      have hcall : Calls Try.prog 9 #[.agg #[.string (enc l[kk]).1.1, .string (enc l[kk]).1.2, .string (enc l[kk]).2.1, .string (enc l[kk]).2.2], .pointer (some ⟨B, 0, none⟩)] wr
          fun e w' => e = .returned (.bool (isOld enc o l[kk])) ∧ Below w.heap.size w w' := HP.out wr (enc l[kk]) BW.out
      have hlt' : (kk : Int) < (l.length : Int) := by omega
      have F2 := Aside0.mk F1
      clear F1 hc hk hcs hgd
      cases hq : isOld enc o l[kk] with
      | true =>
        rw [hq] at hcall
        have F3 := F2.out
        rw [if_pos hq] at F3
        have F4 := Aside0.mk (F3.symm.trans F.out)
        clear F3 F2
        go_wp2_with (go_at_call 9; refine hcall.mono ?_; rintro e w' ⟨rfl, hb'⟩)
        go_ret
        exact ⟨by rw [← F4.out]; rfl, hb'⟩
      | false =>
        rw [hq] at hcall
        have F3 := F2.out
        rw [if_neg (by rw [hq]; exact Bool.false_ne_true)] at F3
        have F4 := Aside0.mk (F3.symm.trans F.out)
        clear F3 F2
        go_wp2_with (go_at_call 9; refine hcall.mono ?_; rintro e w' ⟨rfl, hb'⟩)
        go_roundg (l.length - (kk + 1))
        case measure => omega
        case rel => exact ⟨kk + 1, by omega, by omega, by go_num, ⟨hb'⟩, F4⟩
    · have hlt' : ¬ (kk : Int) < (l.length : Int) := by omega
      have e : kk = l.length := by omega
      subst e
      go_wp2
      go_ret
      refine ⟨?_, BW.out⟩
      have := F.out
      rw [List.drop_length] at this
      rw [← this]
      rfl

/-- 'of': where old stands among the replaces of the file that it holds. -/
theorem of_calls {α : Type} (d : Kd α) (hsz : d.sz = 4) (enc : α → (ByteArray × ByteArray) × ByteArray × ByteArray) (hK : ∀ {w x cs}, d.K w x cs → cs = encR (enc x)) (o : ByteArray × ByteArray) (F : Nat) (w : World)
    (A : Option Addr) (c : Nat) (l : List α) (hFl : F < w.heap.size) (hF : w.cell? ⟨F, 3, none⟩ = some (.slice A l.length c)) (hr : Kd.C d w A l.length l) :
    Calls Try.prog 7 #[.agg #[.string o.1, .string o.2], .pointer (some ⟨F, 0, none⟩)] w
      fun e w' => e = .returned (.int .i64 (findI (isOld enc o) l 0)) ∧ Below w.heap.size w w' := by
  have b1 : Below w.heap.size w (w.alloc (.cells #[.string o.1, .string o.2] 29)) := (Below.refl _ w).alloc (Nat.le_refl _) _
  have H := Aside0.mk (find_calls d hsz enc hK o w.heap.size (w.alloc (.cells #[.string o.1, .string o.2] 29)) (by simp) (by simp) (by simp) A c l (Kd.C_below hr b1))
  have B1 := Aside0.mk b1
  clear hr b1
  have hne : F ≠ w.heap.size := by omega
  go_enter Try.func7, Try.ntmps7
  go_wp2_with (go_at_call 8; refine H.out.mono ?_; rintro e w' ⟨rfl, hb'⟩)
  go_ret
  exact ⟨rfl, B1.out.trans (hb'.mono (by simp))⟩

/-- What Replaced answers: what stands in m's place, and whether something does. -/
def replF {α : Type} (enc : α → (ByteArray × ByteArray) × ByteArray × ByteArray) (z : α) (l : List α) (m : ByteArray × ByteArray) : ByteArray × ByteArray × Bool :=
  if 0 ≤ findI (isOld enc m) l 0 then ((enc (l.getD (findI (isOld enc m) l 0).toNat z)).2.1, (enc (l.getD (findI (isOld enc m) l 0).toNat z)).2.2, true)
  else if 0 ≤ findI (isOld enc (m.1, ⟨#[]⟩)) l 0 then ((enc (l.getD (findI (isOld enc (m.1, ⟨#[]⟩)) l 0).toNat z)).2.1, (enc (l.getD (findI (isOld enc (m.1, ⟨#[]⟩)) l 0).toNat z)).2.2, true)
  else (m.1, m.2, false)

theorem findI_lt {α : Type} (p : α → Bool) : ∀ (l : List α) (k : Nat), findI p l k < (k : Int) + l.length
  | [], k => by show (-1 : Int) < _; omega
  | y :: r, k => by
    unfold findI
    have := findI_lt p r (k + 1)
    split
    · simp only [List.length_cons]; omega
    · simp only [List.length_cons]; push_cast at this; omega

/-- A replace's New, where it lies. -/
theorem new_at {α : Type} (d : Kd α) (hsz : d.sz = 4) (enc : α → (ByteArray × ByteArray) × ByteArray × ByteArray) (hK : ∀ {w x cs}, d.K w x cs → cs = encR (enc x)) (z : α) {w : World} {A : Option Addr} {l : List α}
    (hr : Kd.C d w A l.length l) (i : Int) (h0 : 0 ≤ i) (h1 : i < l.length) : ∃ ad, A = some ad ∧ w.cell? ⟨(ad.add (i.toNat * 4)).block, (ad.add (i.toNat * 4)).off + 2, none⟩ = some (.string (enc (l.getD i.toNat z)).2.1) ∧
      w.cell? ⟨(ad.add (i.toNat * 4)).block, (ad.add (i.toNat * 4)).off + 3, none⟩ = some (.string (enc (l.getD i.toNat z)).2.2) := by
  obtain ⟨ad, cs, rfl, hl, hk, hc⟩ := Kd.C_get hr z i h0 h1
  rw [hsz] at hl hc
  rw [hK hk] at hc
  refine ⟨ad, rfl, ?_, ?_⟩
  · have h := hc 2 _ rfl
    rw [← add_add] at h
    exact h
  · have h := hc 3 _ rfl
    rw [← add_add] at h
    exact h

theorem two_held {W w' : World} {b : Nat} {m : ByteArray × ByteArray} (hl : b < W.heap.size) (m0 : W.cell? ⟨b, 0, none⟩ = some (.string m.1)) (m1 : W.cell? ⟨b, 1, none⟩ = some (.string m.2)) (hb : Below W.heap.size W w') :
    w'.cell? ⟨b, 0, none⟩ = some (.string m.1) ∧ w'.cell? ⟨b, 1, none⟩ = some (.string m.2) ∧ Below W.heap.size W w' :=
  ⟨(hb.cell (p := ⟨b, 0, none⟩) hl).trans m0, (hb.cell (p := ⟨b, 1, none⟩) hl).trans m1, hb⟩
theorem held_alloc {W w' : World} {o : Obj} (hb : Below W.heap.size W w') : Below W.heap.size W (w'.alloc o) := hb.alloc hb.size o

/-- Two cells that are stored, read. -/
theorem two_stored {w : World} {b : Nat} {u0 u1 : Value} (x y : Value) (h0 : w.cell? ⟨b, 0, none⟩ = some u0) (h1 : w.cell? ⟨b, 1, none⟩ = some u1) :
    (w.setCell ⟨b, 0, none⟩ x).cell? ⟨b, 0, none⟩ = some x ∧ ((w.setCell ⟨b, 0, none⟩ x).setCell ⟨b, 1, none⟩ y).cell? ⟨b, 0, none⟩ = some x ∧ ((w.setCell ⟨b, 0, none⟩ x).setCell ⟨b, 1, none⟩ y).cell? ⟨b, 1, none⟩ = some y := by
  have a0 := World.cell?_setCell_same' w ⟨b, 0, none⟩ x (by rw [h0]; rfl)
  refine ⟨a0, ?_, ?_⟩
  · rw [World.cell?_setCell_other _ _ _ _ (by intro h; cases h)]; exact a0
  · exact World.cell?_setCell_same' _ _ y (by rw [World.cell?_setCell_other _ _ _ _ (by intro h; cases h), h1]; rfl)

set_option maxHeartbeats 4000000 in
/-- rewrite.Replaced. -/
theorem Replaced_calls {α : Type} (d : Kd α) (hsz : d.sz = 4) (enc : α → (ByteArray × ByteArray) × ByteArray × ByteArray) (hK : ∀ {w x cs}, d.K w x cs → cs = encR (enc x)) (z : α) (s0 s1 : ByteArray) (v2 v4 v5 : Value)
    (A : Option Addr) (c : Nat) (l : List α) (m : ByteArray × ByteArray) (w : World) (hr : Kd.C d w A l.length l) (hv2 : v2.cells = #[v2]) (hv4 : v4.cells = #[v4]) (hv5 : v5.cells = #[v5])
    (R : ByteArray × ByteArray × Bool) (hR : replF enc z l m = R) :
    Calls Try.prog 6 #[.agg #[.string s0, .string s1, v2, .slice A l.length c, v4, v5], .agg #[.string m.1, .string m.2]] w
      fun e w' => e = .returned (.tuple #[.agg #[.string R.1, .string R.2.1], .bool R.2.2]) ∧ Below w.heap.size w w' := by
  go_enter Try.func6, Try.ntmps6
  go_wp2_with fail
  obtain ⟨W, hW⟩ : ∃ W, (((w.alloc (Obj.cells #[Value.string s0, Value.string s1, v2, Value.slice A l.length c, v4, v5] 27)).alloc (Obj.cells #[Value.string m.1, Value.string m.2] 29)).alloc (Obj.cells #[Value.string { data := #[] }, Value.string { data := #[] }] 29)) = W := ⟨_, rfl⟩
  have b0 : Below w.heap.size w W := by rw [← hW]; exact (((Below.refl _ w).alloc (Nat.le_refl _) _).alloc (by simp) _).alloc (by simp; omega) _
  have hs : W.heap.size = w.heap.size + 3 := by rw [← hW]; simp
  have f3 : W.cell? ⟨w.heap.size, 3, none⟩ = some (.slice A l.length c) := by rw [← hW]; simp [go_sem]
  have m0 : W.cell? ⟨w.heap.size + 1, 0, none⟩ = some (.string m.1) := by rw [← hW]; simp [go_sem]
  have m1 : W.cell? ⟨w.heap.size + 1, 1, none⟩ = some (.string m.2) := by rw [← hW]; simp [go_sem]
  have r0 : W.cell? ⟨w.heap.size + 1 + 1, 0, none⟩ = some (.string ⟨#[]⟩) := by rw [← hW]; simp [go_sem]
  have r1 : W.cell? ⟨w.heap.size + 1 + 1, 1, none⟩ = some (.string ⟨#[]⟩) := by rw [← hW]; simp [go_sem]
  have z0 : W.frozen? ⟨w.heap.size + 1 + 1, 0, none⟩ = false := by rw [← hW]; simp [go_sem]
  have z1 : W.frozen? ⟨w.heap.size + 1 + 1, 1, none⟩ = false := by rw [← hW]; simp [go_sem]
  rw [hW]
  have hrW := Kd.C_below hr b0
  have HO : ∀ (o : ByteArray × ByteArray) (W' : World), Below W.heap.size W W' → Calls Try.prog 7 #[.agg #[.string o.1, .string o.2], .pointer (some ⟨w.heap.size, 0, none⟩)] W'
      fun e w' => e = .returned (.int .i64 (findI (isOld enc o) l 0)) ∧ Below W.heap.size W w' := fun o W' hb =>
    (of_calls d hsz enc hK o w.heap.size W' A c l (by have := hb.size; omega) ((hb.cell (p := ⟨w.heap.size, 3, none⟩) (by show w.heap.size < W.heap.size; omega)).trans f3) (Kd.C_below hrW hb)).mono fun e w' ⟨h1, h2⟩ => ⟨h1, hb.trans (h2.mono hb.size)⟩
  have HO1 := Aside0.mk HO
  have HR := Aside0.mk hrW
  have B0 := Aside0.mk b0
  have HS := Aside0.mk hs
  have hB : Below W.heap.size W W := Below.refl _ _
  have hBd : Below W.heap.size W W.drew := hB.drew
  clear HO hrW b0 hr hW
  have hl1 : w.heap.size + 1 < W.heap.size := by omega
  clear hs
  go_region_held3 (fun w' => w'.cell? ⟨w.heap.size + 1, 0, none⟩ = some (.string m.1) ∧ w'.cell? ⟨w.heap.size + 1, 1, none⟩ = some (.string m.2) ∧ Below W.heap.size W w')
    (first
      | exact two_held hl1 m0 m1 hbb
      | exact two_held hl1 m0 m1 hBd
      | exact two_held hl1 m0 m1 (held_alloc (by go_split_ands; assumption))
      | (go_split_ands; exact ⟨by assumption, by assumption, by assumption⟩)
      | go_keep)
    (first
      | (go_at_call 7; refine (HO1.out m _ hBd).mono ?_; rintro e w' ⟨rfl, hbb⟩)
      | (go_at_call 7; refine (HO1.out (m.1, ⟨#[]⟩) _ (by go_split_ands; assumption)).mono ?_; rintro e w' ⟨rfl, hbb⟩))
  obtain ⟨V, hV⟩ : ∃ V, (w'.alloc (Obj.cells #[Value.int IntKind.i64 (findI (isOld enc m) l 0), Value.int IntKind.i64 (findI (isOld enc (m.1, ⟨#[]⟩)) l 0)] 3)) = V := ⟨_, rfl⟩
  have bV : Below W.heap.size W V := by rw [← hV]; exact held_alloc hbb
  have k0 : V.cell? ⟨w'.heap.size, 0, none⟩ = some (.int .i64 (findI (isOld enc m) l 0)) := by rw [← hV]; simp [go_sem]
  have k1 : V.cell? ⟨w'.heap.size, 1, none⟩ = some (.int .i64 (findI (isOld enc (m.1, ⟨#[]⟩)) l 0)) := by rw [← hV]; simp [go_sem]
  rw [hV]
  have hlt1 := findI_lt (isOld enc m) l 0
  have hlt2 := findI_lt (isOld enc (m.1, ⟨#[]⟩)) l 0
  have hmax := Kd.C_max HR.out
  have hs := HS.out
  have g3 : V.cell? ⟨w.heap.size, 3, none⟩ = some (.slice A l.length c) := (bV.cell (p := ⟨w.heap.size, 3, none⟩) (by show w.heap.size < W.heap.size; omega)).trans f3
  have gm := two_held hl1 m0 m1 bV
  have gr0 : V.cell? ⟨w.heap.size + 1 + 1, 0, none⟩ = some (.string ⟨#[]⟩) := (bV.cell (p := ⟨w.heap.size + 1 + 1, 0, none⟩) (by show w.heap.size + 1 + 1 < W.heap.size; omega)).trans r0
  have gr1 : V.cell? ⟨w.heap.size + 1 + 1, 1, none⟩ = some (.string ⟨#[]⟩) := (bV.cell (p := ⟨w.heap.size + 1 + 1, 1, none⟩) (by show w.heap.size + 1 + 1 < W.heap.size; omega)).trans r1
  have gz : V.frozen? ⟨w.heap.size + 1 + 1, 0, none⟩ = false := (bV.frozen (p := ⟨w.heap.size + 1 + 1, 0, none⟩) (by show w.heap.size + 1 + 1 < W.heap.size; omega)).trans z0
  have gz1 : V.frozen? ⟨w.heap.size + 1 + 1, 1, none⟩ = false := (bV.frozen (p := ⟨w.heap.size + 1 + 1, 1, none⟩) (by show w.heap.size + 1 + 1 < W.heap.size; omega)).trans z1
  obtain ⟨gm0, gm1, -⟩ := gm
  have hN := new_at d hsz enc hK z (Kd.C_below HR.out bV)
  have HN := Aside0.mk hN
  have BV := Aside0.mk ((B0.out).trans (bV.mono (by omega)))
  have hkn : 0 ≤ (findI (isOld enc m) l 0) ∨ (findI (isOld enc m) l 0) < 0 := by omega
  have hkn2 : 0 ≤ (findI (isOld enc (m.1, ⟨#[]⟩)) l 0) ∨ (findI (isOld enc (m.1, ⟨#[]⟩)) l 0) < 0 := by omega
  have hR2 := hR
  unfold replF at hR2
  have HR2 := Aside0.mk hR2
  clear hN hbb hBd hB bV hV f3 m0 m1 r0 r1 z0 hs HS B0 HO1 hR hR2
  generalize w'.heap.size = n at k0 k1 ⊢
  generalize findI (isOld enc m) l 0 = i1 at k0 HR2 hlt1 hkn ⊢
  generalize findI (isOld enc (m.1, ⟨#[]⟩)) l 0 = i2 at k1 HR2 hlt2 hkn2 ⊢
  go_wp2
  go_loopg [8, 20] 2 (fun gg _ s20 wr => wr = V ∧ ∃ kk : Nat, kk ≤ 2 ∧ 2 - kk ≤ gg ∧ s20 = .int .i64 kk ∧ (0 < kk → i1 < 0) ∧ (1 < kk → i2 < 0))
  case atStart => exact ⟨rfl, 0, by omega, by omega, rfl, by omega, by omega⟩
  case round =>
    obtain ⟨rfl, kk, hkk, hg, rfl, u1, u2⟩ := hrel
    obtain rfl | rfl | rfl : kk = 0 ∨ kk = 1 ∨ kk = 2 := by omega
    · rcases hkn with hp | hp
      · obtain ⟨ad, rfl, n0, n1⟩ := HN.out i1 hp (by omega)
        have F := HR2.out
        rw [if_pos hp] at F
        have F2 := Aside0.mk F
        clear F HR2
        go_wp2
        obtain ⟨-, t1, t2⟩ := two_stored (.string (enc (l[i1.toNat]?.getD z)).2.1) (.string (enc (l[i1.toNat]?.getD z)).2.2) gr0 gr1
        refine bodyPost_ret (by simp [t1, t2, results, Try.results6, go_sem]; try rfl) rfl ?_
        refine ⟨by rw [← F2.out]; simp, (BV.out.setCell (by show w.heap.size ≤ w.heap.size + 1 + 1; omega) _).setCell (by show w.heap.size ≤ w.heap.size + 1 + 1; omega) _⟩
      · go_wp2
        go_roundg 1
        case measure => omega
        case rel => exact ⟨rfl, 1, by omega, by omega, by go_num, fun _ => hp, by omega⟩
    · have hn1 := u1 (by omega)
      rcases hkn2 with hp | hp
      · obtain ⟨ad, rfl, n0, n1⟩ := HN.out i2 hp (by omega)
        have F := HR2.out
        rw [if_neg (by omega), if_pos hp] at F
        have F2 := Aside0.mk F
        clear F HR2
        go_wp2
        obtain ⟨-, t1, t2⟩ := two_stored (.string (enc (l[i2.toNat]?.getD z)).2.1) (.string (enc (l[i2.toNat]?.getD z)).2.2) gr0 gr1
        refine bodyPost_ret (by simp [t1, t2, results, Try.results6, go_sem]; try rfl) rfl ?_
        refine ⟨by rw [← F2.out]; simp, (BV.out.setCell (by show w.heap.size ≤ w.heap.size + 1 + 1; omega) _).setCell (by show w.heap.size ≤ w.heap.size + 1 + 1; omega) _⟩
      · go_wp2
        go_roundg 0
        case measure => omega
        case rel => exact ⟨rfl, 2, by omega, by omega, by go_num, fun _ => hn1, fun _ => hp⟩
    · have hn1 := u1 (by omega)
      have hn2 := u2 (by omega)
      have F := HR2.out
      rw [if_neg (by omega), if_neg (by omega)] at F
      have F2 := Aside0.mk F
      clear F HR2
      go_wp2
      obtain ⟨-, t1, t2⟩ := two_stored (.string m.1) (.string m.2) gr0 gr1
      refine bodyPost_ret (by simp [t1, t2, results, Try.results6, go_sem]; try rfl) rfl ?_
      refine ⟨by rw [← F2.out], (BV.out.setCell (by show w.heap.size ≤ w.heap.size + 1 + 1; omega) _).setCell (by show w.heap.size ≤ w.heap.size + 1 + 1; omega) _⟩
end Go.Proofs.Ytecccjpbfbbaoaa.RwFind
