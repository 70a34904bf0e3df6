/- A pattern's pieces: the walk. -/
import Derived.Test.YtjcopbgbmokfmaaGlobClass
import Derived.Laws.EntriesVeiled
import Derived.Deep.CutBlock
namespace Go.Proofs.Ytjcopbgbmokfmaa.GlobPieces
open Go.RowKit Go.Shelf Go.Proofs.Ytjcopbgbmokfmaa.GlobLib Go.Proofs.Ytjcopbgbmokfmaa.BytesLib Go.Proofs.Ytjcopbgbmokfmaa.GlobMatch Go.Proofs.Ytjcopbgbmokfmaa.GlobNext Go.Proofs.Ytjcopbgbmokfmaa.GlobClass Go.Proofs.YtjcopbgbmokfmaaW.PrintWords
set_option linter.unusedVariables false
set_option linter.unusedSimpArgs false
attribute [local go_sem] Oper.semAt_some

/-- The first piece of a pattern, and what is left. -/
def first : List UInt8 → Option (Pc × List UInt8)
  | [] => none
  | c :: r => if c = 42 then some (.star, r) else if c = 63 then some (.any, r) else if c = 91 then classL r else
    match nextB [] (c :: r) with
    | none => none
    | some (b, r') => some (.byte b, r')
def pcs : Nat → List UInt8 → Option (List Pc)
  | 0, _ => none
  | n + 1, l => if l = [] then some [] else match first l with
    | none => none
    | some (p, r) => (pcs n r).map (p :: ·)
/-- A pattern's pieces. -/
def patt (l : List UInt8) : Option (List Pc) := pcs (l.length + 1) l

/-- A piece's two words, in boxes of their own. -/
def PB (base : Nat) (W : World) : Pc → Value → Value → Prop
  | .star, a, b => a = .bool true ∧ b = .nilFunc
  | .any, a, b => a = .bool false ∧ b = .func (.func 21) #[] #[]
  | .byte c, a, b => a = .bool false ∧ ∃ B, base ≤ B ∧ b = .func (.func 24) #[] #[.pointer (some ⟨B, 0, none⟩)] ∧ Boxed W B 5 (.int .u8 c.toNat)
  | .cls tab no, a, b => a = .bool false ∧ ∃ B, base ≤ B ∧ b = .func (.func 31) #[] #[.pointer (some ⟨B, 0, none⟩), .pointer (some ⟨B + 1, 0, none⟩)] ∧ W.heap[B]? = some (.cells (tabC tab) 73 (0, 0)) ∧ Boxed W (B + 1) 4 (.bool no)

/-- A block that is none of a piece's boxes. -/
def NoBox (base : Nat) (W : World) : Option Nat → Prop
  | none => True
  | some g => g < base ∨ ∃ cur, W.heap[g]? = some (.cells cur 46 (0, 0))

theorem PB.kept {base : Nat} {W W' : World} {p : Pc} {a b : Value} {row : Option Nat} (h : PB base W p a b) (hg : W.grownBy W' row) (hr : NoBox base W row) : PB base W' p a b := by
  cases p with
  | star => exact h
  | any => exact h
  | byte c =>
    obtain ⟨h1, B, h2, h3, h4⟩ := h
    refine ⟨h1, B, h2, h3, h4.kept hg ?_⟩
    rintro rfl
    rcases hr with hr | ⟨cur, hr⟩
    · omega
    · rw [show W.heap[B]? = _ from h4] at hr; simp at hr
  | cls tab no =>
    obtain ⟨h1, B, h2, h3, h4, h5⟩ := h
    refine ⟨h1, B, h2, h3, ?_, h5.kept hg ?_⟩
    · rw [hg.block B (Array.getElem?_eq_some_iff.1 h4).1 ?_]
      · exact h4
      · rintro rfl
        rcases hr with hr | ⟨cur, hr⟩
        · omega
        · rw [h4] at hr; simp at hr
    · rintro rfl
      rcases hr with hr | ⟨cur, hr⟩
      · omega
      · rw [show W.heap[B + 1]? = _ from h5] at hr; simp at hr

/-- The words of a list of pieces. -/
def Each (base : Nat) (W : World) (l : List Pc) (cs : List Value) : Prop := ∀ (k : Nat) (p : Pc), l[k]? = some p → ∃ a b, cs[k * 2]? = some a ∧ cs[k * 2 + 1]? = some b ∧ PB base W p a b
theorem Each.kept {base : Nat} {W W' : World} {l : List Pc} {cs : List Value} {row : Option Nat} (h : Each base W l cs) (hg : W.grownBy W' row) (hr : NoBox base W row) : Each base W' l cs := fun k p hp => by
  obtain ⟨a, b, h1, h2, h3⟩ := h k p hp
  exact ⟨a, b, h1, h2, h3.kept hg hr⟩
theorem Each.snoc {base : Nat} {W : World} {l : List Pc} {cs : List Value} {p : Pc} {a b : Value} (h : Each base W l cs) (hl : cs.length = l.length * 2) (hp : PB base W p a b) : Each base W (l ++ [p]) (cs ++ [a, b]) := fun k q hq => by
  by_cases hk : k < l.length
  · rw [List.getElem?_append_left hk] at hq
    obtain ⟨x, y, h1, h2, h3⟩ := h k q hq
    exact ⟨x, y, by rw [List.getElem?_append_left (by omega)]; exact h1, by rw [List.getElem?_append_left (by omega)]; exact h2, h3⟩
  · rw [List.getElem?_append_right (by omega)] at hq
    obtain rfl : k = l.length := by
      have := (List.getElem?_eq_some_iff.1 hq).1
      simp at this; omega
    simp at hq
    subst hq
    exact ⟨a, b, by rw [List.getElem?_append_right (by omega), show l.length * 2 - cs.length = 0 by omega]; rfl, by rw [List.getElem?_append_right (by omega), show l.length * 2 + 1 - cs.length = 1 by omega]; rfl, hp⟩

/-- Between two pieces. -/
def Rel (w : World) (s : ByteArray) (v : Value) (wr : World) : Prop :=
  ∃ (acc : List Pc) (t : ByteArray) (cs : List Value) (n : Nat), Boxed wr w.heap.size 43 (.string t) ∧ wr.ownsRow (w.heap.size + 1) 46 2 v acc.length cs ∧ Each (w.heap.size + 1) wr acc cs ∧ Below w.heap.size w wr ∧ acc.length + t.size ≤ s.size ∧ t.size < n ∧ patt (L s) = (pcs n (L t)).map (acc ++ ·)

def leftP (R : Nat) (W : World) : Nat := match W.cell? ⟨R, 0, none⟩ with
  | some (.string c) => c.size
  | _ => 0

/-- Behind the switch: the piece, and what is left. -/
def Mid (R base X : Nat) (wr : World) (t : ByteArray) (wx : World) : Prop :=
  ∃ (p : Pc) (r : List UInt8) (a b : Value) (t2 : ByteArray), first (L t) = some (p, r) ∧ L t2 = r ∧ Boxed wx R 43 (.string t2) ∧ wx.heap[X]? = some (.cells #[a, b] 46 (0, 0)) ∧ PB base wx p a b ∧ wr.grownBy wx (some R)

theorem grown_setCell (W : World) (X j : Nat) (v : Value) : W.grownBy (W.setCell ⟨X, j, none⟩ v) (some X) :=
  ⟨rfl, rfl, rfl, by simp, fun k hk hr => Below.heap_setCell W ⟨X, j, none⟩ v k (by simpa using hr)⟩
theorem noBox_at {base : Nat} {W : World} {g : Nat} {cur : Array Value} (h : W.heap[g]? = some (.cells cur 46 (0, 0))) : NoBox base W (some g) := Or.inr ⟨cur, h⟩
theorem noBox_low {base : Nat} {W : World} {g : Nat} (h : g < base) : NoBox base W (some g) := Or.inl h

theorem two_new (W : World) (a b : Value) (T : TypeId) : ∀ (j : Nat) (u : Value), [a, b][j]? = some u → (W.alloc (.cells #[a, b] T)).cell? ((⟨W.heap.size, 0, none⟩ : Addr).add j) = some u := by
  intro j u hu
  have e := World.alloc_heap_new W (.cells #[a, b] T)
  have hadd : (⟨W.heap.size, 0, none⟩ : Addr).add j = ⟨W.heap.size, j, none⟩ := by unfold Addr.add; split <;> simp_all
  rw [hadd, cell_of_row _ _ _ _ _ _ e]
  simpa using hu

/-- The world within the switch. -/
def XW (R X : Nat) (wr : World) (a b : Value) (t : ByteArray) (wx : World) : Prop := Boxed wx R 43 (.string t) ∧ wx.heap[X]? = some (.cells #[a, b] 46 (0, 0)) ∧ wr.grownBy wx (some R)
theorem XW.setR {R X : Nat} {wr wx : World} {a b : Value} {t : ByteArray} (h : XW R X wr a b t wx) (hne : X ≠ R) (t2 : ByteArray) : XW R X wr a b t2 (wx.setCell ⟨R, 0, none⟩ (.string t2)) :=
  ⟨h.1.set _, (Below.heap_setCell wx ⟨R, 0, none⟩ _ X hne).trans h.2.1, h.2.2.trans (grownBy_setCell' wx R _)⟩
theorem XW.setX {R X : Nat} {wr wx : World} {a b : Value} {t : ByteArray} (h : XW R X wr a b t wx) (hne : R ≠ X) (hX : wr.heap.size ≤ X) (v : Value) : XW R X wr a v t (wx.setCell ⟨X, 1, none⟩ v) := by
  refine ⟨(Below.heap_setCell wx ⟨X, 1, none⟩ _ R hne).trans h.1, ?_, ?_⟩
  · exact heap_setCell_same wx X 1 #[a, b] 46 v h.2.1
  · refine ⟨h.2.2.os, h.2.2.tape, h.2.2.output, by simpa using h.2.2.size, fun j hj hr => ?_⟩
    exact (Below.heap_setCell wx ⟨X, 1, none⟩ _ j (by simp; omega)).trans (h.2.2.block j hj hr)
theorem XW.grow {R X : Nat} {wr wx wy : World} {a b : Value} {t t2 : ByteArray} (h : XW R X wr a b t wx) (hne : X ≠ R) (hg : wx.grownBy wy (some R)) (hb : Boxed wy R 43 (.string t2)) : XW R X wr a b t2 wy :=
  ⟨hb, (hg.block X (Array.getElem?_eq_some_iff.1 h.2.1).1 (by simpa using hne)).trans h.2.1, h.2.2.trans hg⟩
theorem XW.alloc {R X : Nat} {wr wx : World} {a b : Value} {t : ByteArray} (h : XW R X wr a b t wx) (o : Obj) : XW R X wr a b t (wx.alloc o) :=
  ⟨h.1.alloc _, (Below.heap_alloc _ _ _ (Array.getElem?_eq_some_iff.1 h.2.1).1).trans h.2.1, h.2.2.trans (World.grownBy_alloc _ _ _)⟩
theorem XW.lt {R X : Nat} {wr wx : World} {a b : Value} {t : ByteArray} (h : XW R X wr a b t wx) : X < wx.heap.size := (Array.getElem?_eq_some_iff.1 h.2.1).1
theorem XW.cells {R X : Nat} {wr wx : World} {a b : Value} {t : ByteArray} (h : XW R X wr a b t wx) : wx.cell? ⟨X, 0, none⟩ = some a ∧ wx.cell? ⟨X, 1, none⟩ = some b ∧ wx.frozen? ⟨X, 0, none⟩ = false ∧ wx.frozen? ⟨X, 1, none⟩ = false := by
  refine ⟨?_, ?_, ?_, ?_⟩ <;> simp [World.cell?, World.frozen?, h.2.1]

theorem PB.one {base : Nat} {W : World} {p : Pc} {a b : Value} (h : PB base W p a b) : a.oneCell' = true ∧ b.oneCell' = true := by
  cases p with
  | star => obtain ⟨rfl, rfl⟩ := h; exact ⟨rfl, rfl⟩
  | any => obtain ⟨rfl, rfl⟩ := h; exact ⟨rfl, rfl⟩
  | byte c => obtain ⟨rfl, B, _, rfl, _⟩ := h; exact ⟨rfl, rfl⟩
  | cls tab no => obtain ⟨rfl, B, _, rfl, _⟩ := h; exact ⟨rfl, rfl⟩

theorem noBox_own {base base2 size : Nat} {W : World} {v : Value} {n : Nat} {xs : List Value} (h : W.ownsRow base 46 size v n xs) : NoBox base2 W v.ownBlock := by
  rcases h.2 with ⟨rfl, _⟩ | ⟨g, cap, cur, rfl, hb, hg, _⟩
  · exact trivial
  · exact .inr ⟨cur, hg⟩

theorem below_grown {n₀ : Nat} {w w1 w2 : World} {R : Nat} (h : Below n₀ w w1) (hg : w1.grownBy w2 (some R)) (hR : n₀ ≤ R) (hw : n₀ ≤ w1.heap.size) : Below n₀ w w2 :=
  h.grown hg hw (fun k e => by cases e; exact hR)

theorem rng_len : ∀ (n : Nat) (many : Bool) (tab : Nat → Bool) (l : List UInt8) (tab' : Nat → Bool) (l' : List UInt8), rng n many tab l = some (tab', l') → l'.length < l.length
  | 0, _, _, _, _, _, h => by cases h
  | n + 1, many, tab, l, tab', l', h => by
    unfold rng at h
    by_cases h1 : many = true ∧ l.head? = some 93
    · rw [if_pos h1] at h
      cases h
      cases l with
      | nil => cases h1.2
      | cons x l => simp
    · rw [if_neg h1] at h
      cases hN : nextB [45, 93] l with
      | none => rw [hN] at h; cases h
      | some q =>
        obtain ⟨lo, l1⟩ := q
        rw [hN] at h
        have hl := nextB_len hN
        dsimp only at h
        by_cases h2 : l1.head? = some 45
        · rw [if_pos h2] at h
          cases hN2 : nextB [45, 93] l1.tail with
          | none => rw [hN2] at h; cases h
          | some q2 =>
            obtain ⟨hi, l2⟩ := q2
            rw [hN2] at h
            have hl2 := nextB_len hN2
            rw [List.length_tail] at hl2
            dsimp only at h
            by_cases h3 : hi < lo
            · rw [if_pos h3] at h; cases h
            · rw [if_neg h3] at h
              have := rng_len n _ _ _ _ _ h
              omega
        · rw [if_neg h2] at h
          have := rng_len n _ _ _ _ _ h
          omega
theorem classL_len {l : List UInt8} {p : Pc} {l' : List UInt8} (h : classL l = some (p, l')) : l'.length < l.length := by
  unfold classL at h
  cases hr : rng ((if l.head? = some 94 then l.tail else l).length + 1) false (fun _ => false) (if l.head? = some 94 then l.tail else l) with
  | none => rw [hr] at h; cases h
  | some q =>
    obtain ⟨tab, r⟩ := q
    rw [hr] at h
    cases h
    have := rng_len _ _ _ _ _ _ hr
    split at this
    · rw [List.length_tail] at this; omega
    · exact this
theorem first_len {l : List UInt8} {p : Pc} {r : List UInt8} (h : first l = some (p, r)) : r.length < l.length := by
  cases l with
  | nil => cases h
  | cons c l =>
    have h : (if c = 42 then some (.star, l) else if c = 63 then some (.any, l) else if c = 91 then classL l else
      match nextB [] (c :: l) with
      | none => none
      | some (b, r') => some (.byte b, r')) = some (p, r) := h
    by_cases h1 : c = 42
    · rw [if_pos h1] at h; cases h; simp
    · rw [if_neg h1] at h
      by_cases h2 : c = 63
      · rw [if_pos h2] at h; cases h; simp
      · rw [if_neg h2] at h
        by_cases h3 : c = 91
        · rw [if_pos h3] at h
          have := classL_len h
          simp; omega
        · rw [if_neg h3] at h
          cases hN : nextB [] (c :: l) with
          | none => rw [hN] at h; cases h
          | some q =>
            obtain ⟨b, r'⟩ := q
            rw [hN] at h
            cases h
            exact nextB_len hN

/-- What the pieces are. -/
def PPost (w : World) (s : ByteArray) (e : Ending) (w' : World) : Prop :=
  Below w.heap.size w w' ∧ match patt (L s) with
    | none => e = .returned (.tuple #[.slice none 0 0, .bool false])
    | some l => ∃ A c, e = .returned (.tuple #[.slice A l.length c, .bool true]) ∧ Lies w' A l ∧ l.length ≤ s.size

theorem info_piece : (Try.prog.info? 46).map (fun i => (i.zero, i.size, i.bytes)) = some (some (.agg #[.bool false, .nilFunc]), 2, 16) := by kernel_rfl

set_option maxRecDepth 100000 in
set_option maxHeartbeats 8000000 in
theorem pieces_calls (s : ByteArray) (hs : s.size ≤ 8796093022206) (w : World) :
    Calls Try.prog 14 #[.string s] w (PPost w s) := by
  obtain ⟨i0, hi, hz0, hz1, hz2⟩ := info_parts info_piece
  have hB0 := Boxed.new w 43 (.string s)
  have hBel : Below w.heap.size w (w.alloc (.cells #[.string s] 43)) := (Below.refl _ w).alloc (Nat.le_refl _) _
  have hst : Rel w s (.slice none 0 0) (w.alloc (.cells #[.string s] 43)) := ⟨[], s, [], s.size + 1, hB0, World.ownsRow_nil _ _ _ _, (fun k p h => by simp at h), hBel, by simp, by omega, by simp [patt, L_length]⟩
  have HST := Aside0.mk hst
  clear hst hB0 hBel
  go_enter Try.func14, Try.ntmps14
  go_wp2_with fail
  go_loopw [4] (fun v wr => Aside0 (Rel w s v wr)) (fun _ wr => leftP w.heap.size wr)
  case atStart => exact HST
  case round =>
    obtain ⟨acc, t, cs, n, hR, hrow, hE, hBel, hlen, hn, hpatt⟩ := hrel.out
    have hcR := hR.cell
    have hfR := hR.frozen
    by_cases h0 : t.toList = []
    · have b1 : (t.toList == []) = true := beq_iff_eq.2 h0
      have b1b : t.toList.isEmpty = true := by rw [h0]; rfl
      have hend : ∃ A c, u4 = .slice A acc.length c ∧ PPost w s (.returned (.tuple #[.slice A acc.length c, .bool true])) wr := by
        have hpa : patt (L s) = some acc := by
          obtain ⟨n, rfl⟩ : ∃ n', n = n' + 1 := ⟨n - 1, by omega⟩
          rw [hpatt]
          unfold pcs
          rw [if_pos (by rw [← toList_L]; exact h0)]
          simp
        rcases hrow.2 with ⟨rfl, he⟩ | ⟨g, cap, cur, rfl, hb, hg, _⟩
        · have hacc : acc = [] := List.length_eq_zero_iff.1 he
          subst hacc
          refine ⟨none, 0, rfl, hBel, ?_⟩
          rw [hpa]
          exact ⟨none, 0, rfl, (fun k p h => by simp at h), by simp⟩
        · refine ⟨_, cap, rfl, hBel, ?_⟩
          rw [hpa]
          refine ⟨_, cap, rfl, (fun k p hk => ?_), by omega⟩
          obtain ⟨a, b, e1, e2, e3⟩ := hE k p hk
          have hkl : k < acc.length := (List.getElem?_eq_some_iff.1 hk).1
          refine ⟨g, a, b, rfl, ?_, ?_, ?_⟩
          · rw [hrow.cellAt _ (by omega)]; exact e1
          · rw [hrow.cellAt _ (by omega)]; exact e2
          · cases p with
            | star => exact e3.1
            | any => exact e3
            | byte c =>
              obtain ⟨e4, B, _, e5, e6⟩ := e3
              exact ⟨e4, B, e5, e6.cell⟩
            | cls tab no =>
              obtain ⟨e4, B, _, e5, e6, e7⟩ := e3
              refine ⟨e4, B, B + 1, e5, (fun j hj => ?_), e7.cell⟩
              simp [World.cell?, e6, tab_at tab j hj]
      obtain ⟨A, c, rfl, hP⟩ := hend
      have HP := Aside0.mk hP
      clear h0 hR hrow hE hBel hpatt hrel hP
      go_wp2_with fail
      go_ret2
      exact HP.out
    · have b1 : (t.toList == []) = false := beq_eq_false_iff_ne.2 h0
      have b1b : t.toList.isEmpty = false := by simpa using h0
      have hsz : 0 < t.size := by
        rw [toList_L] at h0
        have := List.length_pos_iff.2 h0
        rwa [L_length] at this
      have h1 := Aside0.mk hR
      have h2 := Aside0.mk hrow
      have h3 := Aside0.mk hE
      have h4 := Aside0.mk hBel
      have h5 := Aside0.mk hpatt
      have H0 := Aside0.mk h0
      clear h0 hR hrow hE hBel hpatt hrel
      obtain ⟨bs, hbs⟩ : ∃ bs, ((t[0].toNat : Int) == 42) = bs := ⟨_, rfl⟩
      obtain ⟨W1, hW1⟩ : ∃ W1, wr.alloc (.cells #[.bool ((t[0].toNat : Int) == 42), .nilFunc] 46) = W1 := ⟨_, rfl⟩
      have hBx : Boxed W1 w.heap.size 43 (.string t) := by rw [← hW1]; exact h1.out.alloc _
      have hXx : W1.heap[wr.heap.size]? = some (.cells #[.bool bs, .nilFunc] 46 (0, 0)) := by rw [← hW1, hbs]; exact World.alloc_heap_new _ _
      have hg1 : wr.grownBy W1 (some w.heap.size) := by rw [← hW1]; exact World.grownBy_alloc wr _ _
      have hRlt : w.heap.size < wr.heap.size := h1.out.lt
      have hsz1 : wr.heap.size < W1.heap.size := by rw [← hW1]; simp
      have hcW := hBx.cell
      have hfW := hBx.frozen
      have hcX : W1.cell? ⟨wr.heap.size, 1, none⟩ = some .nilFunc := by simp [World.cell?, hXx]
      have hfX : W1.frozen? ⟨wr.heap.size, 1, none⟩ = false := by simp [World.frozen?, hXx]
      have HBx := Aside0.mk hBx
      have HXx := Aside0.mk hXx
      have Hbs := Aside0.mk hbs
      clear hBx hXx hbs
      go_upto_block 2 with fail
      have HW1 := Aside0.mk hW1
      clear hW1 hcR hfR
      go_cut [] (fun wx => Mid w.heap.size (w.heap.size + 1) wr.heap.size wr t wx)
      have hXW : XW w.heap.size wr.heap.size wr (.bool bs) .nilFunc t (W1.setCell ⟨wr.heap.size, 1, none⟩ .nilFunc) := XW.setX ⟨HBx.out, HXx.out, hg1⟩ (by omega) (Nat.le_refl _) _
      have HXW := Aside0.mk hXW
      have hneX : wr.heap.size ≠ w.heap.size := by omega
      have hXR := fun t2 => hXW.setR hneX t2
      have HXR := Aside0.mk hXR
      have hnx := next_calls ⟨#[]⟩ t w.heap.size _ hXW.1
      have hcl := class_calls (t.extract 1 t.size) w.heap.size _ (hXR (t.extract 1 t.size)).1 (by rw [ByteArray.size_extract]; omega)
      have HNX := Aside0.mk hnx
      have HCL := Aside0.mk hcl
      have hend : first (L t) = none → ∀ W', wr.grownBy W' (some w.heap.size) → PPost w s (.returned (.tuple #[.slice none 0 0, .bool false])) W' := by
        intro hF W' hgW
        refine ⟨below_grown h4.out hgW (Nat.le_refl _) (by omega), ?_⟩
        obtain ⟨n, rfl⟩ : ∃ n', n = n' + 1 := ⟨n - 1, by omega⟩
        have : patt (L s) = none := by
          rw [h5.out]
          unfold pcs
          rw [if_neg (by rw [← toList_L]; exact H0.out), hF]; rfl
        rw [this]
      have HEND := Aside0.mk hend
      clear hXW hXR hnx hcl hend
      case first =>
        have hLt : L t = t[0] :: L (t.extract 1 t.size) := by
          have h := List.drop_eq_getElem_cons (i := 0) (l := L t) (by rw [L_length]; exact hsz)
          rw [List.drop_zero] at h
          rw [L_tail]; exact h
        by_cases e42 : t[0] = 42
        · have f42 : ((t[0].toNat : Int) == 42) = true := by rw [e42]; rfl
          have hF : first (L t) = some (.star, L (t.extract 1 t.size)) := by rw [hLt]; exact if_pos e42
          have HF := Aside0.mk hF
          clear hLt e42 hF
          go_wp2_with fail
          go_meet
          obtain rfl : bs = true := Hbs.out.symm.trans f42
          have hx := HXR.out (t.extract 1 t.size)
          exact ⟨.star, _, _, _, _, HF.out, rfl, hx.1, hx.2.1, ⟨rfl, rfl⟩, hx.2.2⟩
        · have f42 : ((t[0].toNat : Int) == 42) = false := (int_eq t[0] 42).trans (beq_eq_false_iff_ne.2 e42)
          by_cases e63 : t[0] = 63
          · have f63 : ((t[0].toNat : Int) == 63) = true := by rw [e63]; rfl
            have hF : first (L t) = some (.any, L (t.extract 1 t.size)) := by rw [hLt]; exact (if_neg e42).trans (if_pos e63)
            have HF := Aside0.mk hF
            clear hLt e42 hF e63
            go_wp2_with fail
            go_meet
            obtain rfl : bs = false := Hbs.out.symm.trans f42
            have hx := (HXR.out (t.extract 1 t.size)).setX hneX.symm (Nat.le_refl _) (.func (.func 21) #[] #[])
            exact ⟨.any, _, _, _, _, HF.out, rfl, hx.1, hx.2.1, ⟨rfl, rfl⟩, hx.2.2⟩
          · have f63 : ((t[0].toNat : Int) == 63) = false := (int_eq t[0] 63).trans (beq_eq_false_iff_ne.2 e63)
            by_cases e91 : t[0] = 91
            · have f91 : ((t[0].toNat : Int) == 91) = true := by rw [e91]; rfl
              have hF : first (L t) = classL (L (t.extract 1 t.size)) := by rw [hLt]; exact (if_neg e42).trans ((if_neg e63).trans (if_pos e91))
              have HF := Aside0.mk hF
              clear hLt e42 hF e63 e91
              go_wp2_with fail
              refine HCL.out.mono ?_
              rintro e w' ⟨t2, hP⟩
              cases hcl : classL (L (t.extract 1 t.size)) with
              | none =>
                rw [hcl] at hP
                obtain ⟨rfl, hb2, hg2⟩ := hP
                have Hb2 := Aside0.mk hb2
                have HN := Aside0.mk (HF.out.trans hcl)
                clear hcl hb2
                go_wp2_with fail
                go_ret2
                exact HEND.out HN.out _ ((HXR.out _).2.2.trans hg2)
              | some q =>
                obtain ⟨p, r⟩ := q
                rw [hcl] at hP
                obtain ⟨tab, no, rfl, rfl, hIn, hLr⟩ := hP
                have HN := Aside0.mk (HF.out.trans hcl)
                have hx0 := (HXR.out (t.extract 1 t.size)).grow hneX hIn.2.2.2.1 hIn.1
                obtain ⟨_, hcx1, _, hfx1⟩ := hx0.cells
                have Hx0 := Aside0.mk hx0
                have HIn := Aside0.mk hIn
                have HLr := Aside0.mk hLr
                have hXl := (HXR.out (t.extract 1 t.size)).lt
                clear hcl hIn hx0 hLr
                go_wp2_with fail
                go_meet
                obtain rfl : bs = false := Hbs.out.symm.trans f42
                have hx := Hx0.out.setX hneX.symm (Nat.le_refl _) (.func (.func 31) #[] #[.pointer (some ⟨W1.heap.size, 0, none⟩), .pointer (some ⟨W1.heap.size + 1, 0, none⟩)])
                have hPB : PB (w.heap.size + 1) w' (.cls tab no) (.bool false) (.func (.func 31) #[] #[.pointer (some ⟨W1.heap.size, 0, none⟩), .pointer (some ⟨W1.heap.size + 1, 0, none⟩)]) :=
                  ⟨rfl, W1.heap.size, by omega, rfl, by simpa using HIn.out.2.1, by simpa using HIn.out.2.2.1⟩
                exact ⟨_, _, _, _, _, HN.out, HLr.out, hx.1, hx.2.1, hPB.kept (grown_setCell w' wr.heap.size 1 _) (noBox_at Hx0.out.2.1), hx.2.2⟩
            · have f91 : ((t[0].toNat : Int) == 91) = false := (int_eq t[0] 91).trans (beq_eq_false_iff_ne.2 e91)
              have hF : first (L t) = match nextB [] (L t) with
                | none => none
                | some (b, r') => some (.byte b, r') := by rw [hLt]; exact (if_neg e42).trans ((if_neg e63).trans (if_neg e91))
              have HF := Aside0.mk hF
              clear hLt e42 hF e63 e91
              go_wp2_with fail
              refine HNX.out.mono ?_
              rintro e w' ⟨t2, hT, hP⟩
              rw [show L (⟨#[]⟩ : ByteArray) = [] from rfl] at hP
              have hx0 := HXW.out.grow hneX hT.2.1 hT.1
              cases hnb : nextB [] (L t) with
              | none =>
                rw [hnb] at hP
                subst hP
                have HN := Aside0.mk (HF.out.trans (by rw [hnb]))
                have Hx0 := Aside0.mk hx0
                clear hnb hT hx0
                go_wp2_with fail
                go_ret2
                exact HEND.out HN.out _ (Hx0.out.alloc _).2.2
              | some q =>
                obtain ⟨b, r⟩ := q
                rw [hnb] at hP
                obtain ⟨rfl, hLr⟩ := hP
                have HN := Aside0.mk (HF.out.trans (by rw [hnb]))
                have hx1 := hx0.alloc (.cells #[.int .u8 b.toNat] 5)
                have hbb := Boxed.new w' 5 (.int .u8 b.toNat)
                obtain ⟨_, hcx1, _, hfx1⟩ := hx1.cells
                have hsw : w.heap.size < w'.heap.size := by have := hx0.lt; omega
                have Hx1 := Aside0.mk hx1
                have HLr := Aside0.mk hLr
                have Hbb := Aside0.mk hbb
                clear hnb hT hx0 hx1 hLr hbb
                go_wp2_with fail
                go_meet
                obtain rfl : bs = false := Hbs.out.symm.trans f42
                have hx := Hx1.out.setX hneX.symm (Nat.le_refl _) (.func (.func 24) #[] #[.pointer (some ⟨w'.heap.size, 0, none⟩)])
                have hPB : PB (w.heap.size + 1) _ (.byte b) (.bool false) (.func (.func 24) #[] #[.pointer (some ⟨w'.heap.size, 0, none⟩)]) :=
                  ⟨rfl, w'.heap.size, by omega, rfl, Hbb.out⟩
                exact ⟨_, _, _, _, _, HN.out, HLr.out, hx.1, hx.2.1, hPB.kept (grown_setCell _ wr.heap.size 1 _) (noBox_at Hx1.out.2.1), hx.2.2⟩
      case rest =>
        obtain ⟨p, r, a, b, t2, hF, hL2, hR2, hX2, hPB, hgr⟩ := hcut
        obtain ⟨ho1, ho2⟩ := hPB.one
        have hxw : XW w.heap.size wr.heap.size wr a b t2 wc := ⟨hR2, hX2, hgr⟩
        obtain ⟨hcx0, hcx1, hfx0, hfx1⟩ := hxw.cells
        have hrow1 := h2.out.kept hgr (by
          rcases h2.out.2 with ⟨rfl, _⟩ | ⟨g, cap, cur, rfl, hb, _⟩
          · exact .inl rfl
          · exact .inr (by simp [Value.ownBlock]; omega))
        have hE1 := h3.out.kept hgr (noBox_low (by omega))
        have hlt2 : t2.size < t.size := by
          have := first_len hF
          rw [← hL2, L_length, L_length] at this
          exact this
        have Hrow1 := Aside0.mk hrow1
        have HE1 := Aside0.mk hE1
        have HPB := Aside0.mk hPB
        have HR2 := Aside0.mk hR2
        have HF := Aside0.mk hF
        have HL2 := Aside0.mk hL2
        have hbase : w.heap.size + 1 ≤ wc.heap.size := by have := hgr.size; omega
        have hxg := hgr
        clear hrow1 hE1 hPB hR2 hF hL2 hX2 hgr hxw
        go_wp2_with (at_builtin; refine wpList_append_own _ rfl _ _ 32 rfl (w.heap.size + 1) 46 i0 (.agg #[.bool false, .nilFunc]) 2 16 Try.underlying32 hi hz0 hz1 hz2 rfl (by decide) _ _ _ rfl (Hrow1.out.alloc _) ⟨wc.heap.size, 0, none⟩ 1 1 [a, b] rfl rfl ?c1 ?c2 ?c3 ?c4 ?c5 ?_)
        case c1 => exact two_new wc a b _
        case c2 =>
          intro u hu
          simp only [List.mem_cons, List.not_mem_nil, or_false] at hu
          rcases hu with rfl | rfl
          · exact ho1
          · exact ho2
        case c3 => unfold maxLen; omega
        case c4 => omega
        case c5 => simp; omega
        intro v1 w1 hown1 hgrow1 _
        have hnb := noBox_own (base2 := w.heap.size + 1) (Hrow1.out.alloc (.cells #[a, b] 46))
        have hE2 := (HE1.out.kept (World.grownBy_alloc wc _ none) trivial).kept hgrow1 hnb
        have hPB2 := (HPB.out.kept (World.grownBy_alloc wc _ none) trivial).kept hgrow1 hnb
        have hR3 := (HR2.out.alloc (.cells #[a, b] 46)).kept hgrow1 (by
          intro e
          have := (Hrow1.out.lt _ e.symm).1
          omega)
        have hBel3 : Below w.heap.size w w1 := by
          refine (((below_grown h4.out hxg (Nat.le_refl _) (by omega)).alloc (by omega) _).grown hgrow1 (by simp; omega) ?_)
          intro k e
          have := (Hrow1.out.lt _ e).1
          omega
        have hcs : cs.length = acc.length * 2 := h2.out.1
        have hE3 := hE2.snoc hcs hPB2
        have hp3 : patt (L s) = (pcs (n - 1) (L t2)).map ((acc ++ [p]) ++ ·) := by
          obtain ⟨n, rfl⟩ : ∃ n', n = n' + 1 := ⟨n - 1, by omega⟩
          rw [h5.out, HL2.out]
          conv => lhs; unfold pcs
          rw [if_neg (by rw [← toList_L]; exact H0.out), HF.out]
          simp [Option.map_map, Function.comp_def]
        have hrel3 : Rel w s v1 w1 := ⟨acc ++ [p], t2, cs ++ [a, b], n - 1, hR3, by simpa using hown1, hE3, hBel3, by simp; omega, by omega, hp3⟩
        have hm3 : leftP w.heap.size w1 < leftP w.heap.size wr := by
          unfold leftP
          rw [hR3.cell, h1.out.cell]
          exact hlt2
        have HREL := Aside0.mk hrel3
        have HME := Aside0.mk hm3
        clear hrel3 hm3 hE3 hp3 hcs hBel3 hR3 hPB2 hE2 hnb hgrow1 hown1
        go_wp2_with fail
        go_roundw
        case rel => exact HREL
        case measure => exact HME.out

end Go.Proofs.Ytjcopbgbmokfmaa.GlobPieces
