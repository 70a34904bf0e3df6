/- The parser of expressions: what it does, and the walk. The conditions: the machine's sizes. -/
import Derived.Test.YtjndccjpjknbkaaDoorExNode
import Derived.Test.YtjndccjpjknbkaaDoorExTag
import Derived.Deep.LoopGhost
namespace Go.Proofs.YtjndccjpjknbkaaDoor.ExParse
open Go Go.Proofs Go.RowKit Go.Proofs.YtjndccjpjknbkaaDoorW.PrintWords Go.Proofs.YtjndccjpjknbkaaDoor.BytesLib Go.Proofs.YtjndccjpjknbkaaDoor.ExLib Go.Proofs.YtjndccjpjknbkaaDoor.ExNode Go.Proofs.YtjndccjpjknbkaaDoor.ExTag
set_option linter.unusedVariables false
set_option linter.unusedSimpArgs false

/-- A parser's state. -/
structure St where
  s : ByteArray
  l : List Nd
  ok : Bool

def takeF (t : ByteArray) (x : St) : Bool × St := (takeB x.s t, ⟨takeS x.s t, x.l, x.ok⟩)
def putF (n : Nd) (x : St) : Int × St := ((x.l.length : Int), ⟨x.s, x.l ++ [n], x.ok && decide (x.l.length + 1 ≤ 60)⟩)
def e0 : ByteArray := ⟨#[]⟩

/-- The loop of a row of things. -/
def loopF (kind : Int) (sign : ByteArray) (one : St → Int × St) : Nat → Int → St → Int × St
  | 0, a, x => if x.ok = true then (a, (takeF sign x).2) else (a, x)
  | m + 1, a, x =>
    if x.ok = true then
      if (takeF sign x).1 = true then loopF kind sign one m (putF ⟨kind, e0, a, (one (takeF sign x).2).1⟩ (one (takeF sign x).2).2).1 (putF ⟨kind, e0, a, (one (takeF sign x).2).1⟩ (one (takeF sign x).2).2).2
      else (a, (takeF sign x).2)
    else (a, x)
def rowF (kind : Int) (sign : ByteArray) (one : St → Int × St) (m : Nat) (x : St) : Int × St := loopF kind sign one m (one x).1 (one x).2

/-- How many letters there are ahead. -/
def pre (l : List UInt8) : Nat := (l.takeWhile letB).length
def tagF (x : St) : Int × St := putF ⟨0, ofL ((L x.s).take (pre (L x.s))), 0, 0⟩ ⟨ofL ((L x.s).drop (pre (L x.s))), x.l, tagL ((L x.s).take (pre (L x.s)))⟩

def bang : ByteArray := ⟨#[33]⟩
def lpar : ByteArray := ⟨#[40]⟩
def rpar : ByteArray := ⟨#[41]⟩
def oror : ByteArray := ⟨#[124, 124]⟩
def andand : ByteArray := ⟨#[38, 38]⟩

/-- Behind what stands in parentheses. -/
def closeF (x : St) : St := if x.ok = true then ⟨(takeF rpar x).2.s, (takeF rpar x).2.l, (takeF rpar x).1⟩ else x

/-- Behind one "!": a second one may not be. -/
def bangSt (x : St) : St := ⟨takeS (takeS x.s bang) bang, x.l, !takeB (takeS x.s bang) bang⟩
/-- Behind "(", and where there is none. -/
def parSt (x : St) (ok : Bool) : St := ⟨takeS (takeS x.s bang) lpar, x.l, ok⟩

/-- not: no more rounds than the text has bytes. -/
def notF : Nat → Int → St → Int × St
  | 0, _, x => (0, x)
  | n + 1, d, x =>
    if x.ok = false then (0, x)
    else if takeB x.s bang = true then putF ⟨1, e0, (notF n d (bangSt x)).1, 0⟩ (notF n d (bangSt x)).2
    else if takeB (takeS x.s bang) lpar = true then
      if 0 < d then ((rowF 3 oror (rowF 2 andand (notF n (d - 1)) n) n (parSt x true)).1, closeF (rowF 3 oror (rowF 2 andand (notF n (d - 1)) n) n (parSt x true)).2)
      else (0, parSt x false)
    else tagF (parSt x x.ok)
def andF (n : Nat) (d : Int) (x : St) : Int × St := rowF 2 andand (notF n d) n x
def orF (n : Nat) (d : Int) (x : St) : Int × St := rowF 3 oror (andF n d) n x

theorem i64_w' (n : Int) : IntKind.i64.wrap n = wrap64 n := by unfold wrap64; exact IntKind.wrap_i64 n

/-! ### Sizes -/
theorem dropWhile_len (p : UInt8 → Bool) : ∀ l : List UInt8, (l.dropWhile p).length ≤ l.length
  | [] => Nat.le_refl _
  | a :: l => by
    have := dropWhile_len p l
    rw [List.dropWhile_cons]
    split
    · simp; omega
    · simp
theorem trimL_size (s t : ByteArray) : (trimL s t).size ≤ s.size := by
  unfold trimL Lib.trimLeftS
  rw [show (⟨(s.data.toList.dropWhile (t.data.toList.contains ·)).toArray⟩ : ByteArray).size = (s.data.toList.dropWhile (t.data.toList.contains ·)).length from rfl]
  refine Nat.le_trans (dropWhile_len _ _) ?_
  rw [show s.data.toList.length = s.size from L_length s]
  exact Nat.le_refl _
theorem cutP_size (s t : ByteArray) : (cutP s t).size = if hasP s t = true then s.size - t.size else s.size := by
  unfold cutP hasP Lib.trimPrefix
  rw [show ∀ l : List UInt8, (⟨l.toArray⟩ : ByteArray).size = l.length from fun l => rfl]
  by_cases h : Lib.hasPrefix s.data.toList t.data.toList = true
  · rw [if_pos h, if_pos h, List.length_drop]
    rw [show s.data.toList.length = s.size from L_length s, show t.data.toList.length = t.size from L_length t]
  · rw [if_neg h, if_neg h]; exact L_length s
theorem hasP_size {s t : ByteArray} (h : hasP s t = true) : t.size ≤ s.size := by
  unfold hasP Lib.hasPrefix at h
  have := List.IsPrefix.length_le (List.isPrefixOf_iff_prefix.1 h)
  rw [show s.data.toList.length = s.size from L_length s, show t.data.toList.length = t.size from L_length t] at this
  exact this
theorem takeS_size (s t : ByteArray) : (takeS s t).size ≤ s.size := by
  unfold takeS
  rw [cutP_size]
  have := trimL_size s bl
  split <;> omega
theorem takeS_lt {s t : ByteArray} (h : takeB s t = true) : (takeS s t).size + t.size ≤ s.size := by
  unfold takeB at h
  unfold takeS
  rw [cutP_size, if_pos h]
  have := trimL_size s bl
  have := hasP_size h
  omega

/-- The bound of all sizes. -/
def M : Nat := 1099511627776
/-- A function of the parser does this to any state of at most K bytes. -/
def Runs (B : Nat) (g : FuncId) (args : Array Value) (F : St → Int × St) (K : Nat) : Prop := ∀ (x : St) (w : World), x.s.size ≤ K → x.l.length + x.s.size ≤ M → PS w B x.s x.l x.ok →
  Calls Tryd.prog g args w fun e w' => e = .returned (.int .i64 (F x).1) ∧ PS w' B (F x).2.s (F x).2.l (F x).2.ok ∧ Below B w w'
/-- It takes bytes alone, and puts no more nodes than bytes, but one. -/
def Good (F : St → Int × St) (K : Nat) : Prop := ∀ x : St, x.s.size ≤ K → (F x).2.s.size ≤ x.s.size ∧ (F x).2.l.length + (F x).2.s.size ≤ x.l.length + x.s.size + 1

theorem putF_l (n : Nd) (x : St) : (putF n x).2.l.length = x.l.length + 1 := by simp [putF]
theorem loop_good {kind : Int} {sign : ByteArray} {one : St → Int × St} {K : Nat} (h : Good one K) (hs : 2 ≤ sign.size) : ∀ (m : Nat) (a : Int) (x : St), x.s.size ≤ K →
    (loopF kind sign one m a x).2.s.size ≤ x.s.size ∧ (loopF kind sign one m a x).2.l.length + (loopF kind sign one m a x).2.s.size ≤ x.l.length + x.s.size
  | 0, a, x, hx => by
    unfold loopF
    have := takeS_size x.s sign
    split
    · exact ⟨this, by show x.l.length + (takeS x.s sign).size ≤ _; omega⟩
    · exact ⟨Nat.le_refl _, Nat.le_refl _⟩
  | m + 1, a, x, hx => by
    unfold loopF
    have h0 := takeS_size x.s sign
    split
    · split
      · rename_i h1
        have h2 := takeS_lt (s := x.s) (t := sign) h1
        have h3 := h (takeF sign x).2 (by show (takeS x.s sign).size ≤ K; omega)
        obtain ⟨h4, h5⟩ := h3
        have h6 : (takeF sign x).2.s.size = (takeS x.s sign).size := rfl
        have h7 : (takeF sign x).2.l.length = x.l.length := rfl
        have h8 := loop_good (kind := kind) h hs m (putF ⟨kind, e0, a, (one (takeF sign x).2).1⟩ (one (takeF sign x).2).2).1 (putF ⟨kind, e0, a, (one (takeF sign x).2).1⟩ (one (takeF sign x).2).2).2 (by show (one (takeF sign x).2).2.s.size ≤ K; omega)
        rw [putF_l] at h8
        have h9 : (putF ⟨kind, e0, a, (one (takeF sign x).2).1⟩ (one (takeF sign x).2).2).2.s.size = (one (takeF sign x).2).2.s.size := rfl
        omega
      · exact ⟨h0, by show x.l.length + (takeS x.s sign).size ≤ _; omega⟩
    · exact ⟨Nat.le_refl _, Nat.le_refl _⟩
theorem row_good {kind : Int} {sign : ByteArray} {one : St → Int × St} {K : Nat} (h : Good one K) (hs : 2 ≤ sign.size) (m : Nat) : Good (rowF kind sign one m) K := fun x hx => by
  obtain ⟨h1, h2⟩ := h x hx
  obtain ⟨h3, h4⟩ := loop_good (kind := kind) h hs m (one x).1 (one x).2 (by omega)
  unfold rowF
  omega

set_option maxRecDepth 100000 in
set_option maxHeartbeats 4000000 in
/-- row of things, with a sign between two. -/
theorem row_runs {B : Nat} {kind d : Int} {sign : ByteArray} {one : St → Int × St} {K : Nat} {g : FuncId} (heg : ∀ args w, (callFunc g args).run Tryd.prog w = .ok (.enter g args) w) (hs : 2 ≤ sign.size) (hone : Runs B g #[.pointer (some ⟨B, 0, none⟩), .int .i64 d] one K) (hgood : Good one K) (m : Nat) (hm : K ≤ m) :
    Runs B 64 #[.pointer (some ⟨B, 0, none⟩), .int .i64 kind, .string sign, .func (.func g) #[.pointer (some ⟨B, 0, none⟩)] #[], .int .i64 d] (rowF kind sign one m) K := by
  intro x w hx hM hp
  obtain ⟨hg1, hg2⟩ := hgood x hx
  have H1 := Aside0.mk (hone x w hx hM hp)
  have HONE := Aside0.mk hone
  clear hone hp
  go_enter Tryd.func64, Tryd.ntmps64
  go_wp2_with fail
  refine H1.out.mono ?_
  rintro e w1 ⟨rfl, hp1, hb1⟩
  have HP1 := Aside0.mk hp1
  have HB1 := Aside0.mk hb1
  clear hp1 hb1 H1
  go_wp2_with fail
  go_loopg [11, 12] m (fun gg s11 _ wr => ∃ (a : Int) (y : St), s11 = .int .i64 a ∧ y.s.size ≤ gg ∧ y.s.size ≤ K ∧ y.l.length + y.s.size ≤ x.l.length + x.s.size + 1 ∧ Aside0 (PS wr B y.s y.l y.ok) ∧ Aside0 (loopF kind sign one gg a y = rowF kind sign one m x) ∧ Aside0 (Below B w wr))
  case atStart => exact ⟨(one x).1, (one x).2, rfl, by omega, by omega, hg2, HP1, ⟨rfl⟩, HB1⟩
  case round =>
    obtain ⟨a, y, rfl, hy1, hy2, hy3, HP, HF, HB⟩ := hrel
    obtain ⟨v, -, -, c2, -, -, -, -⟩ := HP.out.cells
    cases hok : y.ok with
    | false =>
      rw [hok] at c2
      have hF : (a, y) = rowF kind sign one m x := by
        rw [← HF.out]
        cases gk <;> (unfold loopF; rw [if_neg (by rw [hok]; decide)])
      have HF2 := Aside0.mk hF
      clear hF HF hok
      go_wp2_with fail
      go_ret
      rw [← HF2.out]
      exact ⟨rfl, HP.out, HB.out⟩
    | true =>
      rw [hok] at c2
      have HT := Aside0.mk (take_calls B y.s sign y.l y.ok wr HP.out)
      have hlts := takeS_size y.s sign
      cases hb : takeB y.s sign with
      | false =>
        have hF : (a, (takeF sign y).2) = rowF kind sign one m x := by
          rw [← HF.out]
          cases gk with
          | zero => unfold loopF; rw [if_pos hok]
          | succ k => unfold loopF; rw [if_pos hok, if_neg (by show ¬ takeB y.s sign = true; rw [hb]; decide)]
        rw [hb] at HT
        have HF2 := Aside0.mk hF
        clear hF HF hok hb hlts
        go_wp2_with fail
        refine HT.out.mono ?_
        rintro e w2 ⟨rfl, hp2, hb2⟩
        have HP2 := Aside0.mk hp2
        have HB2 := Aside0.mk (HB.out.trans hb2)
        clear hp2 hb2 HT c2
        go_wp2_with fail
        go_ret
        rw [← HF2.out]
        exact ⟨rfl, HP2.out, HB2.out⟩
      | true =>
        have hlt := takeS_lt (s := y.s) (t := sign) hb
        obtain ⟨k, rfl⟩ : ∃ k, gk = k + 1 := ⟨gk - 1, by omega⟩
        have hF : loopF kind sign one k (putF ⟨kind, e0, a, (one (takeF sign y).2).1⟩ (one (takeF sign y).2).2).1 (putF ⟨kind, e0, a, (one (takeF sign y).2).1⟩ (one (takeF sign y).2).2).2 = rowF kind sign one m x := by
          rw [← HF.out]
          conv => rhs; unfold loopF
          rw [if_pos hok, if_pos (show (takeF sign y).1 = true from hb)]
        rw [hb] at HT
        have HF2 := Aside0.mk hF
        obtain ⟨z, hz⟩ : ∃ z, (takeF sign y).2 = z := ⟨_, rfl⟩
        have hzs : z.s = takeS y.s sign := by rw [← hz]; rfl
        have hzl : z.l = y.l := by rw [← hz]; rfl
        have hzo : z.ok = y.ok := by rw [← hz]; rfl
        have HZ := Aside0.mk (show z.s = takeS y.s sign ∧ z.l = y.l ∧ z.ok = y.ok from ⟨hzs, hzl, hzo⟩)
        rw [hz] at HF2
        have hz1 : z.s.size ≤ K := by rw [hzs]; omega
        have hz2 : z.l.length + z.s.size + 1 ≤ x.l.length + x.s.size := by rw [hzs, hzl]; omega
        have hz3 : z.s.size ≤ k := by rw [hzs]; omega
        obtain ⟨hg3, hg4⟩ := hgood z hz1
        clear hF HF hok hb hlts hlt hzs hzl hzo hz
        go_wp2_with fail
        refine HT.out.mono ?_
        rintro e w2 ⟨rfl, hp2, hb2⟩
        rw [← HZ.out.1, ← HZ.out.2.1, ← HZ.out.2.2] at hp2
        have HO2 := Aside0.mk (HONE.out z w2 hz1 (by omega) hp2)
        have HB2 := Aside0.mk (HB.out.trans hb2)
        clear hp2 hb2 HT c2
        go_wp2_with fail
        refine HO2.out.mono ?_
        rintro e w3 ⟨rfl, hp3, hb3⟩
        have HB3 := Aside0.mk (HB2.out.trans hb3)
        obtain ⟨q, hq⟩ : ∃ q, one z = q := ⟨_, rfl⟩
        rw [hq] at hp3 HF2 hg3 hg4
        have HP3 := Aside0.mk (put_calls B q.2.s q.2.l q.2.ok ⟨kind, e0, a, q.1⟩ w3 hp3 (by unfold M at hM; omega))
        rw [hq]
        clear hp3 hb3 HO2 hq
        go_wp2_with fail
        refine HP3.out.mono ?_
        rintro e w4 ⟨rfl, hp4, hb4⟩
        have HB4 := Aside0.mk (HB3.out.trans hb4)
        have HP4 := Aside0.mk hp4
        clear hp4 hb4 HP3
        go_wp2_with fail
        go_roundg k
        case measure => omega
        case rel =>
          refine ⟨_, (putF ⟨kind, e0, a, q.1⟩ q.2).2, rfl, ?_, ?_, ?_, HP4, HF2, HB4⟩
          · show q.2.s.size ≤ k; omega
          · show q.2.s.size ≤ K; omega
          · rw [putF_l]; show q.2.l.length + 1 + q.2.s.size ≤ _; omega

set_option maxRecDepth 100000 in
set_option maxHeartbeats 1000000 in
theorem and_runs {B : Nat} {d : Int} {F : St → Int × St} {K : Nat} (hn : Runs B 76 #[.pointer (some ⟨B, 0, none⟩), .int .i64 d] F K) (hg : Good F K) (m : Nat) (hm : K ≤ m) :
    Runs B 65 #[.pointer (some ⟨B, 0, none⟩), .int .i64 d] (rowF 2 andand F m) K := by
  intro x w hx hM hp
  have H := Aside0.mk (row_runs (kind := 2) (sign := andand) (g := 76) (enters_of Tryd.func76 (by kernel_rfl) rfl) (by decide) hn hg m hm x w hx hM hp)
  clear hn hp
  generalize rowF 2 andand F m x = R at H ⊢
  go_enter Tryd.func65, Tryd.ntmps65
  go_wp2_with fail
  refine H.out.mono ?_
  rintro e w1 ⟨rfl, hp1, hb1⟩
  have HP1 := Aside0.mk hp1
  have HB1 := Aside0.mk hb1
  clear hp1 hb1 H
  go_wp2_with fail
  go_ret
  exact ⟨rfl, HP1.out, HB1.out⟩
set_option maxRecDepth 100000 in
set_option maxHeartbeats 1000000 in
theorem or_runs {B : Nat} {d : Int} {F : St → Int × St} {K : Nat} (hn : Runs B 65 #[.pointer (some ⟨B, 0, none⟩), .int .i64 d] F K) (hg : Good F K) (m : Nat) (hm : K ≤ m) :
    Runs B 42 #[.pointer (some ⟨B, 0, none⟩), .int .i64 d] (rowF 3 oror F m) K := by
  intro x w hx hM hp
  have H := Aside0.mk (row_runs (kind := 3) (sign := oror) (g := 65) (enters_of Tryd.func65 (by kernel_rfl) rfl) (by decide) hn hg m hm x w hx hM hp)
  clear hn hp
  generalize rowF 3 oror F m x = R at H ⊢
  go_enter Tryd.func42, Tryd.ntmps42
  go_wp2_with fail
  refine H.out.mono ?_
  rintro e w1 ⟨rfl, hp1, hb1⟩
  have HP1 := Aside0.mk hp1
  have HB1 := Aside0.mk hb1
  clear hp1 hb1 H
  go_wp2_with fail
  go_ret
  exact ⟨rfl, HP1.out, HB1.out⟩

theorem closeF_s (x : St) : (closeF x).s.size ≤ x.s.size ∧ (closeF x).l = x.l := by
  unfold closeF
  split
  · exact ⟨takeS_size _ _, rfl⟩
  · exact ⟨Nat.le_refl _, rfl⟩
theorem tagF_s (x : St) : (tagF x).2.s.size ≤ x.s.size ∧ (tagF x).2.l.length = x.l.length + 1 := by
  refine ⟨?_, putF_l _ _⟩
  show (ofL _).size ≤ _
  rw [size_ofL, List.length_drop, L_length]
  omega
theorem not_good : ∀ (n : Nat) (d : Int) (K : Nat), K < n → Good (notF n d) K
  | 0, d, K, h => absurd h (Nat.not_lt_zero _)
  | n + 1, d, K, h => fun x hx => by
    unfold notF
    have t1 := takeS_size x.s bang
    have t2 := takeS_size (takeS x.s bang) bang
    have v1 : (bangSt x).s.size = (takeS (takeS x.s bang) bang).size := rfl
    have v2 : (bangSt x).l.length = x.l.length := rfl
    have t3 := takeS_size (takeS x.s bang) lpar
    split
    · exact ⟨Nat.le_refl _, Nat.le_succ _⟩
    · split
      · rename_i hb
        have hlt := takeS_lt (s := x.s) (t := bang) hb
        have e1 : bang.size = 1 := rfl
        obtain ⟨i1, i2⟩ := not_good n d (K - 1) (by omega) (bangSt x) (by omega)
        rw [putF_l]
        have h1 : (putF ⟨1, e0, (notF n d (bangSt x)).1, 0⟩ (notF n d (bangSt x)).2).2.s.size = (notF n d (bangSt x)).2.s.size := rfl
        omega
      · split
        · rename_i hb
          have hlt := takeS_lt (s := takeS x.s bang) (t := lpar) hb
          have e1 : lpar.size = 1 := rfl
          split
          · have p1 : (parSt x true).s.size = (takeS (takeS x.s bang) lpar).size := rfl
            have p2 : (parSt x true).l.length = x.l.length := rfl
            have g1 := row_good (kind := 2) (sign := andand) (not_good n (d - 1) (K - 1) (by omega)) (by decide) n
            obtain ⟨i1, i2⟩ := row_good (kind := 3) (sign := oror) g1 (by decide) n (parSt x true) (by omega)
            obtain ⟨c1, c2⟩ := closeF_s (rowF 3 oror (rowF 2 andand (notF n (d - 1)) n) n (parSt x true)).2
            show (closeF _).s.size ≤ _ ∧ (closeF _).l.length + (closeF _).s.size ≤ _
            rw [c2]
            omega
          · show (takeS (takeS x.s bang) lpar).size ≤ _ ∧ x.l.length + (takeS (takeS x.s bang) lpar).size ≤ _
            omega
        · obtain ⟨h1, h2⟩ := tagF_s (parSt x x.ok)
          have p1 : (parSt x x.ok).s.size = (takeS (takeS x.s bang) lpar).size := rfl
          have p2 : (parSt x x.ok).l.length = x.l.length := rfl
          omega

end Go.Proofs.YtjndccjpjknbkaaDoor.ExParse
