/- The parser's not: the walk, way by way. The conditions: the machine's sizes. -/
import Derived.Test.YtjndccjpjknbkaaDoorExParse
namespace Go.Proofs.YtjndccjpjknbkaaDoor.ExNot
open Go Go.Proofs Go.RowKit Go.Proofs.YtjndccjpjknbkaaDoorW.PrintWords Go.Proofs.YtjndccjpjknbkaaDoor.BytesLib Go.Proofs.YtjndccjpjknbkaaDoor.ExLib Go.Proofs.YtjndccjpjknbkaaDoor.ExNode Go.Proofs.YtjndccjpjknbkaaDoor.ExTag Go.Proofs.YtjndccjpjknbkaaDoor.ExParse
set_option linter.unusedVariables false
set_option linter.unusedSimpArgs false

theorem takeWhile_app {p : UInt8 → Bool} : ∀ {a b : List UInt8}, a.all p = true → (a ++ b).takeWhile p = a ++ b.takeWhile p
  | [], b, _ => rfl
  | x :: a, b, h => by
    rw [List.all_cons, Bool.and_eq_true] at h
    rw [List.cons_append, List.takeWhile_cons, if_pos h.1, takeWhile_app h.2]; rfl
theorem pre_all {l : List UInt8} (h : l.all letB = true) : pre l = l.length := by
  unfold pre
  have := takeWhile_app (b := []) h
  rw [List.append_nil] at this
  rw [this]; simp
theorem pre_stop {l : List UInt8} {k : Nat} (h : (l.take k).all letB = true) (hk : k < l.length) (h2 : letB l[k] = false) : k = pre l := by
  unfold pre
  conv => rhs; rw [← List.take_append_drop k l]
  rw [takeWhile_app h, List.drop_eq_getElem_cons hk, List.takeWhile_cons, if_neg (by rw [h2]; decide)]
  rw [List.append_nil, List.length_take]; omega
theorem tagF_at (T : ByteArray) (l : List Nd) (k : Nat) (hk : k ≤ T.size) (h : k = pre (L T)) : tagF ⟨T, l, true⟩ = putF ⟨0, T.extract 0 k, 0, 0⟩ ⟨T.extract k T.size, l, tagOk (T.extract 0 k)⟩ := by
  have e1 : ofL ((L T).take k) = T.extract 0 k := L_inj (by rw [L_ofL, L_head])
  have e2 : ofL ((L T).drop k) = T.extract k T.size := L_inj (by rw [L_ofL, L_tail])
  unfold tagF
  simp only
  rw [← h, e1, e2]
  unfold tagOk
  rw [L_head]

set_option maxRecDepth 100000 in
set_option maxHeartbeats 8000000 in
theorem not_dead (B n : Nat) (d : Int) (K : Nat) (h : K < n + 1) (hd0 : 0 ≤ d) (hd1 : d ≤ 40) (x : St) (w : World) (hx : x.s.size ≤ K) (hM : x.l.length + x.s.size ≤ M) (hp : PS w B x.s x.l x.ok) (hok : x.ok = false) :
    Calls Tryd.prog 76 #[.pointer (some ⟨B, 0, none⟩), .int .i64 d] w fun e w' => e = .returned (.int .i64 (notF (n + 1) d x).1) ∧ PS w' B (notF (n + 1) d x).2.s (notF (n + 1) d x).2.l (notF (n + 1) d x).2.ok ∧ Below B w w' := by
  have hMM : M = 1099511627776 := rfl
  obtain ⟨v, -, -, c2, -, -, -, -⟩ := hp.cells
  rw [hok] at c2
  have hR : notF (n + 1) d x = (0, x) := by unfold notF; rw [if_pos hok]
  rw [hR]
  have HP := Aside0.mk hp
  clear hR hp
  go_enter Tryd.func76, Tryd.ntmps76
  go_wp2_with fail
  go_ret
  exact ⟨rfl, HP.out, Below.refl _ _⟩

set_option maxRecDepth 100000 in
set_option maxHeartbeats 8000000 in
theorem not_bang (B n : Nat) (d : Int) (K : Nat) (h : K < n + 1) (hd0 : 0 ≤ d) (hd1 : d ≤ 40) (x : St) (w : World) (hx : x.s.size ≤ K) (hM : x.l.length + x.s.size ≤ M) (hp : PS w B x.s x.l x.ok) (not_runs : ∀ (d : Int) (K : Nat), K < n → 0 ≤ d → d ≤ 40 → Runs B 76 #[.pointer (some ⟨B, 0, none⟩), .int .i64 d] (notF n d) K) (hok : x.ok = true) (hb1 : takeB x.s bang = true) :
    Calls Tryd.prog 76 #[.pointer (some ⟨B, 0, none⟩), .int .i64 d] w fun e w' => e = .returned (.int .i64 (notF (n + 1) d x).1) ∧ PS w' B (notF (n + 1) d x).2.s (notF (n + 1) d x).2.l (notF (n + 1) d x).2.ok ∧ Below B w w' := by
  have hMM : M = 1099511627776 := rfl
  obtain ⟨v, -, -, c2, -, -, -, -⟩ := hp.cells
  rw [hok] at c2 hp
  have H1 := Aside0.mk (take_calls B x.s bang x.l true w hp)
  have ht1 := takeS_size x.s bang
  clear hp
  have hlt := takeS_lt (s := x.s) (t := bang) hb1
  have e1 : bang.size = 1 := rfl
  have t2 := takeS_size (takeS x.s bang) bang
  have hR : notF (n + 1) d x = putF ⟨1, e0, (notF n d (bangSt x)).1, 0⟩ (notF n d (bangSt x)).2 := by
    rw [notF, if_neg (by rw [hok]; decide), if_pos hb1]
  have v1 : (bangSt x).s.size = (takeS (takeS x.s bang) bang).size := rfl
  have v2 : (bangSt x).l.length = x.l.length := rfl
  have hz1 : (bangSt x).s.size ≤ K - 1 := by omega
  obtain ⟨g1, g2⟩ := not_good n d (K - 1) (by omega) (bangSt x) hz1
  have IH := Aside0.mk (not_runs d (K - 1) (by omega) hd0 hd1 (bangSt x))
  have HZ := Aside0.mk (show (bangSt x).s.size ≤ K - 1 ∧ (bangSt x).l.length + (bangSt x).s.size ≤ M from ⟨hz1, by omega⟩)
  have hPL : (notF n d (bangSt x)).2.l.length ≤ 3518437208000 := by omega
  rw [hR]
  rw [hb1] at H1
  clear hR hb1 hlt t2 v1 v2 g1 g2 hz1
  obtain ⟨y, hy⟩ : ∃ y, notF n d (bangSt x) = y := ⟨_, rfl⟩
  rw [hy] at IH hPL ⊢
  clear hy
  go_enter Tryd.func76, Tryd.ntmps76
  go_wp2_with fail
  refine H1.out.mono ?_
  rintro e w1 ⟨rfl, hp1, hb1⟩
  have H2 := Aside0.mk (take_calls B (takeS x.s bang) bang x.l true w1 hp1)
  have HB1 := Aside0.mk hb1
  clear hp1 hb1 H1 c2
  go_wp2_with fail
  refine H2.out.mono ?_
  rintro e w2 ⟨rfl, hp2, hb2⟩
  obtain ⟨v2, -, -, c2, -, -, f2, -⟩ := hp2.cells
  have HP2 := Aside0.mk (hp2.set2 (!takeB (takeS x.s bang) bang))
  have HB2 := Aside0.mk ((HB1.out.trans hb2).setCell (p := ⟨B, 2, none⟩) (Nat.le_refl _) (.bool (!takeB (takeS x.s bang) bang)))
  clear hp2 hb2 H2
  go_wp2_with fail
  refine (IH.out _ HZ.out.1 HZ.out.2 HP2.out).mono ?_
  rintro e w3 ⟨rfl, hp3, hb3⟩
  have H4 := Aside0.mk (put_calls B y.2.s y.2.l y.2.ok ⟨1, e0, y.1, 0⟩ w3 hp3 hPL)
  have HB3 := Aside0.mk (HB2.out.trans hb3)
  clear hp3 hb3 IH c2 f2
  go_wp2_with fail
  refine H4.out.mono ?_
  rintro e w4 ⟨rfl, hp4, hb4⟩
  have HP4 := Aside0.mk hp4
  have HB4 := Aside0.mk (HB3.out.trans hb4)
  clear hp4 hb4 H4
  go_wp2_with fail
  go_ret
  exact ⟨rfl, HP4.out, HB4.out⟩

set_option maxRecDepth 100000 in
set_option maxHeartbeats 8000000 in
theorem not_par (B n : Nat) (d : Int) (K : Nat) (h : K < n + 1) (hd0 : 0 ≤ d) (hd1 : d ≤ 40) (x : St) (w : World) (hx : x.s.size ≤ K) (hM : x.l.length + x.s.size ≤ M) (hp : PS w B x.s x.l x.ok) (not_runs : ∀ (d : Int) (K : Nat), K < n → 0 ≤ d → d ≤ 40 → Runs B 76 #[.pointer (some ⟨B, 0, none⟩), .int .i64 d] (notF n d) K) (hok : x.ok = true) (hb1 : takeB x.s bang = false) (hb2 : takeB (takeS x.s bang) lpar = true) :
    Calls Tryd.prog 76 #[.pointer (some ⟨B, 0, none⟩), .int .i64 d] w fun e w' => e = .returned (.int .i64 (notF (n + 1) d x).1) ∧ PS w' B (notF (n + 1) d x).2.s (notF (n + 1) d x).2.l (notF (n + 1) d x).2.ok ∧ Below B w w' := by
  have hMM : M = 1099511627776 := rfl
  obtain ⟨v, -, -, c2, -, -, -, -⟩ := hp.cells
  rw [hok] at c2 hp
  have H1 := Aside0.mk (take_calls B x.s bang x.l true w hp)
  have ht1 := takeS_size x.s bang
  clear hp
  have t3 := takeS_size (takeS x.s bang) lpar
  have hnl : ∀ w1, PS w1 B (takeS x.s bang) x.l true → Calls Tryd.prog 43 #[.pointer (some ⟨B, 0, none⟩), .string ⟨#[40]⟩] w1 fun e w' => e = .returned (.bool (takeB (takeS x.s bang) lpar)) ∧ PS w' B (takeS (takeS x.s bang) lpar) x.l true ∧ Below B w1 w' :=
    fun w1 h1 => take_calls B (takeS x.s bang) lpar x.l true w1 h1
  have HNL := Aside0.mk hnl
  clear hnl
  rw [hb1] at H1
  have hlt := takeS_lt (s := takeS x.s bang) (t := lpar) hb2
  have e1 : lpar.size = 1 := rfl
  rw [hb2] at HNL
  by_cases hd : 0 < d
  · have hR : notF (n + 1) d x = ((rowF 3 oror (rowF 2 andand (notF n (d - 1)) n) n (parSt x true)).1, closeF (rowF 3 oror (rowF 2 andand (notF n (d - 1)) n) n (parSt x true)).2) := by
      rw [notF, if_neg (by rw [hok]; decide), if_neg (by rw [hb1]; decide), if_pos hb2, if_pos hd]
    have p1 : (parSt x true).s.size = (takeS (takeS x.s bang) lpar).size := rfl
    have p2 : (parSt x true).l.length = x.l.length := rfl
    have hz1 : (parSt x true).s.size ≤ K - 1 := by omega
    have g0 := not_good n (d - 1) (K - 1) (by omega)
    have g1 := row_good (kind := 2) (sign := andand) g0 (by decide) n
    have r0 := not_runs (d - 1) (K - 1) (by omega) (by omega) (by omega)
    have r1 := and_runs r0 g0 n (by omega)
    have r2 := or_runs r1 g1 n (by omega)
    have IH := Aside0.mk (r2 (parSt x true))
    have HZ := Aside0.mk (show (parSt x true).s.size ≤ K - 1 ∧ (parSt x true).l.length + (parSt x true).s.size ≤ M from ⟨hz1, by omega⟩)
    rw [hR]
    obtain ⟨y, hy⟩ : ∃ y, rowF 3 oror (rowF 2 andand (notF n (d - 1)) n) n (parSt x true) = y := ⟨_, rfl⟩
    rw [hy] at IH ⊢
    have hw : IntKind.i64.wrap (d - 1) = d - 1 := by rw [i64_w']; exact w64 (by omega) (by omega)
    have hw2 : wrap64 (d - 1) = d - 1 := w64 (by omega) (by omega)
    clear hR hb1 hb2 hlt t3 p1 p2 hz1 g0 g1 r0 r1 r2 hy
    go_enter Tryd.func76, Tryd.ntmps76
    go_wp2_with fail
    refine H1.out.mono ?_
    rintro e w1 ⟨rfl, hp1, hb1⟩
    have H2 := Aside0.mk (HNL.out w1 hp1)
    have HB1 := Aside0.mk hb1
    clear hp1 hb1 H1 c2 HNL
    go_wp2_with fail
    refine H2.out.mono ?_
    rintro e w2 ⟨rfl, hp2, hb2⟩
    obtain ⟨v2, -, -, c2, -, -, f2, -⟩ := hp2.cells
    have hp3 := hp2.set2 true
    obtain ⟨v3, -, -, c3, -, -, f3, -⟩ := hp3.cells
    have HP3 := Aside0.mk hp3
    have HB3 := Aside0.mk ((HB1.out.trans hb2).setCell (p := ⟨B, 2, none⟩) (Nat.le_refl _) (.bool true))
    clear hp2 hb2 H2 hp3
    go_wp2_with fail
    refine (IH.out _ HZ.out.1 HZ.out.2 HP3.out).mono ?_
    rintro e w4 ⟨rfl, hp4, hb4⟩
    obtain ⟨v4, -, -, c4, -, -, f4, -⟩ := hp4.cells
    have HB4 := Aside0.mk (HB3.out.trans hb4)
    cases hyo : y.2.ok with
    | false =>
      have hC : closeF y.2 = y.2 := by unfold closeF; rw [if_neg (by rw [hyo]; decide)]
      have hp5 := hp4.set2 false
      rw [hyo] at c4
      have HP5 := Aside0.mk (show PS (w4.setCell ⟨B, 2, none⟩ (.bool false)) B y.2.s y.2.l y.2.ok from by rw [hyo]; exact hp5)
      have HC := Aside0.mk hC
      clear hp4 hb4 IH c3 f3 c2 f2 hp5 hC hyo
      go_wp2_with fail
      go_ret
      rw [HC.out]
      exact ⟨rfl, HP5.out, HB4.out.setCell (p := ⟨B, 2, none⟩) (Nat.le_refl _) _⟩
    | true =>
      have hC : closeF y.2 = ⟨takeS y.2.s rpar, y.2.l, takeB y.2.s rpar⟩ := by unfold closeF; rw [if_pos hyo]; rfl
      rw [hyo] at c4 hp4
      have H5 := Aside0.mk (take_calls B y.2.s rpar y.2.l true w4 hp4)
      have HC := Aside0.mk hC
      clear hp4 hb4 IH c3 f3 c2 f2 hC hyo f4
      go_wp2_with fail
      refine H5.out.mono ?_
      rintro e w5 ⟨rfl, hp5, hb5⟩
      obtain ⟨v5, -, -, c5, -, -, f5, -⟩ := hp5.cells
      have HP5 := Aside0.mk (hp5.set2 (takeB y.2.s rpar))
      have HB5 := Aside0.mk ((HB4.out.trans hb5).setCell (p := ⟨B, 2, none⟩) (Nat.le_refl _) (.bool (takeB y.2.s rpar)))
      clear hp5 hb5 H5 c4
      go_wp2_with fail
      go_ret
      rw [HC.out]
      exact ⟨rfl, HP5.out, HB5.out⟩
  · obtain rfl : d = 0 := by omega
    have hR : notF (n + 1) 0 x = (0, parSt x false) := by
      rw [notF, if_neg (by rw [hok]; decide), if_neg (by rw [hb1]; decide), if_pos hb2, if_neg (by omega)]
    rw [hR]
    clear hR hb1 hb2 hlt t3
    go_enter Tryd.func76, Tryd.ntmps76
    go_wp2_with fail
    refine H1.out.mono ?_
    rintro e w1 ⟨rfl, hp1, hb1⟩
    have H2 := Aside0.mk (HNL.out w1 hp1)
    have HB1 := Aside0.mk hb1
    clear hp1 hb1 H1 c2 HNL
    go_wp2_with fail
    refine H2.out.mono ?_
    rintro e w2 ⟨rfl, hp2, hb2⟩
    obtain ⟨v2, -, -, c2, -, -, f2, -⟩ := hp2.cells
    have hp3 := hp2.set2 false
    obtain ⟨v3, -, -, c3, -, -, f3, -⟩ := hp3.cells
    have HP3 := Aside0.mk hp3
    have HB3 := Aside0.mk ((HB1.out.trans hb2).setCell (p := ⟨B, 2, none⟩) (Nat.le_refl _) (.bool false))
    clear hp2 hb2 H2 hp3
    go_wp2_with fail
    go_ret
    exact ⟨rfl, HP3.out, HB3.out⟩

set_option maxRecDepth 100000 in
set_option maxHeartbeats 8000000 in
theorem not_tag (B n : Nat) (d : Int) (K : Nat) (h : K < n + 1) (hd0 : 0 ≤ d) (hd1 : d ≤ 40) (x : St) (w : World) (hx : x.s.size ≤ K) (hM : x.l.length + x.s.size ≤ M) (hp : PS w B x.s x.l x.ok) (hok : x.ok = true) (hb1 : takeB x.s bang = false) (hb2 : takeB (takeS x.s bang) lpar = false) :
    Calls Tryd.prog 76 #[.pointer (some ⟨B, 0, none⟩), .int .i64 d] w fun e w' => e = .returned (.int .i64 (notF (n + 1) d x).1) ∧ PS w' B (notF (n + 1) d x).2.s (notF (n + 1) d x).2.l (notF (n + 1) d x).2.ok ∧ Below B w w' := by
  have hMM : M = 1099511627776 := rfl
  obtain ⟨v, -, -, c2, -, -, -, -⟩ := hp.cells
  rw [hok] at c2 hp
  have H1 := Aside0.mk (take_calls B x.s bang x.l true w hp)
  have ht1 := takeS_size x.s bang
  clear hp
  have t3 := takeS_size (takeS x.s bang) lpar
  have hnl : ∀ w1, PS w1 B (takeS x.s bang) x.l true → Calls Tryd.prog 43 #[.pointer (some ⟨B, 0, none⟩), .string ⟨#[40]⟩] w1 fun e w' => e = .returned (.bool (takeB (takeS x.s bang) lpar)) ∧ PS w' B (takeS (takeS x.s bang) lpar) x.l true ∧ Below B w1 w' :=
    fun w1 h1 => take_calls B (takeS x.s bang) lpar x.l true w1 h1
  have HNL := Aside0.mk hnl
  clear hnl
  rw [hb1] at H1
  have hR : notF (n + 1) d x = tagF (parSt x true) := by
    rw [notF, if_neg (by rw [hok]; decide), if_neg (by rw [hb1]; decide), if_neg (by rw [hb2]; decide), hok]
  rw [hR]
  rw [hb2] at HNL
  have hTs : (takeS (takeS x.s bang) lpar).size ≤ 1099511627776 := by omega
  have hTl : x.l.length ≤ 3518437208000 := by omega
  obtain ⟨T, hT⟩ : ∃ T, takeS (takeS x.s bang) lpar = T := ⟨_, rfl⟩
  have hF : tagF (parSt x true) = tagF ⟨T, x.l, true⟩ := by unfold parSt; rw [hT]
  rw [hF]
  rw [hT] at HNL hTs
  clear hR hb1 hb2 t3 hT hF
  go_enter Tryd.func76, Tryd.ntmps76
  go_wp2_with fail
  refine H1.out.mono ?_
  rintro e w1 ⟨rfl, hp1, hb1⟩
  have H2 := Aside0.mk (HNL.out w1 hp1)
  have HB1 := Aside0.mk hb1
  clear hp1 hb1 H1 c2 HNL
  go_wp2_with fail
  refine H2.out.mono ?_
  rintro e w2 ⟨rfl, hp2, hb2⟩
  have HP2 := Aside0.mk hp2
  have HB2 := Aside0.mk (HB1.out.trans hb2)
  clear hp2 hb2 H2
  go_wp2_with fail
  go_loopg [7] T.size (fun gg s7 wr => ∃ k : Nat, k ≤ T.size ∧ T.size - k ≤ gg ∧ s7 = .int .i64 k ∧ Aside0 (((L T).take k).all letB = true) ∧ Aside0 (PS wr B T x.l true) ∧ Aside0 (Below B w wr))
  case atStart => exact ⟨0, Nat.zero_le _, by omega, rfl, ⟨by simp⟩, HP2, HB2⟩
  case round =>
    obtain ⟨k, hk, hg, rfl, HA, HP, HB⟩ := hrel
    obtain ⟨v3, c0, -, c2, f0, -, f2, -⟩ := HP.out.cells
    by_cases hlt : k < T.size
    · have hltL : k < (L T).length := by rw [L_length]; exact hlt
      have hbt : bt T (k : Int) = (((L T)[k]).toNat : Int) := bt_nat hltL
      have hx5 : ∀ hh : k < T.size, ((T[k]'hh).toNat : Int) = bt T (k : Int) := fun hh => by have := bt_at T (k : Int) (by simpa using hh); simpa using this
      have hlt' : (k : Int) < (T.size : Int) := by omega
      have hk0 : (0 : Int) ≤ (k : Int) := by omega
      have hLC : ∀ W, Calls Tryd.prog 59 #[.int .u8 (bt T (k : Int))] W fun e w' => e = .returned (.bool (letB (L T)[k])) ∧ Drawn0 W w' := fun W => by rw [hbt]; exact letter_calls _ W
      cases hl : letB (L T)[k] with
      | true =>
        have hA2 : ((L T).take (k + 1)).all letB = true := by rw [List.take_succ_eq_append_getElem hltL, List.all_append, HA.out]; simp [hl]
        have HA2 := Aside0.mk hA2
        rw [hl] at hLC
        have HLC := Aside0.mk hLC
        clear hLC hA2 hl hbt HA hltL
        go_wp2_with fail
        refine (HLC.out _).mono ?_
        rintro e w3 ⟨rfl, ⟨nd, rfl⟩⟩
        have hb3 : Below wr.heap.size wr (wr.drewN nd) := pw_below_drewN (Below.refl _ _) _
        have HP3 := Aside0.mk (HP.out.later hb3)
        have HB3 := Aside0.mk (HB.out.trans (pw_below_drewN (Below.refl B wr) nd))
        clear hb3
        go_wp2_with fail
        go_roundg (T.size - (k + 1))
        case measure => omega
        case rel => exact ⟨k + 1, by omega, by omega, by go_num, HA2, HP3, HB3⟩
      | false =>
        have hend : k = pre (L T) := pre_stop HA.out hltL hl
        rw [hl] at hLC
        have HLC := Aside0.mk hLC
        clear hLC hl hbt HA hltL
        have hend2 := Aside0.mk hend
        clear hend
        go_wp2_with fail
        refine (HLC.out _).mono ?_
        rintro e w3 ⟨rfl, ⟨nd, hw3⟩⟩
        have hend := hend2.out
        have hp3 := HP.out.later (pw_below_drewN (Below.refl wr.heap.size wr) nd)
        have hb3 := HB.out.trans (pw_below_drewN (Below.refl B wr) nd)
        rw [← hw3] at hp3 hb3
        have HPW := Aside0.mk hp3
        have HBW := Aside0.mk hb3
        clear hb3 hp3 hw3 hx5 hlt hlt' c0 c2 f0 f2
        obtain ⟨v5, d0, -, -, g0, -, g2, -⟩ := HPW.out.cells
        have hp6 := HPW.out.set0 (T.extract k T.size)
        obtain ⟨v6, -, -, -, -, -, k2, -⟩ := hp6.cells
        have HP6 := Aside0.mk hp6
        have HB6 := Aside0.mk (HBW.out.setCell (p := ⟨B, 0, none⟩) (Nat.le_refl _) (.string (T.extract k T.size)))
        have HTAG := Aside0.mk (fun W => Tag_calls (T.extract 0 k) (by rw [ByteArray.size_extract]; omega) W)
        have HEND := Aside0.mk hend
        have hk63 : (k : Int) ≤ 9223372036854775807 := by omega
        clear hp6 hend
        go_wp2_with fail
        refine (HTAG.out _).mono ?_
        rintro e w7 ⟨rfl, ⟨nd7, hw7⟩⟩
        have hp7 := HP6.out.later (pw_below_drewN (Below.refl _ _) nd7)
        have hb7 := pw_below_drewN HB6.out nd7
        rw [← hw7] at hp7 hb7
        clear hw7
        obtain ⟨v7, -, -, m1, -, -, m2, -⟩ := hp7.cells
        have hp8 := hp7.set2 (tagOk (T.extract 0 k))
        have HB8 := Aside0.mk (hb7.setCell (p := ⟨B, 2, none⟩) (Nat.le_refl _) (.bool (tagOk (T.extract 0 k))))
        have H9 := Aside0.mk (put_calls B (T.extract k T.size) x.l (tagOk (T.extract 0 k)) ⟨0, T.extract 0 k, 0, 0⟩ _ hp8 hTl)
        clear hp7 hp8 hb7
        go_wp2_with fail
        refine H9.out.mono ?_
        rintro e w9 ⟨rfl, hp9, hb9⟩
        have HP9 := Aside0.mk hp9
        have HB9 := Aside0.mk (HB8.out.trans hb9)
        clear hp9 hb9 H9
        go_wp2_with fail
        go_ret
        rw [tagF_at T x.l k hk HEND.out]
        exact ⟨rfl, HP9.out, HB9.out⟩
    · obtain rfl : k = T.size := by omega
      have hend : T.size = pre (L T) := by
        have := HA.out
        rw [← L_length, List.take_length] at this
        rw [← L_length]
        exact (pre_all this).symm
      have hlt' : ¬ (T.size : Int) < (T.size : Int) := by omega
      have HPW := HP
      have HBW := HB
      have he0 : T.extract T.size T.size = ByteArray.empty := L_inj (by rw [L_tail, ← L_length, List.drop_length]; rfl)
      obtain ⟨k, hkT⟩ : ∃ k, T.size = k := ⟨_, rfl⟩
      have HE0 := Aside0.mk (show T.extract k T.size = ByteArray.empty from by rw [← hkT]; exact he0)
      rw [hkT] at hend
      clear HA he0 c0 c2 f0 f2
      obtain ⟨v5, d0, -, -, g0, -, g2, -⟩ := HPW.out.cells
      have hp6 := HPW.out.set0 (ByteArray.empty)
      obtain ⟨v6, -, -, -, -, -, k2, -⟩ := hp6.cells
      have HP6 := Aside0.mk hp6
      have HB6 := Aside0.mk (HBW.out.setCell (p := ⟨B, 0, none⟩) (Nat.le_refl _) (.string (ByteArray.empty)))
      have HTAG := Aside0.mk (fun W => Tag_calls (T.extract 0 k) (by rw [ByteArray.size_extract]; omega) W)
      have HEND := Aside0.mk hend
      have hk63 : (k : Int) ≤ 9223372036854775807 := by omega
      clear hp6 hend
      go_wp2_with fail
      refine (HTAG.out _).mono ?_
      rintro e w7 ⟨rfl, ⟨nd7, hw7⟩⟩
      have hp7 := HP6.out.later (pw_below_drewN (Below.refl _ _) nd7)
      have hb7 := pw_below_drewN HB6.out nd7
      rw [← hw7] at hp7 hb7
      clear hw7
      obtain ⟨v7, -, -, m1, -, -, m2, -⟩ := hp7.cells
      have hp8 := hp7.set2 (tagOk (T.extract 0 k))
      have HB8 := Aside0.mk (hb7.setCell (p := ⟨B, 2, none⟩) (Nat.le_refl _) (.bool (tagOk (T.extract 0 k))))
      have H9 := Aside0.mk (put_calls B (ByteArray.empty) x.l (tagOk (T.extract 0 k)) ⟨0, T.extract 0 k, 0, 0⟩ _ hp8 hTl)
      clear hp7 hp8 hb7
      go_wp2_with fail
      refine H9.out.mono ?_
      rintro e w9 ⟨rfl, hp9, hb9⟩
      have HP9 := Aside0.mk hp9
      have HB9 := Aside0.mk (HB8.out.trans hb9)
      clear hp9 hb9 H9
      go_wp2_with fail
      go_ret
      rw [tagF_at T x.l k (by omega) HEND.out, HE0.out]
      exact ⟨rfl, HP9.out, HB9.out⟩

theorem not_runs (B : Nat) : ∀ (n : Nat) (d : Int) (K : Nat), K < n → 0 ≤ d → d ≤ 40 → Runs B 76 #[.pointer (some ⟨B, 0, none⟩), .int .i64 d] (notF n d) K
  | 0, d, K, h, _, _ => absurd h (Nat.not_lt_zero _)
  | n + 1, d, K, h, hd0, hd1 => by
    intro x w hx hM hp
    have ih := not_runs B n
    cases hok : x.ok with
    | false => exact not_dead B n d K h hd0 hd1 x w hx hM hp hok
    | true =>
      cases hb1 : takeB x.s bang with
      | true => exact not_bang B n d K h hd0 hd1 x w hx hM hp ih hok hb1
      | false =>
        cases hb2 : takeB (takeS x.s bang) lpar with
        | true => exact not_par B n d K h hd0 hd1 x w hx hM hp ih hok hb1 hb2
        | false => exact not_tag B n d K h hd0 hd1 x w hx hM hp hok hb1 hb2
end Go.Proofs.YtjndccjpjknbkaaDoor.ExNot
