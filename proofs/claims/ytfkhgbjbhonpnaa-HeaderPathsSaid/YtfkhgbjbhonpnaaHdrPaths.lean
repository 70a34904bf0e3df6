/- header.Paths: the paths of the imports but C, sorted, each once: the walk. The condition: the machine's sizes. -/
import Derived.Test.YtfkhgbjbhonpnaaSortLib
import Derived.WalkKit
import Derived.Deep.LoopGhost
import Derived.OwnWalk
import Derived.Sort.OwnSorted
import Derived.Sort.Grow
import Derived.Lib.OwnBridge
import Derived.KernelRfl
namespace Go.Proofs.Ytfkhgbjbhonpnaa.HdrPaths
open Go Go.Proofs Go.Shelf Go.RowKit Go.Lib Go.Sort Go.Proofs.YtfkhgbjbhonpnaaW.PrintWords Go.Proofs.Ytfkhgbjbhonpnaa.SortLib
set_option linter.unusedVariables false
set_option linter.unusedSimpArgs false

/-- An Import's three cells. -/
def encI (x : ByteArray × ByteArray × Int) : List Value := [.string x.1, .string x.2.1, .int .i64 x.2.2]

theorem add_add (b : Addr) (p q : Nat) : (b.add p).add q = b.add (p + q) := by
  unfold Addr.add
  rcases Nat.eq_zero_or_pos p with rfl | hp
  · simp
  · rcases Nat.eq_zero_or_pos q with rfl | hq
    · simp
    · rw [if_neg (by omega), if_neg (by omega), if_neg (by omega)]
      simp [Nat.add_assoc]

theorem infoS : (Try.prog.info? 9).map (fun i => (i.zero, i.size, i.bytes)) = some (some (.string ⟨#[]⟩), 1, 16) := by kernel_rfl

/-- The paths of imports, but C. -/
def pathsOf {α : Type} (enc : α → ByteArray × ByteArray × Int) : List α → List ByteArray
  | [] => []
  | x :: r => if (enc x).2.1.toList = [67] then pathsOf enc r else (enc x).2.1 :: pathsOf enc r
theorem pathsOf_app {α : Type} (enc : α → ByteArray × ByteArray × Int) (x : α) : ∀ l : List α, pathsOf enc (l ++ [x]) = pathsOf enc l ++ (if (enc x).2.1.toList = [67] then [] else [(enc x).2.1])
  | [] => by
    show (if (enc x).2.1.toList = [67] then pathsOf enc [] else (enc x).2.1 :: pathsOf enc []) = _
    split <;> rfl
  | y :: r => by
    show (if (enc y).2.1.toList = [67] then pathsOf enc (r ++ [x]) else (enc y).2.1 :: pathsOf enc (r ++ [x])) = (if (enc y).2.1.toList = [67] then pathsOf enc r else (enc y).2.1 :: pathsOf enc r) ++ _
    rw [pathsOf_app enc x r]
    split <;> simp
theorem pathsOf_len {α : Type} (enc : α → ByteArray × ByteArray × Int) : ∀ l : List α, (pathsOf enc l).length ≤ l.length
  | [] => Nat.le_refl _
  | y :: r => by
    have := pathsOf_len enc r
    unfold pathsOf
    split
    · simp; omega
    · simp; omega

/-- A row of texts of the call's own, in the print's word. -/
theorem row_own {w : World} {base : Nat} {v : Value} {n : Nat} {xs : List ByteArray} (h : w.ownsRow base 9 1 v n (xs.map Value.string)) (B : Nat) (hB : B ≤ base) : Kd.string.R 9 w B (fun _ => True) v xs := by
  have hn : xs.length = n := by simpa using h.1
  subst hn
  refine ⟨fun _ _ => trivial, xs.map Value.string, ⟨h.1, ?_⟩, ?_⟩
  · rcases h.2 with h0 | ⟨g, cap, cur, h1, h2, h3⟩
    · exact .inl h0
    · exact .inr ⟨g, cap, cur, h1, Nat.le_trans hB h2, h3⟩
  · refine ⟨by simp [Kd.string, Kd.scalar], fun j p hj => ?_⟩
    obtain ⟨hj1, hj2⟩ := List.getElem?_eq_some_iff.1 hj
    show ((xs.map Value.string).drop (j * 1)).take 1 = [Value.string p]
    rw [Nat.mul_one, List.drop_eq_getElem_cons (by simpa using hj1)]
    simp [hj2]

theorem own_later {w w1 : World} {base : Nat} {e : TypeId} {size n : Nat} {v : Value} {xs : List Value} (h : w.ownsRow base e size v n xs) (hb : Below w.heap.size w w1) : w1.ownsRow base e size v n xs :=
  own_move h fun k hk => hb.block k (h.lt k hk).2
theorem cell_one_new (w : World) (x : Value) (t : TypeId) : ∀ (j : Nat) (u : Value), [x][j]? = some u → (w.alloc (.cells #[x] t)).cell? ((⟨w.heap.size, 0, none⟩ : Addr).add j) = some u := by
  intro j u hu
  match j, hu with
  | 0, hu =>
    obtain rfl := Option.some.inj hu
    simp [go_sem, Addr.add]

set_option maxRecDepth 100000 in
set_option maxHeartbeats 4000000 in
theorem Paths_calls {α : Type} (d : Kd α) (hsz : d.sz = 3) (enc : α → ByteArray × ByteArray × Int) (hK : ∀ {w x cs}, d.K w x cs → cs = encI (enc x)) (s0 s2 : ByteArray) (v3 v4 : Value)
    (A : Option Addr) (c : Nat) (l : List α) (w : World) (hr : Kd.C d w A l.length l) (hl : l.length ≤ 4398046511103) (hv3 : v3.cells = #[v3]) (hv4 : v4.cells = #[v4]) :
    Calls Try.prog 4 #[.agg #[.string s0, .slice A l.length c, .string s2, v3, v4]] w
      fun e w' => ∃ v0_ : Value, e = .returned v0_ ∧ Kd.string.R 9 w' w.heap.size (fun _ => True) v0_ (compacted (sorted (pathsOf enc l))) ∧ Below w.heap.size w w' := by
  obtain ⟨i0, hi, hz0, hz1, hz2⟩ := info_parts infoS
  have HR := Aside0.mk hr
  clear hr
  go_enter Try.func4, Try.ntmps4
  go_wp2
  have hb0 : Below w.heap.size w (w.alloc (Obj.cells #[Value.string s0, Value.slice A l.length c, Value.string s2, v3, v4] 26)) := (Below.refl _ w).alloc (Nat.le_refl _) _
  have HB0 := Aside0.mk hb0
  clear hb0
  go_loopg [3, 5, 9] l.length (fun gg s3 _ s9 wr => ∃ kk : Nat, kk ≤ l.length ∧ l.length - kk ≤ gg ∧ s9 = .int .i64 kk ∧ Aside0 (Below w.heap.size w wr) ∧
    Aside0 (wr.ownsRow w.heap.size 9 1 s3 (pathsOf enc (l.take kk)).length ((pathsOf enc (l.take kk)).map Value.string)))
  case atStart => exact ⟨0, Nat.zero_le _, by omega, rfl, HB0, ⟨⟨by rw [List.take_zero]; rfl, .inl ⟨rfl, by rw [List.take_zero]; rfl⟩⟩⟩⟩
  case round =>
    obtain ⟨kk, hkk, hg, rfl, BW, HO⟩ := hrel
    by_cases hlt : kk < l.length
    · have hplen : (pathsOf enc (l.take kk)).length ≤ 4398046511103 := by
        have := pathsOf_len enc (l.take kk)
        rw [List.length_take] at this
        omega
      have hnext : pathsOf enc (l.take (kk + 1)) = pathsOf enc (l.take kk) ++ (if (enc l[kk]).2.1.toList = [67] then [] else [(enc l[kk]).2.1]) := by
        rw [List.take_succ_eq_append_getElem hlt]
        exact pathsOf_app enc _ _
      obtain ⟨ad, cs, rfl, hcl, hk, hc⟩ := Kd.C_get (Kd.C_below HR.out BW.out) (l[kk]) (kk : Int) (by omega) (by omega)
      rw [hsz] at hcl hc
      have hgd : l.getD (kk : Int).toNat l[kk] = l[kk] := by
        simp [List.getD, List.getElem?_eq_getElem hlt]
      rw [hgd] at hk
      rw [hK hk] at hc
      simp only [Int.toNat_natCast] at hc
      have q0 : wr.cell? (ad.add (kk * 3)) = some (.string (enc l[kk]).1) := by
        have := hc 0 _ rfl
        simpa using this
      have q1 : wr.cell? ⟨(ad.add (kk * 3)).block, (ad.add (kk * 3)).off + 1, none⟩ = some (.string (enc l[kk]).2.1) := by
        have h := hc 1 _ rfl
        rw [← add_add] at h
        exact h
      have q2 : wr.cell? ⟨(ad.add (kk * 3)).block, (ad.add (kk * 3)).off + 2, none⟩ = some (.int .i64 (enc l[kk]).2.2) := by
        have h := hc 2 _ rfl
        rw [← add_add] at h
        exact h
      have hlt' : (kk : Int) < (l.length : Int) := by omega
      have hsw : w.heap.size ≤ wr.heap.size := BW.out.size
      clear hc hk hcl hgd
      generalize hx : enc l[kk] = x at q0 q1 q2 hnext
      have HN := Aside0.mk hnext
      clear hnext hx
      by_cases hC : x.2.1.toList = [67]
      · have HN2 := HN.out
        rw [if_pos hC, List.append_nil] at HN2
        have HN3 := Aside0.mk HN2
        clear HN2 HN
        go_wp2
        go_roundg (l.length - (kk + 1))
        case measure => omega
        case rel =>
          have hB : Below w.heap.size w (wr.alloc (.cells #[.string x.1, .string x.2.1, .int .i64 x.2.2] 28)) := BW.out.alloc hsw _
          exact ⟨kk + 1, by omega, by omega, by go_num, ⟨hB⟩, ⟨by rw [HN3.out]; exact own_later HO.out ((Below.refl _ wr).alloc (Nat.le_refl _) _)⟩⟩
      · have HN2 := HN.out
        rw [if_neg hC] at HN2
        have HN3 := Aside0.mk HN2
        have HC := hC
        clear HN2 HN
        have hne : (x.2.1.toList == [67]) = false := beq_false_of_ne hC
        go_wp2_with (at_builtin; refine wpList_append_own _ rfl _ _ 23 rfl w.heap.size 9 i0 (.string ⟨#[]⟩) 1 16 Try.underlying23 hi hz0 hz1 hz2 rfl (by decide) _ _ _ rfl ((own_later HO.out ?c0).alloc _) ⟨wr.heap.size + 1, 0, none⟩ 1 1 [.string x.2.1] rfl rfl ?c1 ?c2 ?c3 ?c4 ?c5 ?_)
        case c0 => exact (Below.refl _ wr).alloc (Nat.le_refl _) _
        case c1 =>
          have e1 := cell_one_new (wr.alloc (.cells #[.string x.1, .string x.2.1, .int .i64 x.2.2] 28)) (.string x.2.1) 9
          rw [show (wr.alloc (.cells #[.string x.1, .string x.2.1, .int .i64 x.2.2] 28)).heap.size = wr.heap.size + 1 from by simp] at e1
          exact e1
        case c2 => intro u hu; rw [List.mem_singleton.1 hu]; rfl
        case c3 => unfold maxLen; omega
        case c4 => omega
        case c5 => simp; omega
        intro v1 w1 hown1 hgrow1 _
        have hB1 : Below w.heap.size w w1 := (((BW.out.alloc hsw _).alloc (by simp; omega) _).grown hgrow1 (by simp; omega) (own_ge HO.out))
        have HB1 := Aside0.mk hB1
        have HO1 : Aside0 (w1.ownsRow w.heap.size 9 1 v1 (pathsOf enc (l.take (kk + 1))).length ((pathsOf enc (l.take (kk + 1))).map Value.string)) :=
          ⟨by rw [HN3.out, List.length_append, List.map_append]; exact hown1⟩
        clear hB1 hown1 hgrow1 hC HC hne q0 q1 q2
        go_wp2_with fail
        go_roundg (l.length - (kk + 1))
        case measure => omega
        case rel => exact ⟨kk + 1, by omega, by omega, by go_num, HB1, HO1⟩
    · obtain rfl : kk = l.length := by omega
      have hlt' : ¬ ((l.length : Int) < (l.length : Int)) := by omega
      have HO2 := HO.out
      rw [List.take_length] at HO2
      have hpl := pathsOf_len enc l
      obtain ⟨ps, hps⟩ : ∃ ps, ps = pathsOf enc l := ⟨_, rfl⟩
      rw [← hps] at HO2 hpl
      have HPS := Aside0.mk hps
      clear hps
      clear HO
      have HO := Aside0.mk HO2
      clear HO2
      go_wp2_with fail
      refine (sort_own HO.out (by omega) BW.out.size).mono ?_
      rintro e w1 ⟨rfl, ho1, hb1⟩
      have HB1 := Aside0.mk (BW.out.trans hb1)
      have HO1 := Aside0.mk ho1
      clear ho1 hb1
      go_wp2_with fail
      refine (compact_own HO1.out (by rw [sorted_length]; omega)).mono ?_
      rintro e w2 ⟨v2, rfl, ho2, hb2⟩
      have HB2 := Aside0.mk (HB1.out.trans hb2)
      have HO2 := Aside0.mk ho2
      clear ho2 hb2
      go_wp2_with fail
      go_ret
      exact ⟨v2, rfl, by rw [← HPS.out]; exact row_own HO2.out _ (Nat.le_refl _), HB2.out⟩
end Go.Proofs.Ytfkhgbjbhonpnaa.HdrPaths
