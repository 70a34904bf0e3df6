/- tree.fits, Put, Drop: the walk. -/
import Derived.Test.YtmocfgghccmdgaaTrPut
namespace Go.Proofs.Ytmocfgghccmdgaa.TrFits
open Go Go.Proofs Go.RowKit Go.Proofs.YtmocfgghccmdgaaW.PrintWords Go.Proofs.Ytmocfgghccmdgaa.RowsLib Go.Proofs.Ytmocfgghccmdgaa.TrLib Go.Proofs.Ytmocfgghccmdgaa.PathBase Go.Proofs.Ytmocfgghccmdgaa.TrAt Go.Proofs.Ytmocfgghccmdgaa.TrCopy Go.Proofs.Ytmocfgghccmdgaa.TrPut
set_option linter.unusedVariables false
set_option linter.unusedSimpArgs false

/-! ### fits -/
def upF (l : List Fl) : Nat → ByteArray → Bool
  | 0, d => decide (d.toList = [])
  | n + 1, d => if d.toList = [] then true else if (atF l d).2 = true then false else upF l n (splitF d).1
def fitsF (l : List Fl) (p : ByteArray) : Bool :=
  if (if (atF l p).2 = true then (atF l p).1 + 1 else (atF l p).1) < l.length ∧ insideF (l.getD (if (atF l p).2 = true then (atF l p).1 + 1 else (atF l p).1) (⟨#[]⟩, ⟨#[]⟩)).1 p = true then false else upF l p.size (splitF p).1
theorem upF_more (l : List Fl) : ∀ (n m : Nat) (d : ByteArray), d.size ≤ n → d.size ≤ m → upF l n d = upF l m d
  | 0, 0, d, _, _ => rfl
  | 0, m + 1, d, h1, h2 => by
    have : d.toList = [] := by
      rw [BytesLib.toList_L]
      exact List.length_eq_zero_iff.1 (by rw [BytesLib.L_length]; omega)
    rw [upF, upF, if_pos this, this]; rfl
  | n + 1, 0, d, h1, h2 => by
    have : d.toList = [] := by
      rw [BytesLib.toList_L]
      exact List.length_eq_zero_iff.1 (by rw [BytesLib.L_length]; omega)
    rw [upF, upF, if_pos this, this]; rfl
  | n + 1, m + 1, d, h1, h2 => by
    rw [upF, upF]
    by_cases h : d.toList = []
    · rw [if_pos h, if_pos h]
    · rw [if_neg h, if_neg h]
      split
      · rfl
      · rcases split_lt d with g | g
        · exact upF_more l n m _ (by omega) (by omega)
        · have hs : (splitF d).1.size = 0 := by rw [← BytesLib.L_length, ← BytesLib.toList_L, g]; rfl
          exact upF_more l n m _ (by omega) (by omega)

theorem split_le (d : ByteArray) : (splitF d).1.size ≤ d.size := by
  rcases split_lt d with g | g
  · omega
  · have hs : (splitF d).1.size = 0 := by rw [← BytesLib.L_length, ← BytesLib.toList_L, g]; rfl
    omega
theorem upF_end {l : List Fl} {d : ByteArray} (h : d.toList = []) : upF l d.size d = true := by
  have hs : d.size = 0 := by rw [← BytesLib.L_length, ← BytesLib.toList_L, h]; rfl
  rw [hs, upF, h]; rfl
theorem upF_step {l : List Fl} {d : ByteArray} (h : ¬ d.toList = []) : upF l d.size d = if (atF l d).2 = true then false else upF l (splitF d).1.size (splitF d).1 := by
  have hp : 0 < d.size := by
    rcases Nat.eq_zero_or_pos d.size with h0 | h0
    · exact absurd (by rw [BytesLib.toList_L]; exact List.length_eq_zero_iff.1 (by rw [BytesLib.L_length]; exact h0)) h
    · exact h0
  obtain ⟨m, hm⟩ : ∃ m, d.size = m + 1 := ⟨d.size - 1, by omega⟩
  rw [hm, upF, if_neg h]
  split
  · rfl
  · have hs : (splitF d).1.size ≤ m := by
      rcases split_lt d with g | g
      · omega
      · have hs : (splitF d).1.size = 0 := by rw [← BytesLib.L_length, ← BytesLib.toList_L, g]; rfl
        omega
    exact upF_more l m _ _ hs (Nat.le_refl _)
set_option maxRecDepth 100000 in
set_option maxHeartbeats 8000000 in
theorem fits_calls (base B : Nat) (l : List Fl) (p : ByteArray) (hx : ∀ y ∈ l, y.1.size ≤ 1099511627776) (hk : p.size ≤ 1099511627776) (hl : l.length ≤ 1099511627775) (w : World) (h : Sf w base B l) :
    Calls Try.prog 40 #[.pointer (some ⟨B, 0, none⟩), .string p] w fun e w' => e = .returned (.bool (fitsF l p)) ∧ Below w.heap.size w w' := by
  have HS := Aside0.mk h
  have HAT : Aside0 (∀ (k : ByteArray) (W' : World), k.size ≤ 1099511627776 → Below w.heap.size w W' → Calls Try.prog 44 #[.pointer (some ⟨B, 0, none⟩), .string k] W' fun e w' => e = .returned (.tuple #[.int .i64 (atF l k).1, .bool (atF l k).2]) ∧ Below w.heap.size w w') :=
    ⟨fun k W' hk hb => (at_calls base B l k hx hk (by omega) W' (h.later hb)).mono fun e w' ⟨h1, h2⟩ => ⟨h1, hb.trans (h2.mono hb.size)⟩⟩
  have HF : Aside0 (fitsF l p = if (if (atF l p).2 = true then (atF l p).1 + 1 else (atF l p).1) < l.length ∧ insideF (l.getD (if (atF l p).2 = true then (atF l p).1 + 1 else (atF l p).1) (⟨#[]⟩, ⟨#[]⟩)).1 p = true then false else upF l p.size (splitF p).1) := ⟨rfl⟩
  obtain ⟨F, hF⟩ : ∃ F, fitsF l p = F := ⟨_, rfl⟩
  rw [hF] at HF ⊢
  have hile : (atF l p).1 ≤ l.length := atI_le l p
  have HA1 := Aside0.mk (HAT.out p w hk (Below.refl _ _))
  obtain ⟨r, hrr⟩ : ∃ r, atF l p = r := ⟨_, rfl⟩
  rw [hrr] at HA1 HF hile
  obtain ⟨i, is⟩ := r
  simp only at HA1 HF hile
  have HX := Aside0.mk hx
  clear h hrr hx hF
  go_enter Try.func40, Try.ntmps40
  go_wp2_with fail
  refine HA1.out.mono ?_
  rintro e w1 ⟨rfl, hb1⟩
  obtain ⟨v, hv, ho, hBb⟩ := HS.out.later hb1
  obtain ⟨A, c, rfl, hlc, hC⟩ := own_C ho
  have c0 := (box_cell (k := 0) hv rfl).1
  have HB1 := Aside0.mk hb1
  have HC := Aside0.mk hC
  clear hb1 HA1 hv ho hC
  go_upto_if 17 with fail
  go_cut [5, 6] (fun s5 s6 wc => wc = w1 ∧ ∃ j : Nat, s5 = .int .i64 j ∧ j ≤ l.length + 1 ∧ Aside0 (F = if j < l.length ∧ insideF (l.getD j (⟨#[]⟩, ⟨#[]⟩)).1 p = true then false else upF l p.size (splitF p).1))
  case first =>
    cases is with
    | true =>
      have hwr : IntKind.i64.wrap ((i : Int) + 1) = (i : Int) + 1 := by rw [IntKind.wrap_i64]; omega
      go_wp2_with fail
      go_meet
      case rel => exact ⟨rfl, i + 1, by rw [show ((i + 1 : Nat) : Int) = (i : Int) + 1 from by omega], by omega, HF⟩
    | false =>
      go_wp2_with fail
      go_meet
      case rel => exact ⟨rfl, i, rfl, by omega, HF⟩
  case rest =>
    obtain ⟨rfl, j, rfl, hj, HJ⟩ := hcut
    clear HF hile
    have hup : upF l p.size (splitF p).1 = upF l (splitF p).1.size (splitF p).1 := upF_more l _ _ _ (split_le p) (Nat.le_refl _)
    have HUP := Aside0.mk hup
    have HSPL := Aside0.mk (fun W => Split_calls p (by omega) W)
    have hsp := split_le p
    obtain ⟨d0, hd0⟩ : ∃ d0, (splitF p).1 = d0 := ⟨_, rfl⟩
    obtain ⟨d1, hd1⟩ : ∃ d1, (splitF p).2 = d1 := ⟨_, rfl⟩
    rw [hd0, hd1] at HSPL
    rw [hd0] at HUP HJ hsp
    clear hup hd0 hd1
    obtain ⟨tb, htb⟩ : ∃ tb : Bool, decide (j < l.length ∧ insideF (l.getD j (⟨#[]⟩, ⟨#[]⟩)).1 p = true) = tb := ⟨_, rfl⟩
    have HTB := Aside0.mk htb
    clear htb
    go_upto_region 4 with fail
    go_cut [38] (fun s wx => s = .bool tb ∧ ∃ m, wx = wc.drewN m)
    case first =>
      by_cases hlt : j < l.length
      · obtain ⟨ad, hA, q0, q1⟩ := at_F HC.out hlt
        subst hA
        have hgd : l.getD j (⟨#[]⟩, ⟨#[]⟩) = l[j] := by simp [List.getD, List.getElem?_eq_getElem hlt]
        have hI := Aside0.mk (fun W => inside_calls l[j].1 p hk W)
        have ht := HTB.out
        rw [hgd] at ht
        have ht2 : insideF l[j].1 p = tb := by
          rw [← ht]
          cases insideF l[j].1 p <;> simp [hlt]
        rw [ht2] at hI
        obtain ⟨y, hy⟩ : ∃ y, l[j] = y := ⟨_, rfl⟩
        rw [hy] at q0 q1 hI
        have hji : (j : Int) < (l.length : Int) := by omega
        clear ht ht2 hgd hy
        go_wp2_with fail
        refine (hI.out _).mono ?_
        rintro e w2 ⟨rfl, m, rfl⟩
        go_wp2_with fail
        go_meet
        case rel => exact ⟨rfl, m, rfl⟩
      · have hji : ¬ ((j : Int) < (l.length : Int)) := by omega
        have ht : tb = false := by rw [← HTB.out]; exact decide_eq_false (fun h => hlt h.1)
        subst ht
        go_wp2_with fail
        go_meet
        case rel => exact ⟨rfl, 0, rfl⟩
    case rest =>
      obtain ⟨rfl, m, rfl⟩ := hcut
      cases tb with
      | true =>
        have hF : F = false := by rw [HJ.out, if_pos (of_decide_eq_true HTB.out)]
        subst hF
        clear HJ HTB
        go_wp2_with fail
        go_ret
        exact ⟨rfl, pw_below_drewN HB1.out m⟩
      | false =>
        have hF := HJ.out
        rw [if_neg (of_decide_eq_false HTB.out), HUP.out] at hF
        have HFU := Aside0.mk hF
        have BM := Aside0.mk (pw_below_drewN HB1.out m)
        clear hF HJ HTB HUP c0 HC
        go_wp2_with fail
        refine (HSPL.out _).mono ?_
        rintro e w2 ⟨rfl, m2, rfl⟩
        have BM2 := Aside0.mk (pw_below_drewN BM.out m2)
        clear HSPL
        go_wp2_with fail
        go_loopg [7] d0.size (fun gg s7 wr => ∃ d : ByteArray, s7 = .string d ∧ d.size ≤ gg ∧ d.size ≤ p.size ∧ Aside0 (F = upF l d.size d) ∧ Aside0 (Below w.heap.size w wr))
        case atStart => exact ⟨d0, rfl, Nat.le_refl _, hsp, HFU, ⟨by first | exact BM2.out | exact pw_below_drewN HB1.out _⟩⟩
        case round =>
          obtain ⟨d, rfl, hg, hdp, FU, BW⟩ := hrel
          by_cases hd : d.toList = []
          · have hdb : d.toList.isEmpty = true := by rw [hd]; rfl
            have hF := FU.out
            rw [upF_end hd] at hF
            subst hF
            clear FU HFU
            go_wp2_with fail
            go_ret
            exact ⟨rfl, BW.out⟩
          · have hdb : d.toList.isEmpty = false := by simpa using hd
            have hF := FU.out
            rw [upF_step hd] at hF
            have HA := Aside0.mk (HAT.out d wr (by omega) BW.out)
            have HSPD := Aside0.mk (fun W => Split_calls d (by omega) W)
            have hlts := split_lt d
            have hles := split_le d
            obtain ⟨e0, he0⟩ : ∃ e0, (splitF d).1 = e0 := ⟨_, rfl⟩
            obtain ⟨e1, he1⟩ : ∃ e1, (splitF d).2 = e1 := ⟨_, rfl⟩
            rw [he0, he1] at HSPD
            rw [he0] at hF hlts hles
            obtain ⟨r, hr⟩ : ∃ r, atF l d = r := ⟨_, rfl⟩
            rw [hr] at HA hF
            obtain ⟨i2, is2⟩ := r
            simp only at HA hF
            have HFF := Aside0.mk hF
            have hpos : 0 < d.size := by
              rcases Nat.eq_zero_or_pos d.size with h0 | h0
              · exact absurd (by rw [BytesLib.toList_L]; exact List.length_eq_zero_iff.1 (by rw [BytesLib.L_length]; exact h0)) hd
              · exact h0
            have hlt0 : e0.size < d.size := by
              rcases hlts with h | h
              · exact h
              · have : e0.size = 0 := by rw [← BytesLib.L_length, ← BytesLib.toList_L, h]; rfl
                omega
            clear hF FU HFU hr he0 he1 hlts hd
            go_wp2_with fail
            refine HA.out.mono ?_
            rintro e w3 ⟨rfl, hb3⟩
            have HB3 := Aside0.mk hb3
            clear hb3 HA
            cases is2 with
            | true =>
              have hF := HFF.out
              rw [if_pos rfl] at hF
              subst hF
              go_wp2_with fail
              go_ret
              exact ⟨rfl, HB3.out⟩
            | false =>
              have hF := HFF.out
              rw [if_neg (by decide)] at hF
              have HF2 := Aside0.mk hF
              clear hF HFF
              go_wp2_with fail
              refine (HSPD.out _).mono ?_
              rintro e w4 ⟨rfl, m4, rfl⟩
              have BM4 := Aside0.mk (pw_below_drewN HB3.out m4)
              clear HSPD
              go_wp2_with fail
              go_roundg e0.size
              case measure => omega
              case rel => exact ⟨e0, rfl, Nat.le_refl _, by omega, HF2, ⟨by first | exact BM4.out | exact pw_below_drewN HB3.out _⟩⟩
end Go.Proofs.Ytmocfgghccmdgaa.TrFits

