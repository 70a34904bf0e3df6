/- glob.Match, glob.Check: the walks; glob.Plain at the text "a". -/
import Derived.Test.YtjcopbgbmokfmaaGlobPieces
namespace Go.Proofs.Ytjcopbgbmokfmaa.GlobMain
open Go.RowKit Go.Shelf Go.Proofs.Ytjcopbgbmokfmaa.GlobLib Go.Proofs.Ytjcopbgbmokfmaa.BytesLib Go.Proofs.Ytjcopbgbmokfmaa.GlobMatch Go.Proofs.Ytjcopbgbmokfmaa.GlobNext Go.Proofs.Ytjcopbgbmokfmaa.GlobClass Go.Proofs.Ytjcopbgbmokfmaa.GlobPieces Go.Proofs.YtjcopbgbmokfmaaW.PrintWords
set_option linter.unusedVariables false
set_option linter.unusedSimpArgs false
attribute [local go_sem] Oper.semAt_some

/-- Match: does the pattern match, and the error (none: 0). -/
def matchF (p s : List UInt8) : Bool × Int := match patt p with
  | none => (false, 150)
  | some l => (mt l s, 0)
def checkF (p : List UInt8) : Int := match patt p with
  | none => 150
  | some _ => 0

set_option maxRecDepth 100000 in
set_option maxHeartbeats 8000000 in
theorem Match_calls (p s : ByteArray) (hp : p.size ≤ 8796093022206) (hs : s.size ≤ 140737488351232) (w : World) :
    Calls Try.prog 8 #[.string p, .string s] w fun e w' => e = .returned (.tuple #[.bool (matchF (L p) (L s)).1, .int .i64 (matchF (L p) (L s)).2]) ∧ Below w.heap.size w w' := by
  have HP := Aside0.mk (pieces_calls p hp w)
  cases hpa : patt (L p) with
  | none =>
    have hm : matchF (L p) (L s) = (false, 150) := by unfold matchF; rw [hpa]
    rw [hm]
    have HPA := Aside0.mk hpa
    clear hpa hm
    go_enter Try.func8, Try.ntmps8
    go_wp2_with fail
    refine HP.out.mono ?_
    rintro e w' ⟨hb, he⟩
    rw [HPA.out] at he
    subst he
    have HB := Aside0.mk hb
    clear hb
    go_wp2_with fail
    go_ret2
    exact ⟨rfl, HB.out⟩
  | some l =>
    have hm : matchF (L p) (L s) = (mt l (L s), 0) := by unfold matchF; rw [hpa]
    rw [hm]
    have HPA := Aside0.mk hpa
    clear hpa hm
    go_enter Try.func8, Try.ntmps8
    go_wp2_with fail
    refine HP.out.mono ?_
    rintro e w' ⟨hb, he⟩
    rw [HPA.out] at he
    obtain ⟨A, c, rfl, hL, hlen⟩ := he
    have HB := Aside0.mk hb
    have HL := Aside0.mk hL
    have HM := fun W h => Aside0.mk (matched_calls l s A c W h (by omega) (by omega))
    have HM2 := HM w' hL
    clear hb hL HM
    go_wp2_with fail
    refine HM2.out.mono ?_
    rintro e w2 ⟨rfl, ⟨nd, rfl⟩⟩
    go_wp2_with fail
    go_ret2
    exact ⟨rfl, HB.out.trans (pw_below_drewN (Below.refl _ _) _)⟩

set_option maxRecDepth 100000 in
set_option maxHeartbeats 8000000 in
theorem Check_calls (p : ByteArray) (hp : p.size ≤ 8796093022206) (w : World) :
    Calls Try.prog 11 #[.string p] w fun e w' => e = .returned (.int .i64 (checkF (L p))) ∧ Below w.heap.size w w' := by
  have HP := Aside0.mk (pieces_calls p hp w)
  cases hpa : patt (L p) with
  | none =>
    have hm : checkF (L p) = 150 := by unfold checkF; rw [hpa]
    rw [hm]
    have HPA := Aside0.mk hpa
    clear hpa hm
    go_enter Try.func11, Try.ntmps11
    go_wp2_with fail
    refine HP.out.mono ?_
    rintro e w' ⟨hb, he⟩
    rw [HPA.out] at he
    subst he
    have HB := Aside0.mk hb
    clear hb
    go_wp2_with fail
    go_ret
    exact ⟨rfl, HB.out⟩
  | some l =>
    have hm : checkF (L p) = 0 := by unfold checkF; rw [hpa]
    rw [hm]
    have HPA := Aside0.mk hpa
    clear hpa hm
    go_enter Try.func11, Try.ntmps11
    go_wp2_with fail
    refine HP.out.mono ?_
    rintro e w' ⟨hb, he⟩
    rw [HPA.out] at he
    obtain ⟨A, c, rfl, hL, hlen⟩ := he
    have HB := Aside0.mk hb
    clear hb hL
    go_wp2_with fail
    go_ret
    exact ⟨rfl, HB.out⟩

set_option maxRecDepth 100000 in
set_option maxHeartbeats 8000000 in
theorem Plain_a (w : World) :
    Calls Try.prog 10 #[.string ⟨#[97]⟩] w fun e w' => e = .returned (.bool true) ∧ Below w.heap.size w w' := by
  have hC := Try.strings_ContainsAny_laid ⟨#[97]⟩ ⟨#[42, 63, 91, 92]⟩ w (by decide) (by decide) (by intro j b h; match j, h with | 0, h => (cases h; decide) | j + 1, h => (simp at h)) (by intro j b h; match j, h with | 0, h => (cases h; decide) | 1, h => (cases h; decide) | 2, h => (cases h; decide) | 3, h => (cases h; decide) | j + 4, h => (simp at h))
  have HC := Aside0.mk hC
  clear hC
  go_enter Try.func10, Try.ntmps10
  go_wp2_with fail
  refine HC.out.mono ?_
  rintro e w' ⟨rfl, hb⟩
  have HB := Aside0.mk hb
  clear hb
  go_wp2_with fail
  go_ret
  exact ⟨rfl, HB.out⟩

end Go.Proofs.Ytjcopbgbmokfmaa.GlobMain
