-- by hprint.py (wip/): the kit's print over contracts proved by hand; a text of this session
import Derived.Test.YtfkhgbjbhonpnaaPHpx0
namespace Go.Proofs.Ytfkhgbjbhonpnaa.PHp
open Go.RowKit Go.Proofs.YtfkhgbjbhonpnaaW.PrintWords Go.Proofs.YtfkhgbjbhonpnaaW.PrintLast Go.Proofs.YtfkhgbjbhonpnaaW.PrintMore
attribute [local go_sem] max2_int min2_int max_two min_two max_three min_three max_four min_four   -- for this text's walks alone
set_option linter.unusedVariables false
set_option linter.unusedSimpArgs false

/-! ### header_Paths: function 4 -/
def header_Paths.enc (x : S28) : ByteArray × ByteArray × Int := (x.f0, x.f1, x.f2)
def header_Paths.f (a0_0 : ByteArray) (l0_1 : List (S28)) (a0_2 : ByteArray) (l0_3 : List ByteArray) (l0_4 : List (S43)) : Option (List ByteArray) :=
  if l0_1.length ≤ 4398046511103 then some (SortLib.compacted (SortLib.sorted (HdrPaths.pathsOf header_Paths.enc l0_1))) else none
theorem header_Paths.calls (a0_0 : ByteArray) (A0_1 : Option Addr) (c0_1 : Nat) (l0_1 : List (S28)) (a0_2 : ByteArray) (A0_3 : Option Addr) (c0_3 : Nat) (l0_3 : List ByteArray) (A0_4 : Option Addr) (c0_4 : Nat) (l0_4 : List (S43)) (r : List ByteArray) (w : World) (hr0_1 : Kd.C k28 w A0_1 l0_1.length l0_1) (hc0_1 : l0_1.length ≤ c0_1) (hr0_3 : Kd.C Kd.string w A0_3 l0_3.length l0_3) (hc0_3 : l0_3.length ≤ c0_3) (hr0_4 : Kd.C k43 w A0_4 l0_4.length l0_4) (hc0_4 : l0_4.length ≤ c0_4) (h : header_Paths.f a0_0 l0_1 a0_2 l0_3 l0_4 = some r) :
    Calls Try.prog 4 #[.agg #[.string a0_0, .slice A0_1 l0_1.length c0_1, .string a0_2, .slice A0_3 l0_3.length c0_3, .slice A0_4 l0_4.length c0_4]] w fun e w' => ∃ v0_ : Value, e = .returned (v0_) ∧ Kd.R Kd.string 9 w' w.heap.size (fun _ => True) v0_ r ∧ Below w.heap.size w w' := by
  unfold header_Paths.f at h
  by_cases h1 : l0_1.length ≤ 4398046511103
  · rw [if_pos h1] at h
    obtain rfl := Option.some.inj h
    exact HdrPaths.Paths_calls k28 rfl header_Paths.enc (fun h => k28_open h) a0_0 a0_2 _ _ A0_1 c0_1 l0_1 w hr0_1 h1 rfl rfl
  · rw [if_neg h1] at h
    cases h

end Go.Proofs.Ytfkhgbjbhonpnaa.PHp
