-- by hprint.py (wip/): the kit's print over contracts proved by hand; a text of this session
import Derived.Test.YtecccjpbfbbaoaaPRxx0
namespace Go.Proofs.Ytecccjpbfbbaoaa.PRx
open Go.RowKit Go.Proofs.YtecccjpbfbbaoaaW.PrintWords Go.Proofs.YtecccjpbfbbaoaaW.PrintLast Go.Proofs.YtecccjpbfbbaoaaW.PrintMore
attribute [local go_sem] max2_int min2_int max_two min_two max_three min_three max_four min_four   -- for this text's walks alone
set_option linter.unusedVariables false
set_option linter.unusedSimpArgs false

/-! ### rewrite_Replaced: function 6 -/
def rewrite_Replaced.enc (x : S33) : (ByteArray × ByteArray) × ByteArray × ByteArray := ((x.f0.f0, x.f0.f1), x.f1.f0, x.f1.f1)
def rewrite_Replaced.f (a0_0 : ByteArray) (a0_1 : ByteArray) (l0_2 : List S64) (l0_3 : List S33) (l0_4 : List S29) (l0_5 : List S42) (a1_0 : ByteArray) (a1_1 : ByteArray) : Option (ByteArray × ByteArray × Bool) :=
  some (RwFind.replF rewrite_Replaced.enc z33 l0_3 (a1_0, a1_1))
theorem rewrite_Replaced.calls (a0_0 : ByteArray) (a0_1 : ByteArray) (A0_2 : Option Addr) (c0_2 : Nat) (l0_2 : List (S64)) (A0_3 : Option Addr) (c0_3 : Nat) (l0_3 : List (S33)) (A0_4 : Option Addr) (c0_4 : Nat) (l0_4 : List (S29)) (A0_5 : Option Addr) (c0_5 : Nat) (l0_5 : List (S42)) (a1_0 : ByteArray) (a1_1 : ByteArray) (r1 : ByteArray) (r2 : ByteArray) (r3 : Bool) (w : World) (hr0_2 : Kd.C k64 w A0_2 l0_2.length l0_2) (hc0_2 : l0_2.length ≤ c0_2) (hr0_3 : Kd.C k33 w A0_3 l0_3.length l0_3) (hc0_3 : l0_3.length ≤ c0_3) (hr0_4 : Kd.C k29 w A0_4 l0_4.length l0_4) (hc0_4 : l0_4.length ≤ c0_4) (hr0_5 : Kd.C k42 w A0_5 l0_5.length l0_5) (hc0_5 : l0_5.length ≤ c0_5) (h : rewrite_Replaced.f a0_0 a0_1 l0_2 l0_3 l0_4 l0_5 a1_0 a1_1 = some (r1, r2, r3)) :
    Calls Try.prog 6 #[.agg #[.string a0_0, .string a0_1, .slice A0_2 l0_2.length c0_2, .slice A0_3 l0_3.length c0_3, .slice A0_4 l0_4.length c0_4, .slice A0_5 l0_5.length c0_5], .agg #[.string a1_0, .string a1_1]] w fun e w' => e = .returned (.tuple #[.agg #[.string r1, .string r2], .bool r3]) ∧ Below w.heap.size w w' :=
  RwFind.Replaced_calls k33 rfl rewrite_Replaced.enc (fun h => k33_open h) z33 a0_0 a0_1 _ _ _ A0_3 c0_3 l0_3 (a1_0, a1_1) w hr0_3 rfl rfl rfl (r1, r2, r3) (Option.some.inj h)

end Go.Proofs.Ytecccjpbfbbaoaa.PRx
