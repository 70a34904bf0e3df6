-- by hprint.py (wip/): the kit's print over contracts proved by hand; a text of this session
import Derived.Test.YthiecbkkbiejjaaBFinex0
namespace Go.Proofs.Ythiecbkkbiejjaa.BFine
open Go.RowKit Go.Proofs.YthiecbkkbiejjaaW.PrintWords Go.Proofs.YthiecbkkbiejjaaW.PrintLast Go.Proofs.YthiecbkkbiejjaaW.PrintMore
attribute [local go_sem] max2_int min2_int max_two min_two max_three min_three max_four min_four   -- for this text's walks alone
set_option linter.unusedVariables false
set_option linter.unusedSimpArgs false

/-! ### stringslite_IndexByte: function 47 -/
def stringslite_IndexByte.f (a0 : ByteArray) (a1 : Int) : Option Int := some (Lib.indexByte a0.data.toList a1.toNat.toUInt8)
theorem stringslite_IndexByte.calls (a0 : ByteArray) (a1 : Int) (r : Int) (w : World) (h : stringslite_IndexByte.f a0 a1 = some r) :
    Calls Try.prog 47 #[.string a0, .int .u8 a1] w fun e w' => e = .returned (.int .i64 r) ∧ Drawn0 w w' := by
  obtain rfl := Option.some.inj h
  exact (Try.stringslite_IndexByte a0 a1 w).mono (fun e w' hw => ⟨hw.1, by rw [hw.2]; exact Drawn0.refl _⟩)

/-! ### strings_IndexByte: function 40 -/
def strings_IndexByte.f (a0 : ByteArray) (a1 : Int) : Option (Int) := (stringslite_IndexByte.f a0 a1).bind fun t101 => (some t101)
set_option maxHeartbeats 8000000 in
set_option maxRecDepth 100000 in
theorem strings_IndexByte.calls (a0 : ByteArray) (a1 : Int) (r : Int) (w : World) (h : strings_IndexByte.f a0 a1 = some r) :
    Calls Try.prog 40 #[.string a0, .int .u8 a1] w fun e w' => e = .returned (.int .i64 r) ∧ Drawn0 w w' := by
  have H : ((stringslite_IndexByte.f a0 a1).bind fun t101 => (some t101)) = some r := h
  clear h
  replace H := Option.bind_eq_some_iff.mp H
  obtain ⟨t101, A30, H⟩ := H
  replace H : (some t101) = some r := H
  have A3 := Aside0.mk A30
  clear A30
  obtain rfl := Option.some.inj H
  go_enter Try.func40, Try.ntmps40
  go_wp2_with (first | ((with_reducible refine gate_callee (f := 47) rfl ?_); refine goesL_ (some 7) rfl rfl Try.func47 (by kernel_rfl) rfl #[.string a0, .int .u8 a1] rfl (by (try simp only [List.map_toArray, List.map_cons, List.map_nil]); first | done | rfl | (simp only [List.length_drop, List.length_take]; rfl)) ?_; (with_reducible refine (stringslite_IndexByte.calls a0 a1 t101 _ A3.out).mono ?_); rintro e w' ⟨rfl, ⟨nd, rfl⟩⟩; refine ⟨_, rfl, ?_⟩))
  go_ret
  exact ⟨by first | rfl | (simp; done) | (simp [*]; done), by repeat (first | exact Drawn0.refl _ | apply Drawn0.step)⟩

/-! ### paths_fine: function 30 -/
def paths_fine.f (a0 : Int) : Option (Bool) := if a0 > 32 then (if a0 < 127 then ((strings_IndexByte.f (⟨#[34, 42, 58, 60, 62, 63, 92, 124, 96]⟩ : ByteArray) a0).bind fun t102 => (some (decide (t102 < 0)))) else (some false)) else (some false)
set_option maxHeartbeats 8000000 in
set_option maxRecDepth 100000 in
theorem paths_fine.calls (a0 : Int) (r : Bool) (w : World) (h : paths_fine.f a0 = some r) :
    Calls Try.prog 30 #[.int .u8 a0] w fun e w' => e = .returned (.bool r) ∧ Drawn0 w w' := by
  have H : (if a0 > 32 then (if a0 < 127 then ((strings_IndexByte.f (⟨#[34, 42, 58, 60, 62, 63, 92, 124, 96]⟩ : ByteArray) a0).bind fun t102 => (some (decide (t102 < 0)))) else (some false)) else (some false)) = some r := h
  clear h
  by_cases c2 : a0 > 32
  · rw [if_pos c2] at H
    have c2b0 : decide (32 < a0) = true := decide_eq_true c2
    clear c2
    by_cases c3 : a0 < 127
    · rw [if_pos c3] at H
      have c3b0 : decide (a0 < 127) = true := decide_eq_true c3
      clear c3
      replace H := Option.bind_eq_some_iff.mp H
      obtain ⟨t102, A40, H⟩ := H
      replace H : (some (decide (t102 < 0))) = some r := H
      have A4 := Aside0.mk A40
      clear A40
      obtain rfl := Option.some.inj H
      go_enter Try.func30, Try.ntmps30
      go_wp2_with (first | (go_at_call 40; (with_reducible refine (strings_IndexByte.calls (⟨#[34, 42, 58, 60, 62, 63, 92, 124, 96]⟩ : ByteArray) a0 t102 _ A4.out).mono ?_); rintro e w' ⟨rfl, ⟨nd, rfl⟩⟩))
      go_ret
      exact ⟨by first | rfl | (simp; done) | (simp [*]; done), by repeat (first | exact Drawn0.refl _ | apply Drawn0.step)⟩
    · rw [if_neg c3] at H
      have c3b0 : decide (a0 < 127) = false := decide_eq_false c3
      clear c3
      obtain rfl := Option.some.inj H
      go_enter Try.func30, Try.ntmps30
      go_wp2
      go_ret
      exact ⟨by first | rfl | (simp; done) | (simp [*]; done), by repeat (first | exact Drawn0.refl _ | apply Drawn0.step)⟩
  · rw [if_neg c2] at H
    have c2b0 : decide (32 < a0) = false := decide_eq_false c2
    clear c2
    obtain rfl := Option.some.inj H
    go_enter Try.func30, Try.ntmps30
    go_wp2
    go_ret
    exact ⟨by first | rfl | (simp; done) | (simp [*]; done), by repeat (first | exact Drawn0.refl _ | apply Drawn0.step)⟩

end Go.Proofs.Ythiecbkkbiejjaa.BFine
