/- PathsUnder, as a statement over lists: what is within a directory that is within another one is within that; paths that may be, joined, are split again. No condition but that each text is one that a machine holds. -/
import Derived.Test.YthiecbkkbiejjaaPAllx3
import Derived.Test.YthiecbkkbiejjaaPAllx4
import Derived.Test.YthiecbkkbiejjaaPAllx6
import Derived.Test.YthiecbkkbiejjaaPureVLib
namespace Go.Proofs.Ythiecbkkbiejjaa.Pure
open Go.RowKit Go.Proofs.Ythiecbkkbiejjaa.PAll Go.Proofs.YthiecbkkbiejjaaW.PrintWords Go.Proofs.YthiecbkkbiejjaaW.PrintLast
open Go.Proofs.Ythiecbkkbiejjaa.BytesLib Go.Proofs.Ythiecbkkbiejjaa.SplitLib Go.Proofs.Ythiecbkkbiejjaa.OrderLib Go.Proofs.Ythiecbkkbiejjaa.Elems Go.Proofs.Ythiecbkkbiejjaa.Valid
set_option linter.unusedVariables false

theorem under_last (k : Nat) (a b c : ByteArray) (ha : valid a = true) (hb : valid b = true) (hc : valid c = true) :
    graftbedlaw01_PathsUnder.j1 (k + 1) a b c false = some true := by
  obtain ⟨a1, a2⟩ := valid_not_here ha
  obtain ⟨b1, b2⟩ := valid_not_here hb
  obtain ⟨c1, c2⟩ := valid_not_here hc
  have sa := (valid_tells ha).2.1
  have sb := (valid_tells hb).2.1
  have sc := (valid_tells hc).2.1
  have sab := size_slash2 a b
  have sabc := size_slash2 (slash a b) c
  obtain ⟨ab1, ab2⟩ := slash_not_here a b
  obtain ⟨abc1, abc2⟩ := slash_not_here (slash a b) c
  have j1 : paths_Join.f a b = some (slash a b) := by rw [join_f _ _ (by omega) (by omega), if_neg (by simp [a1, a2]), if_neg (by simp [b1, b2])]
  have j2 : paths_Join.f (slash a b) c = some (slash (slash a b) c) := by rw [join_f _ _ (by omega) (by omega), if_neg (by simp [ab1, ab2]), if_neg (by simp [c1, c2])]
  have j3 : paths_Join.f b c = some (slash b c) := by rw [join_f _ _ (by omega) (by omega), if_neg (by simp [b1, b2]), if_neg (by simp [c1, c2])]
  have w1 : paths_Within.f (slash (slash a b) c) (slash a b) = some (c, true) := by
    rw [within_f _ _ (by omega), if_neg (by simp [ab1, ab2]), if_neg (fun e => by have := congrArg List.length e; rw [L_length, L_length] at this; omega),
      if_pos (by rw [L_slash2 (slash a b) c]; exact ⟨L c, by simp⟩)]
    congr 2
    apply L_inj
    rw [L_tail, L_slash2, show L (slash a b) ++ 47 :: L c = (L (slash a b) ++ [47]) ++ L c from by simp, List.drop_left' (by rw [List.length_append, L_length]; rfl)]
  have w2 : paths_Within.f (slash (slash a b) c) a = some (slash b c, true) := by
    rw [within_f _ _ (by omega), if_neg (by simp [a1, a2]), if_neg (fun e => by have := congrArg List.length e; rw [L_length, L_length] at this; omega),
      if_pos (by rw [L_slash2, L_slash2]; exact ⟨L b ++ 47 :: L c, by simp⟩)]
    congr 2
    apply L_inj
    rw [L_tail, L_slash2, L_slash2, L_slash2, show L a ++ 47 :: L b ++ 47 :: L c = (L a ++ [47]) ++ (L b ++ 47 :: L c) from by simp, List.drop_left' (by rw [List.length_append, L_length]; rfl)]
  have w3 : paths_Within.f (slash a b) (slash (slash a b) c) = some ((⟨#[]⟩ : ByteArray), false) := by
    rw [within_f _ _ (by omega), if_neg (by simp [abc1, abc2]), if_neg (fun e => by have := congrArg List.length e; rw [L_length, L_length] at this; omega),
      if_neg (fun e => by have := e.length_le; rw [List.length_append, L_length, L_length] at this; simp at this; omega)]
  simp only [graftbedlaw01_PathsUnder.j1, Bool.false_eq_true, if_false]
  rw [j1]
  simp only [Option.bind_some]
  rw [j2]
  simp only [Option.bind_some]
  rw [w1, w2, w3]
  simp only [Option.bind_some, if_true, Bool.false_eq_true, if_false]
  rw [j3]
  simp only [Option.bind_some, if_true]
  have s1 : (a ++ (⟨#[47]⟩ : ByteArray)).size = a.size + 1 := size_append _ _
  have s2 : ((a ++ (⟨#[47]⟩ : ByteArray)) ++ b).size = a.size + 1 + b.size := size_slash2 a b
  have s3 : (((a ++ (⟨#[47]⟩ : ByteArray)) ++ b) ++ (⟨#[47]⟩ : ByteArray)).size = a.size + 1 + b.size + 1 := by rw [size_append, s2]; rfl
  rw [if_pos (by rw [toList_L]; rfl), if_pos (by omega), if_pos (by omega), if_pos (by omega), if_pos (by omega)]
  simp [slash]

theorem PathsUnder : graftbedlaw01_PathsUnder.Pure := by
  intro a b c ha hb hc
  have va : paths_Valid.f (⟨#[97]⟩ : ByteArray) = some true := by unfold paths_Valid.f; rw [if_pos (by decide), valid_a]
  have big : ∀ k, graftbedlaw01_PathsUnder.j0 (k + 1) a b c true = some true := fun k => by simp only [graftbedlaw01_PathsUnder.j0, if_true]; rw [va]; rfl
  have non : ∀ k, graftbedlaw01_PathsUnder.j1 (k + 1) a b c true = some true := fun k => by simp only [graftbedlaw01_PathsUnder.j1, if_true]; rw [va]; rfl
  by_cases g1 : (a.size : Int) > 1024
  · exact ⟨1, by unfold graftbedlaw01_PathsUnder.f; rw [if_pos g1]; exact big 0⟩
  by_cases g2 : (b.size : Int) > 1024
  · exact ⟨1, by unfold graftbedlaw01_PathsUnder.f; rw [if_neg g1, if_pos g2]; exact big 0⟩
  by_cases g3 : (c.size : Int) > 1024
  · exact ⟨1, by unfold graftbedlaw01_PathsUnder.f; rw [if_neg g1, if_neg g2, if_pos g3]; exact big 0⟩
  obtain ⟨K1, h1⟩ := ref_valid a (by omega)
  obtain ⟨K2, h2⟩ := ref_valid b (by omega)
  obtain ⟨K3, h3⟩ := ref_valid c (by omega)
  refine ⟨K1 + K2 + K3 + 2, ?_⟩
  have e1 := h1 (K1 + K2 + K3 + 1) (by omega)
  have e2 := h2 (K1 + K2 + K3 + 1) (by omega)
  have e3 := h3 (K1 + K2 + K3 + 1) (by omega)
  dsimp only at e1 e2 e3
  unfold graftbedlaw01_PathsUnder.f
  rw [if_neg g1, if_neg g2, if_neg g3, va]
  simp only [Option.bind_some, Bool.not_true, graftbedlaw01_PathsUnder.j0, Bool.false_eq_true, if_false]
  rw [e1, e2, e3]
  simp only [Option.bind_some]
  cases q1 : valid a with
  | false => simp only [Bool.false_eq_true, if_false]; exact non _
  | true =>
    simp only [if_true]
    cases q2 : valid b with
    | false => simp only [Bool.false_eq_true, if_false]; exact non _
    | true =>
      simp only [if_true]
      cases q3 : valid c with
      | false => exact non _
      | true => exact under_last _ a b c q1 q2 q3

end Go.Proofs.Ythiecbkkbiejjaa.Pure
