/- What is found in a tree. -/
import Derived.Test.YtmocfgghccmdgaaPureTrBase
namespace Go.Proofs.Ytmocfgghccmdgaa.Pure
open Go Go.RowKit Go.Proofs.Ytmocfgghccmdgaa.PTr Go.Proofs.YtmocfgghccmdgaaW.PrintWords Go.Proofs.YtmocfgghccmdgaaW.PrintLast
open Go.Proofs.Ytmocfgghccmdgaa.BytesLib Go.Proofs.Ytmocfgghccmdgaa.SplitLib Go.Proofs.Ytmocfgghccmdgaa.OrderLib Go.Proofs.Ytmocfgghccmdgaa.Elems Go.Proofs.Ytmocfgghccmdgaa.Valid Go.Proofs.Ytmocfgghccmdgaa.PathBase Go.Proofs.Ytmocfgghccmdgaa.TrLib Go.Proofs.Ytmocfgghccmdgaa.TrPut Go.Proofs.Ytmocfgghccmdgaa.TrFits Go.Proofs.Ytmocfgghccmdgaa.TrOps Go.Proofs.Ytmocfgghccmdgaa.TrMerge Go.Proofs.Ytmocfgghccmdgaa.TrPlain
set_option linter.unusedVariables false
set_option linter.unusedSimpArgs false

theorem findI_form (p : Fl → Bool) : ∀ (l : List Fl) (i : Nat), (∃ j, ∃ h : j < l.length, p l[j] = true ∧ findI p l i = ((i + j : Nat) : Int)) ∨ ((∀ y ∈ l, p y = false) ∧ findI p l i = -1)
  | [], i => .inr ⟨(fun _ h => nomatch h), rfl⟩
  | y :: r, i => by
    rw [findI]
    cases e : p y with
    | true => exact .inl ⟨0, by simp, by simpa using e, by simp⟩
    | false =>
      rw [if_neg (by decide)]
      rcases findI_form p r (i + 1) with ⟨j, h, h1, h2⟩ | ⟨h1, h2⟩
      · exact .inl ⟨j + 1, by simp; omega, by simpa using h1, by rw [h2]; congr 1; omega⟩
      · refine .inr ⟨fun z hz => ?_, h2⟩
        rcases List.mem_cons.1 hz with rfl | hz
        · exact e
        · exact h1 z hz
theorem isP_iff (k : ByteArray) (x : Fl) : isP k x = true ↔ x.1 = k := by
  unfold isP
  rw [beq_iff_eq, toList_L, toList_L]
  exact ⟨fun h => L_inj h, fun h => by rw [h]⟩
/-- Of a key there is one thing at most. -/
theorem up_one {T : List Fl} (up : T.Pairwise (fun x y => cmpP x.1 y.1 < 0)) {x y : Fl} (hx : x ∈ T) (hy : y ∈ T) (e : x.1 = y.1) : x = y := by
  rcases at_split up y.1 with ⟨A, B, rfl, hA, hB, _⟩ | ⟨A, z, B, rfl, hA, hz, hB, _⟩
  · rcases List.mem_append.1 hy with h | h
    · exact absurd rfl (cmp_ne (.inl (hA y h)))
    · exact absurd rfl (cmp_ne (.inr (hB y h)))
  · have one : ∀ u : Fl, u ∈ A ++ z :: B → u.1 = y.1 → u = z := by
      intro u hu eu
      rcases List.mem_append.1 hu with h | h
      · exact absurd eu (cmp_ne (.inl (hA u h)))
      · rcases List.mem_cons.1 h with h | h
        · exact h
        · exact absurd eu (cmp_ne (.inr (hB u h)))
    rw [one x hx e, one y hy rfl]
theorem find_has {T : List Fl} (up : T.Pairwise (fun x y => cmpP x.1 y.1 < 0)) {x : Fl} (hx : x ∈ T) : findT T x.1 = (x.2, true) := by
  unfold findT
  rcases findI_form (isP x.1) T 0 with ⟨j, h, h1, h2⟩ | ⟨h1, h2⟩
  · rw [h2, if_neg (by omega)]
    have e : T[j] = x := up_one up (List.getElem_mem h) hx ((isP_iff _ _).1 h1)
    have e2 : ((0 + j : Nat) : Int).toNat = j := by omega
    rw [e2, List.getD_eq_getElem?_getD, List.getElem?_eq_getElem h, e]; rfl
  · have := h1 x hx
    rw [(isP_iff _ _).2 rfl] at this
    cases this
theorem find_no {T : List Fl} {k : ByteArray} (h : ∀ y ∈ T, y.1 ≠ k) : findT T k = (⟨#[]⟩, false) := by
  unfold findT
  rcases findI_form (isP k) T 0 with ⟨j, hj, h1, h2⟩ | ⟨h1, h2⟩
  · exact absurd ((isP_iff _ _).1 h1) (h _ (List.getElem_mem hj))
  · rw [h2, if_pos (by omega)]

end Go.Proofs.Ytmocfgghccmdgaa.Pure
