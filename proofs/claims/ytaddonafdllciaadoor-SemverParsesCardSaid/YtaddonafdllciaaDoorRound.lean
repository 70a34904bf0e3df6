/- A region that draws its order within a round of a range over a function: by the laws on regions outside of any fence. -/
import Derived.Test.YtaddonafdllciaaDoorIter
import Derived.Test.YtaddonafdllciaaDoorWTab
namespace Go.Proofs.YtaddonafdllciaaDoor.Round
open Go.RowKit
set_option linter.unusedVariables false

variable {P : Program} {n l : Nat} {ops : Array Oper} {md : Region.Mode} {Q : Exit → Act → World → Prop}

theorem rowsIn_of {row : String} {args : Array Value} {w : World} {R : Value → World → Prop} (h : Rows P row args w R) : RowsIn (Fence.wide.inRound l) n P row args w R :=
  fun c cs _ => let ⟨v, w', r, s⟩ := h c cs; ⟨v, w', r, (stepsIn_wide (P := P)).2 s⟩

theorem uponIn_of {o : Oper} {a : Act} {K : Act → World → Prop} {r : Result Next} (h : o.upon P a K Q r) : o.uponIn (Fence.wide.inRound l) n P a K Q r := by
  cases r with
  | ok x w =>
    cases x with
    | value v => exact h
    | skip => exact h
    | defer d => exact h
    | enter f args => exact ⟨fun h => by simp [Fence.wide] at h, CallsIn.inRound l (callsIn_wide.2 h)⟩
    | row row args => exact ⟨fun h => by simp [Fence.wide] at h, rowsIn_of h⟩
    | _ => exact False.elim h
  | halt x w =>
    cases x with
    | panic v => exact h
    | _ => exact False.elim h

theorem operIn_of {o : Oper} {a : Act} {w : World} {K : Act → World → Prop} (hd : ∀ c, o.op ≠ .defer c) (h : o.wp P a w K Q) : o.wpIn (Fence.wide.inRound l) n P a w K Q := by
  refine ⟨fun _ _ => trivial, ?_⟩
  rw [Oper.semAt_eq _ _ _ hd]
  exact uponIn_of h

theorem anyIn_of (hno : ¬ LetsOut Q) (hd : ∀ (i : Nat) (o : Oper), ops[i]? = some o → ∀ c, o.op ≠ .defer c) : ∀ (fuel : Nat) (listed : Array Bool) (a : Act) (w : World),
    wpAny P md ops Q fuel listed a w → wpAnyIn (Fence.wide.inRound l) n P md ops Q fuel listed a w
  | 0, _, _, _, h => h
  | fuel + 1, listed, a, w, h => by
    refine ⟨h.1, fun i hi => ?_⟩
    have h2 := h.2 i hi
    unfold wpOp at h2
    unfold wpOpIn
    cases ho : ops[i]? with
    | none => rw [ho] at h2; exact anyIn_of hno hd fuel _ _ _ h2
    | some o =>
      rw [ho] at h2
      dsimp only at h2 ⊢
      by_cases hw : Region.wanted o (yielded ops a.tmps) = true
      · rw [if_pos hw] at h2 ⊢
        rcases h2 with h2 | h2
        · exact Oper.wpIn_mono (fun a' w' h' => anyIn_of hno hd fuel _ a' w' h') (operIn_of (hd i o ho) h2)
        · exact absurd h2.2 hno
      · rw [if_neg hw] at h2 ⊢
        exact ⟨fun _ _ => trivial, anyIn_of hno hd fuel _ _ _ h2⟩

/-- Does an operation defer a call? -/
def defers (o : Oper) : Bool := match o.op with
  | .defer _ => true
  | _ => false

open Go.Proofs.YtaddonafdllciaaDoorW.PrintLast in
theorem startIn_ {S : World → Prop} {ds : List Nat} {id k : Nat} {a : Act} {w : World} (l0 : Array Bool) (hm : P.follows .mixedOrders = true) (hn : ops.size = k) (hl : Array.replicate k false = l0) (hno : ¬ LetsOut Q)
    (hd : ops.all (fun o => !defers o) = true) (hS : S w.drew) (h : S w.drew → wpAnyLast P .any ops Q S ds k l0 a w.drew) : (Code.region id ops true).wpIn (Fence.wide.inRound l) n P Q a w := by
  subst hn
  subst hl
  refine wpIn_region_any hm (anyIn_of hno ?_ _ _ _ _ (wpAny_of_last _ _ _ _ (h hS)))
  intro i o ho c hc
  have h1 := (Array.all_eq_true.1 hd) i (Array.getElem?_eq_some_iff.1 ho).1
  rw [(Array.getElem?_eq_some_iff.1 ho).2] at h1
  simp [defers, hc] at h1

/-- append to a row of one's own, as one step of a region that draws. -/
theorem stepAppendOwn {o : Oper} {a : Act} {w : World} {K : Act → World → Prop} {E : Prop} (hg : o.guard = none) (s x : Operand) (t : TypeId) (hop : o.op = Op.call { callee := Callee.builtin Builtin.append, args := #[s, x], argTypes := #[t, t] })
    (base : Nat) (e : TypeId) (i : TypeInfo) (z : Value) (size bytes : Nat) (h1 : P.underlying t = some (.slice e)) (h2 : P.info? e = some i) (h3 : i.zero = some z) (h4 : i.size = size) (h5 : i.bytes = bytes) (h6 : z.cells.size = size) (h7 : 0 < size)
    (v : Value) (k : Nat) (xs : List Value) (hs : a.eval s = v) (hown : w.ownsRow base e size v k xs) (ad : Addr) (m c : Nat) (news : List Value) (hx : a.eval x = .slice (some ad) m c) (hn : news.length = m * size)
    (hc : ∀ j u, news[j]? = some u → w.cell? (ad.add j) = some u) (h1c : ∀ u ∈ news, u.oneCell' = true) (b1 : k + m ≤ maxLen) (b2 : (k + m) * bytes ≤ 140737488355328) (b3 : base ≤ w.heap.size)
    (hK : ∀ v' w', w'.ownsRow base e size v' (k + m) (xs ++ news) → w.grownBy w' v.ownBlock → (v' = .slice none 0 0 ↔ v = .slice none 0 0 ∧ m = 0) → K (a.put o.dst v') w') :
    if Region.wanted o (yielded ops a.tmps) = true then Oper.wp P o a w K Q else E := by
  have hw : Region.wanted o (yielded ops a.tmps) = true := by simp [Region.wanted, hg]
  rw [if_pos hw]
  obtain ⟨v', w', hrun, r1, r2, r3⟩ := run_append_own (P := P) w base t o.type e i z size bytes h1 h2 h3 h4 h5 h6 h7 v k xs hown ad m c news hn hc h1c b1 b2 b3
  unfold Oper.wp
  simp [execOp, hop, resolve, invoke, builtin, hs, hx, hrun, Result.andThen]
  exact hK v' w' r1 r2 r3

end Go.Proofs.YtaddonafdllciaaDoor.Round
