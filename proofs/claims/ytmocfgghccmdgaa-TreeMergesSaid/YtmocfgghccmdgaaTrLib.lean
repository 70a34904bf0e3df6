/- Files of a tree in rows of memory. -/
import Derived.Test.YtmocfgghccmdgaaPathBase
import Derived.Test.YtmocfgghccmdgaaRowsLib
import Derived.Deep.LoopGhost
import Derived.Deep.RegionLaw
import Derived.Deep.AppendLies
import Derived.Deep.RegionHeld3
import Derived.WalkKit
namespace Go.Proofs.Ytmocfgghccmdgaa.TrLib
open Go Go.Proofs Go.RowKit Go.Proofs.YtmocfgghccmdgaaW.PrintWords Go.Proofs.Ytmocfgghccmdgaa.RowsLib
set_option linter.unusedVariables false

/-- A file: its path, its bytes. -/
abbrev Fl := ByteArray × ByteArray
def encF (x : Fl) : List Value := [.string x.1, .string x.2]
theorem encF_len (x : Fl) : (encF x).length = 2 := rfl
theorem encF_one (x : Fl) : ∀ u ∈ encF x, u.oneCell' = true := by
  intro u hu
  simp only [encF, List.mem_cons, List.not_mem_nil, or_false] at hu
  rcases hu with rfl | rfl <;> rfl
def cellsF (l : List Fl) : List Value := cellsL encF l
theorem cellsF_len (l : List Fl) : (cellsF l).length = l.length * 2 := cellsL_len (n := 2) encF_len l
theorem cellsF_one (l : List Fl) : ∀ u ∈ cellsF l, u.oneCell' = true := by
  intro u hu
  obtain ⟨x, _, h⟩ := mem_cellsL hu
  exact encF_one x u h
theorem cellsF_app (a b : List Fl) : cellsF (a ++ b) = cellsF a ++ cellsF b := cellsL_app _ _ _
theorem cellsF_cons (x : Fl) (b : List Fl) : cellsF (x :: b) = encF x ++ cellsF b := by unfold cellsF cellsL; rw [List.flatMap_cons]
theorem infoF : (Try.prog.info? 24).map (fun i => (i.zero, i.size, i.bytes)) = some (some (.agg #[.string ⟨#[]⟩, .string ⟨#[]⟩]), 2, 32) := by kernel_rfl
def kF : Kd Fl := Kd.iso (Kd.pair Kd.string Kd.string) (fun x : Fl => (x.1, x.2))
theorem kF_open {w : World} {x : Fl} {cs : List Value} (h : kF.K w x cs) : cs = encF x := by
  obtain ⟨_, _, rfl, rfl, rfl⟩ := h
  exact rfl
theorem kF_mkM (w : World) (base : Nat) (ok : Nat → Prop) (x : Fl) : kF.M w base ok x (encF x) := ⟨[.string x.1], [.string x.2], rfl, rfl, rfl⟩
theorem own_later {w w1 : World} {base : Nat} {e : TypeId} {size n : Nat} {v : Value} {xs : List Value} (h : w.ownsRow base e size v n xs) (hb : Below w.heap.size w w1) : w1.ownsRow base e size v n xs :=
  own_move h fun k hk => hb.block k (h.lt k hk).2
theorem own_ge {w : World} {base : Nat} {e : TypeId} {size n : Nat} {v : Value} {xs : List Value} (h : w.ownsRow base e size v n xs) : ∀ k, v.ownBlock = some k → base ≤ k := fun k hk => (h.lt k hk).1
theorem own_C {w : World} {base : Nat} {v : Value} {l : List Fl} (h : w.ownsRow base 24 2 v l.length (cellsF l)) : ∃ A c, v = .slice A l.length c ∧ l.length ≤ c ∧ Kd.C kF w A l.length l :=
  Kd.R_reads (R_of (d := kF) (f := encF) (n := 2) (fun _ => rfl) rfl (fun ok x => kF_mkM w base ok x) h (Nat.le_refl _))
/-- A list that came in, as files. -/
theorem C_files {α : Type} {d : Kd α} (hsz : d.sz = 2) {enc : α → Fl} (hK : ∀ {w x cs}, d.K w x cs → cs = encF (enc x)) {w : World} {A : Option Addr} {l : List α} (h : Kd.C d w A l.length l) : Kd.C kF w A (l.map enc).length (l.map enc) := by
  rw [List.length_map]
  obtain ⟨h1, h2, h3⟩ := h
  refine ⟨by rw [List.length_map], h2, fun h0 => ?_⟩
  obtain ⟨ad, e, hc⟩ := h3 h0
  refine ⟨ad, e, fun j x hx => ?_⟩
  rw [List.getElem?_map] at hx
  cases hj : l[j]? with
  | none => rw [hj] at hx; cases hx
  | some y =>
    rw [hj] at hx
    obtain rfl := Option.some.inj hx
    obtain ⟨cs, hl, hk, hcs⟩ := hc j y hj
    have := hK hk
    subst this
    refine ⟨encF (enc y), rfl, ⟨[.string (enc y).1], [.string (enc y).2], rfl, rfl, rfl⟩, fun i u hu => ?_⟩
    have := hcs i u hu
    rw [hsz] at this
    exact this
/-- A file of a list, read. -/
theorem at_F {w : World} {A : Option Addr} {l : List Fl} (h : Kd.C kF w A l.length l) {i : Nat} (hi : i < l.length) : ∃ ad, A = some ad ∧ w.cell? (ad.add (i * 2)) = some (.string l[i].1) ∧ w.cell? ⟨(ad.add (i * 2)).block, (ad.add (i * 2)).off + 1, none⟩ = some (.string l[i].2) := by
  obtain ⟨ad, cs, rfl, hl, hk, hc⟩ := Kd.C_get h (l[i]) (i : Int) (by omega) (by omega)
  have hcs := kF_open hk
  have hg : l.getD (i : Int).toNat l[i] = l[i] := by simp [List.getD, List.getElem?_eq_getElem hi]
  rw [hg] at hcs
  rw [hcs] at hc
  simp only [Int.toNat_natCast] at hc
  have hc' : ∀ (j : Nat) (u : Value), (encF l[i])[j]? = some u → w.cell? (ad.add (i * 2 + j)) = some u := hc
  refine ⟨ad, rfl, ?_, ?_⟩
  · have := hc' 0 _ rfl
    simpa using this
  · have h1 := hc' 1 _ rfl
    rw [← RowsLib.add_add] at h1
    exact h1
theorem box_cell {w : World} {B k : Nat} {cs : Array Value} {T : TypeId} {u : Value} (h : w.heap[B]? = some (.cells cs T (0, 0))) (hk : cs[k]? = some u) : w.cell? ⟨B, k, none⟩ = some u ∧ w.frozen? ⟨B, k, none⟩ = false :=
  ⟨by simp [World.cell?, h]; exact hk, by simp [World.frozen?, h]⟩
theorem block_lt {w : World} {B : Nat} {o : Obj} (h : w.heap[B]? = some o) : B < w.heap.size := (Array.getElem?_eq_some_iff.1 h).1
theorem block_later {w w' : World} {B : Nat} {o : Obj} (h : w.heap[B]? = some o) (hb : Below w.heap.size w w') : w'.heap[B]? = some o := (hb.block B (block_lt h)).trans h
theorem set_heap (w : World) (B k : Nat) (cs : Array Value) (T : TypeId) (x : Value) (h : w.heap[B]? = some (.cells cs T (0, 0))) : (w.setCell ⟨B, k, none⟩ x).heap[B]? = some (.cells (cs.setIfInBounds k x) T (0, 0)) := by
  simp [World.setCell, Array.getElem?_modify, h]

/-! ### The search, in plain words -/
/-- Where the first one stands that p does not hold of, halved. -/
def bs (p : Nat → Bool) : Nat → Nat → Nat → Nat
  | 0, lo, _ => lo
  | n + 1, lo, hi => if lo < hi then (if p ((lo + hi) / 2) = true then bs p n ((lo + hi) / 2 + 1) hi else bs p n lo ((lo + hi) / 2)) else lo
theorem bs_done (p : Nat → Bool) (n lo : Nat) : bs p n lo lo = lo := by
  cases n with
  | zero => rfl
  | succ n => rw [bs, if_neg (Nat.lt_irrefl _)]
/-- More rounds than places change nothing. -/
theorem bs_more (p : Nat → Bool) : ∀ (n m lo hi : Nat), hi - lo ≤ n → hi - lo ≤ m → lo ≤ hi → bs p n lo hi = bs p m lo hi
  | 0, m, lo, hi, h1, h2, h3 => by
    obtain rfl : lo = hi := by omega
    rw [bs_done, bs_done]
  | n + 1, 0, lo, hi, h1, h2, h3 => by
    obtain rfl : lo = hi := by omega
    rw [bs_done, bs_done]
  | n + 1, m + 1, lo, hi, h1, h2, h3 => by
    rw [bs, bs]
    by_cases h : lo < hi
    · rw [if_pos h, if_pos h]
      split
      · exact bs_more p n m _ _ (by omega) (by omega) (by omega)
      · exact bs_more p n m _ _ (by omega) (by omega) (by omega)
    · rw [if_neg h, if_neg h]
theorem bs_le (p : Nat → Bool) : ∀ (n lo hi : Nat), lo ≤ hi → bs p n lo hi ≤ hi ∧ lo ≤ bs p n lo hi
  | 0, lo, hi, h => ⟨h, Nat.le_refl _⟩
  | n + 1, lo, hi, h => by
    rw [bs]
    split
    · split
      · have := bs_le p n ((lo + hi) / 2 + 1) hi (by omega); omega
      · have := bs_le p n lo ((lo + hi) / 2) (by omega); omega
    · omega
/-- Where what is alike stands among the files, or would stand; and whether it is there. -/
def atI (l : List Fl) (k : ByteArray) : Nat := bs (fun i => decide (PathBase.cmpP (l.getD i (⟨#[]⟩, ⟨#[]⟩)).1 k < 0)) (l.length + 1) 0 l.length
def atF (l : List Fl) (k : ByteArray) : Nat × Bool := (atI l k, decide (atI l k < l.length) && decide (PathBase.cmpP (l.getD (atI l k) (⟨#[]⟩, ⟨#[]⟩)).1 k = 0))
theorem atI_le (l : List Fl) (k : ByteArray) : atI l k ≤ l.length := (bs_le _ _ _ _ (Nat.zero_le _)).1
end Go.Proofs.Ytmocfgghccmdgaa.TrLib
