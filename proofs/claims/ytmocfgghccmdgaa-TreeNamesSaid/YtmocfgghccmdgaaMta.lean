/- Printed parts, put together. -/
import Derived.Test.YtmocfgghccmdgaaPathBase
import Derived.Test.YtmocfgghccmdgaaRowsLib
import Derived.Deep.LoopGhost
import Derived.Deep.RegionLaw
import Derived.Deep.AppendLies
import Derived.Deep.RegionHeld3
import Derived.WalkKit
import Derived.Laws.CopyRow
import Derived.Laws.IdiomCopy
import Derived.Laws.NewBlocks
import Derived.Lib.SliceRun
import Derived.Lib.Walk
import Derived.Lib.AppendZerosOnto
import Derived.Lib.Overlaps
import Derived.Laws.Externs
import Derived.Shelf.RegionOpenPlain
import Derived.Deep.DeepCutAuto
import Derived.Maps.AppendAt
/- Files of a tree in rows of memory. -/
namespace Go.Proofs.Ytmocfgghccmdgaa.TrLib
open Go Go.Proofs Go.RowKit Go.Proofs.YtmocfgghccmdgaaW.PrintWords Go.Proofs.Ytmocfgghccmdgaa.RowsLib
set_option linter.unusedVariables false

/-- A file: its path, its bytes. -/
abbrev Fl := ByteArray × ByteArray
def encF (x : Fl) : List Value := [.string x.1, .string x.2]
theorem encF_len (x : Fl) : (encF x).length = 2 := rfl
theorem encF_one (x : Fl) : ∀ u ∈ encF x, u.oneCell' = true := by
  intro u hu
  simp only [encF, List.mem_cons, List.not_mem_nil, or_false] at hu
  rcases hu with rfl | rfl <;> rfl
def cellsF (l : List Fl) : List Value := cellsL encF l
theorem cellsF_len (l : List Fl) : (cellsF l).length = l.length * 2 := cellsL_len (n := 2) encF_len l
theorem cellsF_one (l : List Fl) : ∀ u ∈ cellsF l, u.oneCell' = true := by
  intro u hu
  obtain ⟨x, _, h⟩ := mem_cellsL hu
  exact encF_one x u h
theorem cellsF_cons (x : Fl) (b : List Fl) : cellsF (x :: b) = encF x ++ cellsF b := by unfold cellsF cellsL; rw [List.flatMap_cons]
theorem infoF : (Try.prog.info? 24).map (fun i => (i.zero, i.size, i.bytes)) = some (some (.agg #[.string ⟨#[]⟩, .string ⟨#[]⟩]), 2, 32) := by kernel_rfl
def kF : Kd Fl := Kd.iso (Kd.pair Kd.string Kd.string) (fun x : Fl => (x.1, x.2))
theorem kF_open {w : World} {x : Fl} {cs : List Value} (h : kF.K w x cs) : cs = encF x := by
  obtain ⟨_, _, rfl, rfl, rfl⟩ := h
  exact rfl
theorem kF_mkM (w : World) (base : Nat) (ok : Nat → Prop) (x : Fl) : kF.M w base ok x (encF x) := ⟨[.string x.1], [.string x.2], rfl, rfl, rfl⟩
theorem own_later {w w1 : World} {base : Nat} {e : TypeId} {size n : Nat} {v : Value} {xs : List Value} (h : w.ownsRow base e size v n xs) (hb : Below w.heap.size w w1) : w1.ownsRow base e size v n xs :=
  own_move h fun k hk => hb.block k (h.lt k hk).2
theorem own_ge {w : World} {base : Nat} {e : TypeId} {size n : Nat} {v : Value} {xs : List Value} (h : w.ownsRow base e size v n xs) : ∀ k, v.ownBlock = some k → base ≤ k := fun k hk => (h.lt k hk).1
theorem own_C {w : World} {base : Nat} {v : Value} {l : List Fl} (h : w.ownsRow base 24 2 v l.length (cellsF l)) : ∃ A c, v = .slice A l.length c ∧ l.length ≤ c ∧ Kd.C kF w A l.length l :=
  Kd.R_reads (R_of (d := kF) (f := encF) (n := 2) (fun _ => rfl) rfl (fun ok x => kF_mkM w base ok x) h (Nat.le_refl _))
/-- A list that came in, as files. -/
theorem C_files {α : Type} {d : Kd α} (hsz : d.sz = 2) {enc : α → Fl} (hK : ∀ {w x cs}, d.K w x cs → cs = encF (enc x)) {w : World} {A : Option Addr} {l : List α} (h : Kd.C d w A l.length l) : Kd.C kF w A (l.map enc).length (l.map enc) := by
  rw [List.length_map]
  obtain ⟨h1, h2, h3⟩ := h
  refine ⟨by rw [List.length_map], h2, fun h0 => ?_⟩
  obtain ⟨ad, e, hc⟩ := h3 h0
  refine ⟨ad, e, fun j x hx => ?_⟩
  rw [List.getElem?_map] at hx
  cases hj : l[j]? with
  | none => rw [hj] at hx; cases hx
  | some y =>
    rw [hj] at hx
    obtain rfl := Option.some.inj hx
    obtain ⟨cs, hl, hk, hcs⟩ := hc j y hj
    have := hK hk
    subst this
    refine ⟨encF (enc y), rfl, ⟨[.string (enc y).1], [.string (enc y).2], rfl, rfl, rfl⟩, fun i u hu => ?_⟩
    have := hcs i u hu
    rw [hsz] at this
    exact this
/-- A file of a list, read. -/
theorem at_F {w : World} {A : Option Addr} {l : List Fl} (h : Kd.C kF w A l.length l) {i : Nat} (hi : i < l.length) : ∃ ad, A = some ad ∧ w.cell? (ad.add (i * 2)) = some (.string l[i].1) ∧ w.cell? ⟨(ad.add (i * 2)).block, (ad.add (i * 2)).off + 1, none⟩ = some (.string l[i].2) := by
  obtain ⟨ad, cs, rfl, hl, hk, hc⟩ := Kd.C_get h (l[i]) (i : Int) (by omega) (by omega)
  have hcs := kF_open hk
  have hg : l.getD (i : Int).toNat l[i] = l[i] := by simp [List.getD, List.getElem?_eq_getElem hi]
  rw [hg] at hcs
  rw [hcs] at hc
  simp only [Int.toNat_natCast] at hc
  have hc' : ∀ (j : Nat) (u : Value), (encF l[i])[j]? = some u → w.cell? (ad.add (i * 2 + j)) = some u := hc
  refine ⟨ad, rfl, ?_, ?_⟩
  · have := hc' 0 _ rfl
    simpa using this
  · have h1 := hc' 1 _ rfl
    rw [← RowsLib.add_add] at h1
    exact h1
theorem box_cell {w : World} {B k : Nat} {cs : Array Value} {T : TypeId} {u : Value} (h : w.heap[B]? = some (.cells cs T (0, 0))) (hk : cs[k]? = some u) : w.cell? ⟨B, k, none⟩ = some u ∧ w.frozen? ⟨B, k, none⟩ = false :=
  ⟨by simp [World.cell?, h]; exact hk, by simp [World.frozen?, h]⟩
theorem block_lt {w : World} {B : Nat} {o : Obj} (h : w.heap[B]? = some o) : B < w.heap.size := (Array.getElem?_eq_some_iff.1 h).1
theorem block_later {w w' : World} {B : Nat} {o : Obj} (h : w.heap[B]? = some o) (hb : Below w.heap.size w w') : w'.heap[B]? = some o := (hb.block B (block_lt h)).trans h
theorem set_heap (w : World) (B k : Nat) (cs : Array Value) (T : TypeId) (x : Value) (h : w.heap[B]? = some (.cells cs T (0, 0))) : (w.setCell ⟨B, k, none⟩ x).heap[B]? = some (.cells (cs.setIfInBounds k x) T (0, 0)) := by
  simp [World.setCell, Array.getElem?_modify, h]

/-! ### The search, in plain words -/
/-- Where the first one stands that p does not hold of, halved. -/
def bs (p : Nat → Bool) : Nat → Nat → Nat → Nat
  | 0, lo, _ => lo
  | n + 1, lo, hi => if lo < hi then (if p ((lo + hi) / 2) = true then bs p n ((lo + hi) / 2 + 1) hi else bs p n lo ((lo + hi) / 2)) else lo
theorem bs_done (p : Nat → Bool) (n lo : Nat) : bs p n lo lo = lo := by
  cases n with
  | zero => rfl
  | succ n => rw [bs, if_neg (Nat.lt_irrefl _)]
/-- More rounds than places change nothing. -/
theorem bs_more (p : Nat → Bool) : ∀ (n m lo hi : Nat), hi - lo ≤ n → hi - lo ≤ m → lo ≤ hi → bs p n lo hi = bs p m lo hi
  | 0, m, lo, hi, h1, h2, h3 => by
    obtain rfl : lo = hi := by omega
    rw [bs_done, bs_done]
  | n + 1, 0, lo, hi, h1, h2, h3 => by
    obtain rfl : lo = hi := by omega
    rw [bs_done, bs_done]
  | n + 1, m + 1, lo, hi, h1, h2, h3 => by
    rw [bs, bs]
    by_cases h : lo < hi
    · rw [if_pos h, if_pos h]
      split
      · exact bs_more p n m _ _ (by omega) (by omega) (by omega)
      · exact bs_more p n m _ _ (by omega) (by omega) (by omega)
    · rw [if_neg h, if_neg h]
theorem bs_le (p : Nat → Bool) : ∀ (n lo hi : Nat), lo ≤ hi → bs p n lo hi ≤ hi ∧ lo ≤ bs p n lo hi
  | 0, lo, hi, h => ⟨h, Nat.le_refl _⟩
  | n + 1, lo, hi, h => by
    rw [bs]
    split
    · split
      · have := bs_le p n ((lo + hi) / 2 + 1) hi (by omega); omega
      · have := bs_le p n lo ((lo + hi) / 2) (by omega); omega
    · omega
/-- Where what is alike stands among the files, or would stand; and whether it is there. -/
def atI (l : List Fl) (k : ByteArray) : Nat := bs (fun i => decide (PathBase.cmpP (l.getD i (⟨#[]⟩, ⟨#[]⟩)).1 k < 0)) (l.length + 1) 0 l.length
def atF (l : List Fl) (k : ByteArray) : Nat × Bool := (atI l k, decide (atI l k < l.length) && decide (PathBase.cmpP (l.getD (atI l k) (⟨#[]⟩, ⟨#[]⟩)).1 k = 0))
theorem atI_le (l : List Fl) (k : ByteArray) : atI l k ≤ l.length := (bs_le _ _ _ _ (Nat.zero_le _)).1
end Go.Proofs.Ytmocfgghccmdgaa.TrLib


/- tree.sorted's at, over files: the walk. -/
namespace Go.Proofs.Ytmocfgghccmdgaa.TrAt
open Go Go.Proofs Go.RowKit Go.Proofs.YtmocfgghccmdgaaW.PrintWords Go.Proofs.Ytmocfgghccmdgaa.RowsLib Go.Proofs.Ytmocfgghccmdgaa.TrLib Go.Proofs.Ytmocfgghccmdgaa.PathBase
set_option linter.unusedVariables false
set_option linter.unusedSimpArgs false

/-- The closure f.Path. -/
theorem key_calls (x : Fl) (w : World) : Calls Try.prog 66 #[.agg #[.string x.1, .string x.2]] w fun e w' => e = .returned (.string x.1) ∧ Below w.heap.size w w' := by
  go_enter Try.func66, Try.ntmps66
  go_wp2
  go_ret
  exact ⟨rfl, (Below.refl _ w).alloc (Nat.le_refl _) _⟩

/-- What the closure that compares holds to: a pointer's box, and what it points to. -/
structure Hold (W : World) (bx B : Nat) : Prop where
  box : W.heap[bx]? = some (.cells #[.pointer (some ⟨B, 0, none⟩)] 51 (0, 0))
  obj : ∃ v, W.heap[B]? = some (.cells #[v, .func (.func 66) #[] #[], .func (.func 47) #[] #[]] 58 (0, 0))
theorem Hold.later {W W' : World} {bx B : Nat} (h : Hold W bx B) (hb : Below W.heap.size W W') : Hold W' bx B :=
  ⟨block_later h.box hb, by obtain ⟨v, hv⟩ := h.obj; exact ⟨v, block_later hv hb⟩⟩

theorem S_of {W w' : World} {bx B n : Nat} {x : Fl} {v : Value} (c0 : W.cell? ⟨bx, 0, none⟩ = some (.pointer (some ⟨B, 0, none⟩))) (l0 : bx < W.heap.size) (c1 : W.cell? ⟨B, 1, none⟩ = some (.func (.func 66) #[] #[])) (c2 : W.cell? ⟨B, 2, none⟩ = some (.func (.func 47) #[] #[])) (l1 : B < W.heap.size)
    (c3 : W.cell? ⟨n, 0, none⟩ = some (.string x.1)) (c4 : W.cell? ⟨n, 1, none⟩ = some (.string x.2)) (l2 : n < W.heap.size) (hb : Below W.heap.size W w') :
    w'.cell? ⟨bx, 0, none⟩ = some (.pointer (some ⟨B, 0, none⟩)) ∧ w'.cell? ⟨B, 1, none⟩ = some (.func (.func 66) #[] #[]) ∧ w'.cell? ⟨B, 2, none⟩ = some (.func (.func 47) #[] #[]) ∧ w'.cell? ⟨n, 0, none⟩ = some (.string x.1) ∧ w'.cell? ⟨n, 1, none⟩ = some (.string x.2) ∧ Below W.heap.size W w' :=
  ⟨(hb.cell (p := ⟨bx, 0, none⟩) l0).trans c0, (hb.cell (p := ⟨B, 1, none⟩) l1).trans c1, (hb.cell (p := ⟨B, 2, none⟩) l1).trans c2, (hb.cell (p := ⟨n, 0, none⟩) l2).trans c3, (hb.cell (p := ⟨n, 1, none⟩) l2).trans c4, hb⟩

set_option maxHeartbeats 4000000 in
set_option maxRecDepth 100000 in
theorem cmp_calls (x : Fl) (k : ByteArray) (hx : x.1.size ≤ 1099511627776) (hk : k.size ≤ 1099511627776) (bx B : Nat) (w : World) (h : Hold w bx B) :
    Calls Try.prog 70 #[.agg #[.string x.1, .string x.2], .string k, .pointer (some ⟨bx, 0, none⟩)] w fun e w' => e = .returned (.int .i64 (cmpP x.1 k)) ∧ Below w.heap.size w w' := by
  go_enter Try.func70, Try.ntmps70
  go_wp2_with fail
  obtain ⟨W, hW⟩ : ∃ W, w.alloc (Obj.cells #[Value.string x.1, Value.string x.2] 24) = W := ⟨_, rfl⟩
  have b0 : Below w.heap.size w W := by rw [← hW]; exact (Below.refl _ w).alloc (Nat.le_refl _) _
  have hs : W.heap.size = w.heap.size + 1 := by rw [← hW]; simp
  have c3 : W.cell? ⟨w.heap.size, 0, none⟩ = some (.string x.1) := by rw [← hW]; simp [go_sem]
  have c4 : W.cell? ⟨w.heap.size, 1, none⟩ = some (.string x.2) := by rw [← hW]; simp [go_sem]
  rw [hW]
  have hH := h.later b0
  obtain ⟨v, hv⟩ := hH.obj
  have c0 := (box_cell (k := 0) hH.box rfl).1
  have c1 := (box_cell (k := 1) hv rfl).1
  have c2 := (box_cell (k := 2) hv rfl).1
  have l0 := block_lt hH.box
  have l1 := block_lt hv
  have l2 : w.heap.size < W.heap.size := by omega
  have hB : Below W.heap.size W W := Below.refl _ _
  have hBd : Below W.heap.size W W.drew := hB.drew
  have B0 := Aside0.mk b0
  have HKEY : Aside0 (∀ W' : World, Below W.heap.size W W' → Calls Try.prog 66 #[.agg #[.string x.1, .string x.2]] W' fun e w' => e = .returned (.string x.1) ∧ Below W.heap.size W w') :=
    ⟨fun W' hb => (key_calls x W').mono fun e w' ⟨h1, h2⟩ => ⟨h1, hb.trans (h2.mono hb.size)⟩⟩
  have HCMP : Aside0 (∀ W' : World, Below W.heap.size W W' → Calls Try.prog 47 #[.string x.1, .string k] W' fun e w' => e = .returned (.int .i64 (cmpP x.1 k)) ∧ Below W.heap.size W w') :=
    ⟨fun W' hb => (Compare_calls x.1 k hx hk W').mono fun e w' ⟨h1, h2⟩ => ⟨h1, hb.trans (h2.mono hb.size)⟩⟩
  clear h hH hv hW b0 hs hx hk
  go_region_held3 (fun w' => w'.cell? ⟨bx, 0, none⟩ = some (.pointer (some ⟨B, 0, none⟩)) ∧ w'.cell? ⟨B, 1, none⟩ = some (.func (.func 66) #[] #[]) ∧ w'.cell? ⟨B, 2, none⟩ = some (.func (.func 47) #[] #[]) ∧ w'.cell? ⟨w.heap.size, 0, none⟩ = some (.string x.1) ∧ w'.cell? ⟨w.heap.size, 1, none⟩ = some (.string x.2) ∧ Below W.heap.size W w')
    (first
      | exact S_of (v := v) c0 l0 c1 c2 l1 c3 c4 l2 hB
      | exact S_of (v := v) c0 l0 c1 c2 l1 c3 c4 l2 hBd
      | exact S_of (v := v) c0 l0 c1 c2 l1 c3 c4 l2 hbb
      | exact S_of (v := v) c0 l0 c1 c2 l1 c3 c4 l2 (by go_split_ands; assumption)
      | (go_split_ands; exact S_of (v := v) c0 l0 c1 c2 l1 c3 c4 l2 (by assumption))
      | go_keep)
    (first
      | (go_at_call 66; refine (HKEY.out _ (by first | exact hBd | (go_split_ands; assumption))).mono ?_; rintro e w' ⟨rfl, hbb⟩)
      | (go_at_call 47; refine (HCMP.out _ (by first | exact hBd | (go_split_ands; assumption))).mono ?_; rintro e w' ⟨rfl, hbb⟩))
  go_wp2_with fail
  go_ret
  exact ⟨rfl, B0.out.trans (hbb.mono B0.out.size)⟩

def pF (l : List Fl) (k : ByteArray) (i : Nat) : Bool := decide (cmpP (l.getD i (⟨#[]⟩, ⟨#[]⟩)).1 k < 0)
theorem pF_at {l : List Fl} {k : ByteArray} {i : Nat} (h : i < l.length) : pF l k i = decide (cmpP l[i].1 k < 0) := by
  unfold pF
  simp [List.getD, List.getElem?_eq_getElem h]
theorem atI_bs (l : List Fl) (k : ByteArray) : ∀ n, l.length - 0 ≤ n → bs (pF l k) n 0 l.length = atI l k := fun n hn => bs_more (pF l k) n (l.length + 1) 0 l.length hn (by omega) (Nat.zero_le _)
theorem bs_up {p : Nat → Bool} {lo hi r : Nat} (hlt : lo < hi) (h : ∀ n, hi - lo ≤ n → bs p n lo hi = r) (hp : p ((lo + hi) / 2) = true) : ∀ n, hi - ((lo + hi) / 2 + 1) ≤ n → bs p n ((lo + hi) / 2 + 1) hi = r := fun n hn => by
  have h1 := h (hi - lo + 1) (by omega)
  rw [bs, if_pos hlt, if_pos hp] at h1
  rw [← h1]
  exact bs_more p n (hi - lo) _ _ hn (by omega) (by omega)
theorem bs_dn {p : Nat → Bool} {lo hi r : Nat} (hlt : lo < hi) (h : ∀ n, hi - lo ≤ n → bs p n lo hi = r) (hp : p ((lo + hi) / 2) = false) : ∀ n, (lo + hi) / 2 - lo ≤ n → bs p n lo ((lo + hi) / 2) = r := fun n hn => by
  have h1 := h (hi - lo + 1) (by omega)
  rw [bs, if_pos hlt, if_neg (by rw [hp]; decide)] at h1
  rw [← h1]
  exact bs_more p n (hi - lo) _ _ hn (by omega) (by omega)

set_option maxHeartbeats 4000000 in
set_option maxRecDepth 100000 in
theorem bin_calls (l : List Fl) (k : ByteArray) (hx : ∀ x ∈ l, x.1.size ≤ 1099511627776) (hk : k.size ≤ 1099511627776) (bx B : Nat) (A : Option Addr) (c : Nat) (w : World) (hr : Kd.C kF w A l.length l) (hl : l.length ≤ 4611686018427387000) (h : Hold w bx B) :
    Calls Try.prog 69 #[.slice A l.length c, .string k, .func (.func 70) #[] #[.pointer (some ⟨bx, 0, none⟩)]] w
      fun e w' => e = .returned (.tuple #[.int .i64 (atF l k).1, .bool (atF l k).2]) ∧ Below w.heap.size w w' := by
  have HR := Aside0.mk hr
  have H := Aside0.mk h
  have HX := Aside0.mk hx
  have HCMP : Aside0 (∀ (W' : World) (x : Fl), x ∈ l → Below w.heap.size w W' → Calls Try.prog 70 #[.agg #[.string x.1, .string x.2], .string k, .pointer (some ⟨bx, 0, none⟩)] W' fun e w' => e = .returned (.int .i64 (cmpP x.1 k)) ∧ Below w.heap.size w w') :=
    ⟨fun W' x hm hb => (cmp_calls x k (hx x hm) hk bx B W' (h.later hb)).mono fun e w' ⟨h1, h2⟩ => ⟨h1, hb.trans (h2.mono hb.size)⟩⟩
  have HAT : Aside0 (∀ n, l.length - 0 ≤ n → bs (pF l k) n 0 l.length = atI l k) := ⟨atI_bs l k⟩
  have HFIN : Aside0 ((atF l k).2 = (decide (atI l k < l.length) && decide (cmpP (l.getD (atI l k) (⟨#[]⟩, ⟨#[]⟩)).1 k = 0))) := ⟨rfl⟩
  have HFI1 : Aside0 ((atF l k).1 = atI l k) := ⟨rfl⟩
  obtain ⟨r, hrr⟩ : ∃ r, atF l k = r := ⟨_, rfl⟩
  rw [hrr] at HFIN HFI1 ⊢
  obtain ⟨r1, r2⟩ := r
  simp only at HFIN HFI1 ⊢
  clear hr h hx hrr
  go_enter Try.func69, Try.ntmps69
  go_wp2
  go_loopg [9, 10] l.length (fun kx s9 s10 wr => ∃ lo hi : Nat, s9 = .int .i64 lo ∧ s10 = .int .i64 hi ∧ lo ≤ hi ∧ hi ≤ l.length ∧ hi - lo ≤ kx ∧ Aside0 (Below w.heap.size w wr) ∧ Aside0 (∀ n, hi - lo ≤ n → bs (pF l k) n lo hi = atI l k))
  case atStart => exact ⟨0, l.length, rfl, rfl, Nat.zero_le _, Nat.le_refl _, by omega, ⟨Below.refl _ _⟩, HAT⟩
  case round =>
    obtain ⟨lo, hi, rfl, rfl, hlh, hin, hg, BW, I⟩ := hrel
    by_cases hlt : lo < hi
    · have hm : (lo + hi) / 2 < l.length := by omega
      obtain ⟨ad, hA, q0, q1⟩ := at_F (Kd.C_below HR.out BW.out) hm
      obtain rfl := hA
      have hP := pF_at (k := k) hm
      have hC := HCMP.out wr l[(lo + hi) / 2] (List.getElem_mem hm) BW.out
      obtain ⟨x, hxx⟩ : ∃ x, l[(lo + hi) / 2] = x := ⟨_, rfl⟩
      rw [hxx] at q0 q1 hC hP
      have HPA := Aside0.mk hP
      clear hP hxx
      by_cases hyx : cmpP x.1 k < 0
      · have hup := Aside0.mk (bs_up hlt I.out (HPA.out.trans (decide_eq_true hyx)))
        clear I HPA
        go_wp2_with (go_at_call 70; refine hC.mono ?_; rintro e w' ⟨rfl, hb'⟩)
        go_roundg (hi - ((lo + hi) / 2 + 1))
        case measure => omega
        case rel => exact ⟨(lo + hi) / 2 + 1, hi, by rw [show ((lo : Int) + (hi : Int)) / 2 + 1 = (((lo + hi) / 2 + 1 : Nat) : Int) by omega], rfl, by omega, hin, Nat.le_refl _, ⟨hb'⟩, hup⟩
      · have hdn := Aside0.mk (bs_dn hlt I.out (HPA.out.trans (decide_eq_false hyx)))
        clear I HPA
        go_wp2_with (go_at_call 70; refine hC.mono ?_; rintro e w' ⟨rfl, hb'⟩)
        go_roundg ((lo + hi) / 2 - lo)
        case measure => omega
        case rel => exact ⟨lo, (lo + hi) / 2, rfl, by rw [show ((lo : Int) + (hi : Int)) / 2 = (((lo + hi) / 2 : Nat) : Int) by omega], by omega, by omega, Nat.le_refl _, ⟨hb'⟩, hdn⟩
    · obtain rfl : hi = lo := by omega
      have e0 : atI l k = hi := by
        rw [← I.out 0 (by omega)]; rfl
      have F2 := HFIN.out
      have F1 := HFI1.out
      rw [e0] at F2 F1
      subst F1
      have HF := Aside0.mk F2
      clear F2 I HFIN HFI1 HAT e0
      by_cases hn : r1 < l.length
      · obtain ⟨ad, hA, q0, q1⟩ := at_F (Kd.C_below HR.out BW.out) hn
        obtain rfl := hA
        have hC := HCMP.out wr l[r1] (List.getElem_mem hn) BW.out
        have hgd : l.getD r1 (⟨#[]⟩, ⟨#[]⟩) = l[r1] := by simp [List.getD, List.getElem?_eq_getElem hn]
        have F3 := HF.out
        rw [hgd, decide_eq_true hn, Bool.true_and] at F3
        obtain ⟨x, hxx⟩ : ∃ x, l[r1] = x := ⟨_, rfl⟩
        rw [hxx] at q0 q1 hC F3
        have HF3 := Aside0.mk F3
        clear hxx hgd F3 HF
        by_cases hyx : cmpP x.1 k = 0
        · have HF4 := Aside0.mk (HF3.out.trans (decide_eq_true hyx))
          clear HF3
          go_wp2_with (go_at_call 70; refine hC.mono ?_; rintro e w' ⟨rfl, hb'⟩)
          go_ret2
          exact ⟨by rw [HF4.out]; simp [hyx], hb'⟩
        · have HF4 := Aside0.mk (HF3.out.trans (decide_eq_false hyx))
          clear HF3
          go_wp2_with (go_at_call 70; refine hC.mono ?_; rintro e w' ⟨rfl, hb'⟩)
          go_ret2
          exact ⟨by rw [HF4.out]; simp [hyx], hb'⟩
      · have F3 := HF.out
        rw [decide_eq_false hn, Bool.false_and] at F3
        have HF3 := Aside0.mk F3
        clear F3 HF
        go_wp2
        go_ret2
        exact ⟨by rw [HF3.out]; try simp [hn], BW.out⟩

/-- A list in an order: its files in a row of the call's own. -/
def Sf (w : World) (base B : Nat) (l : List Fl) : Prop := ∃ v, w.heap[B]? = some (.cells #[v, .func (.func 66) #[] #[], .func (.func 47) #[] #[]] 58 (0, 0)) ∧ w.ownsRow base 24 2 v l.length (cellsF l) ∧ base ≤ B
theorem Sf.lt {w : World} {base B : Nat} {l : List Fl} (h : Sf w base B l) : B < w.heap.size := by
  obtain ⟨v, h1, _⟩ := h
  exact block_lt h1
theorem Sf.later {w w1 : World} {base B : Nat} {l : List Fl} (h : Sf w base B l) (hb : Below w.heap.size w w1) : Sf w1 base B l := by
  obtain ⟨v, h1, h2, h3⟩ := h
  exact ⟨v, block_later h1 hb, own_later h2 hb, h3⟩

set_option maxHeartbeats 4000000 in
set_option maxRecDepth 100000 in
theorem at_calls (base B : Nat) (l : List Fl) (k : ByteArray) (hx : ∀ x ∈ l, x.1.size ≤ 1099511627776) (hk : k.size ≤ 1099511627776) (hl : l.length ≤ 4611686018427387000) (w : World) (h : Sf w base B l) :
    Calls Try.prog 44 #[.pointer (some ⟨B, 0, none⟩), .string k] w fun e w' => e = .returned (.tuple #[.int .i64 (atF l k).1, .bool (atF l k).2]) ∧ Below w.heap.size w w' := by
  have b0 : Below w.heap.size w (w.alloc (.cells #[.pointer (some ⟨B, 0, none⟩)] 51)) := (Below.refl _ w).alloc (Nat.le_refl _) _
  have h1 := h.later b0
  obtain ⟨v, hv, ho, hB⟩ := h1
  obtain ⟨A, c, rfl, hlc, hC⟩ := own_C ho
  have hbx : (w.alloc (.cells #[.pointer (some ⟨B, 0, none⟩)] 51)).heap[w.heap.size]? = some (.cells #[.pointer (some ⟨B, 0, none⟩)] 51 (0, 0)) := heap_alloc_new w _
  have HBIN := Aside0.mk (bin_calls l k hx hk w.heap.size B A c _ hC hl ⟨hbx, _, hv⟩)
  have c0 := (box_cell (k := 0) hv rfl).1
  have c1 := (box_cell (k := 0) hbx rfl).1
  have B0 := Aside0.mk b0
  obtain ⟨W, hW⟩ : ∃ W, w.alloc (.cells #[.pointer (some ⟨B, 0, none⟩)] 51) = W := ⟨_, rfl⟩
  have hne : B ≠ w.heap.size := by have := h.lt; omega
  clear h ho hC hbx b0 hx hk
  go_enter Try.func44, Try.ntmps44
  go_upto_region 1 with fail
  rw [hW] at HBIN c0 c1 B0 hv
  try rw [hW]
  clear hv hW
  go_wp2_with fail
  refine HBIN.out.mono ?_
  rintro e w1 ⟨rfl, hb1⟩
  have HB1 := Aside0.mk (B0.out.trans (hb1.mono B0.out.size))
  clear hb1 HBIN
  go_wp2_with fail
  go_ret2
  exact ⟨rfl, HB1.out⟩
end Go.Proofs.Ytmocfgghccmdgaa.TrAt

/- copy at elements of any size, rows of memory; a row that is shifted. -/
namespace Go.Proofs.Ytmocfgghccmdgaa.TrCopy
open Go Go.Proofs Go.RowKit Go.Lib Go.Proofs.Ytmocfgghccmdgaa.RowsLib Go.Proofs.Ytmocfgghccmdgaa.TrLib
set_option linter.unusedVariables false
set_option linter.unusedSimpArgs false

/-- A text's one cell. -/
def encS (x : ByteArray) : List Value := [.string x]
theorem encS_len (x : ByteArray) : (encS x).length = 1 := rfl
theorem encS_one (x : ByteArray) : ∀ u ∈ encS x, u.oneCell' = true := by
  intro u hu
  simp only [encS, List.mem_cons, List.not_mem_nil, or_false] at hu
  rw [hu]; rfl
def cellsS (l : List ByteArray) : List Value := cellsL encS l
theorem infoS : (Try.prog.info? 9).map (fun i => (i.zero, i.size, i.bytes)) = some (some (.string ⟨#[]⟩), 1, 16) := by kernel_rfl

section
variable {P : Program}
theorem run_copy_rowK (size : Nat) (w : World) (dT sT ty elem : TypeId) (g o dLen dCap : Nat) (a : Addr) (sLen sCap : Nat) (cur : Array Value) (t : TypeId) (cs : List Value) (m : Nat)
    (hu : P.underlying dT = some (.slice elem)) (hs : (P.info? elem).map (·.size) = some size)
    (hg : w.heap[g]? = some (.cells cur t (0, 0))) (hm : Nat.min sLen dLen = m) (hn : cs.length = m * size)
    (hsrc : ∀ j v, cs[j]? = some v → w.cell? (a.add j) = some v) (hfit : o + cs.length ≤ cur.size) (h1 : ∀ v ∈ cs, v.oneCell' = true) :
    (Builtin.copy_ #[dT, sT] ty #[.slice (some ⟨g, o, none⟩) dLen dCap, .slice (some a) sLen sCap]).run P w =
      .ok (goInt m) (w.setRow g (cur.toList.take o ++ cs ++ cur.toList.drop (o + cs.length)).toArray) := by
  have hl := run_loadCells_list (P := P) w a cs hsrc
  have hst := run_storeCells_at P g o t cs 0 cur w hg (by simpa using hfit) h1
  cases hq : P.info? elem with
  | none => simp [hq] at hs
  | some i =>
    have hi : i.size = size := by simpa [hq] using hs
    rw [hn] at hl
    simp [Builtin.copy_, run_underlying hu, Builtin.lenOf, Builtin.firstCells, sizeOf, typeInfo, hq, hi, hm, hl, hst]

theorem wp_copy_runI (w : World) {o : Oper} {a : Act} {K : Act → World → Prop} {Q : Exit → Act → World → Prop} (d s : Operand) (t t' : TypeId)
    (ho : o.op = .call { callee := .builtin .copy, args := #[d, s], argTypes := #[t, t'] }) (v u : Value) (hd : a.eval d = v) (hs : a.eval s = u) {v' : Value} {w' : World}
    (hr : (Builtin.copy_ #[t, t'] o.type #[v, u]).run P w = .ok v' w') (h : K (a.put o.dst v') w') : o.wp P a w K Q := by
  unfold Oper.wp execOp
  simp only [ho, resolve, invoke, builtin, Sem.run_bind, Sem.run_pure, Result.andThen_ok, List.map_toArray, List.map_cons, List.map_nil, hd, hs, hr]
  exact h
theorem wpList_copy_runI (w : World) {ops : Array Oper} {rest : List Oper} {o : Oper} {a : Act} {Q : Exit → Act → World → Prop} (hgd : o.guard = none) (d s : Operand) (t t' : TypeId)
    (ho : o.op = .call { callee := .builtin .copy, args := #[d, s], argTypes := #[t, t'] }) (v u : Value) (hd : a.eval d = v) (hs : a.eval s = u) {v' : Value} {w' : World}
    (hr : (Builtin.copy_ #[t, t'] o.type #[v, u]).run P w = .ok v' w') (h : wpList P ops Q rest (a.put o.dst v') w') : wpList P ops Q (o :: rest) a w :=
  wpList_plain hgd fun _ hK => wp_copy_runI w d s t t' ho v u hd hs hr (hK _ _ h)
theorem step_copy_runI {ops : Array Oper} {o : Oper} {a : Act} {w : World} {K : Act → World → Prop} {Q : Exit → Act → World → Prop} {E : Prop}
    (hg : o.guard = none) (d x : Operand) (dT sT : TypeId) (hop : o.op = Op.call { callee := Callee.builtin Builtin.copy, args := #[d, x], argTypes := #[dT, sT] })
    (v u : Value) (hd : a.eval d = v) (hx : a.eval x = u) {v' : Value} {w' : World} (hr : (Builtin.copy_ #[dT, sT] o.type #[v, u]).run P w = .ok v' w') (hK : K (a.put o.dst v') w') :
    if Region.wanted o (yielded ops a.tmps) = true then Oper.wp P o a w K Q else E := by
  have hw : Region.wanted o (yielded ops a.tmps) = true := by simp [Region.wanted, hg]
  rw [if_pos hw]
  unfold Oper.wp
  simp [execOp, hop, resolve, invoke, builtin, hd, hx, hr, Result.andThen]
  exact hK
end

theorem cellsL_take {α : Type} {f : α → List Value} {n : Nat} (hf : ∀ x, (f x).length = n) (l : List α) (i : Nat) : cellsL f (l.take i) = (cellsL f l).take (i * n) := by
  by_cases h : i ≤ l.length
  · have e : cellsL f l = cellsL f (l.take i) ++ cellsL f (l.drop i) := by rw [← cellsL_app, List.take_append_drop]
    have hl : (cellsL f (l.take i)).length = i * n := by rw [cellsL_len hf, List.length_take, Nat.min_eq_left h]
    rw [e, ← hl, List.take_left]
  · rw [List.take_of_length_le (by omega), List.take_of_length_le]
    rw [cellsL_len hf]
    exact Nat.mul_le_mul_right _ (by omega)
theorem cellsL_drop {α : Type} {f : α → List Value} {n : Nat} (hf : ∀ x, (f x).length = n) (l : List α) (i : Nat) : cellsL f (l.drop i) = (cellsL f l).drop (i * n) := by
  by_cases h : i ≤ l.length
  · have e : cellsL f l = cellsL f (l.take i) ++ cellsL f (l.drop i) := by rw [← cellsL_app, List.take_append_drop]
    have hl : (cellsL f (l.take i)).length = i * n := by rw [cellsL_len hf, List.length_take, Nat.min_eq_left h]
    rw [e, ← hl, List.drop_left]
  · rw [List.drop_of_length_le (by omega), List.drop_of_length_le]
    · rfl
    · rw [cellsL_len hf]
      exact Nat.mul_le_mul_right _ (by omega)
theorem fit_shift {i n cap sz : Nat} (h : i < n) (hr : n + 1 ≤ cap) : (i + 1) * sz + (n - i) * sz ≤ cap * sz := by
  rw [← Nat.add_mul]
  exact Nat.mul_le_mul_right _ (by omega)
theorem fit_one {i n cap sz : Nat} (h : i < n) (hr : n + 1 ≤ cap) : i * sz + sz ≤ cap * sz := by
  have : (i + 1) * sz ≤ cap * sz := Nat.mul_le_mul_right _ (by omega)
  rw [Nat.add_mul, Nat.one_mul] at this
  exact this
theorem shift_row {sz : Nat} (C X Bs : List Value) (i n cap : Nat) (hX : X.length = sz) (hB : Bs.length = (n - i) * sz) (hC : C.length = cap * sz) (hi : i < n) (hr : n + 1 ≤ cap) :
    ((C.take ((i + 1) * sz) ++ Bs ++ C.drop ((i + 1) * sz + Bs.length)).take (i * sz) ++ X ++ (C.take ((i + 1) * sz) ++ Bs ++ C.drop ((i + 1) * sz + Bs.length)).drop (i * sz + X.length)).take ((n + 1) * sz) = (C.take (n * sz)).take (i * sz) ++ (X ++ Bs) := by
  have e1 : (i + 1) * sz = i * sz + sz := by rw [Nat.add_mul, Nat.one_mul]
  have e2 : (n + 1) * sz = i * sz + sz + (n - i) * sz := by rw [← Nat.succ_mul, ← Nat.add_mul]; congr 1; omega
  have h3 : i * sz + sz ≤ C.length := by rw [hC, ← e1]; exact Nat.mul_le_mul_right _ (by omega)
  have h4 : i * sz ≤ n * sz := Nat.mul_le_mul_right _ (by omega)
  have hT : (C.take ((i + 1) * sz)).length = i * sz + sz := by rw [List.length_take, e1]; omega
  have a1 : (C.take ((i + 1) * sz) ++ Bs ++ C.drop ((i + 1) * sz + Bs.length)).take (i * sz) = C.take (i * sz) := by
    rw [List.append_assoc, List.take_append_of_le_length (by omega), List.take_take, Nat.min_eq_left (by omega)]
  have a2 : (C.take ((i + 1) * sz) ++ Bs ++ C.drop ((i + 1) * sz + Bs.length)).drop (i * sz + X.length) = Bs ++ C.drop ((i + 1) * sz + Bs.length) := by
    rw [List.append_assoc, hX, ← hT, List.drop_left]
  rw [a1, a2, List.take_take, Nat.min_eq_left h4, ← List.append_assoc, ← List.append_assoc, e2]
  have hlen : (C.take (i * sz) ++ X ++ Bs).length = i * sz + sz + (n - i) * sz := by
    rw [List.length_append, List.length_append, List.length_take, hX, hB]
    omega
  rw [← hlen, List.take_left]
theorem grow_row {sz : Nat} (C X Bs : List Value) (i n : Nat) (hX : X.length = sz) (hB : Bs.length = (n - i) * sz) (hC : (n + 1) * sz ≤ C.length) (hi : i < n) :
    ((C.take (i * sz) ++ X ++ C.drop (i * sz + X.length)).take ((i + 1) * sz) ++ Bs ++ (C.take (i * sz) ++ X ++ C.drop (i * sz + X.length)).drop ((i + 1) * sz + Bs.length)).take ((n + 1) * sz) = C.take (i * sz) ++ (X ++ Bs) := by
  have e1 : (i + 1) * sz = i * sz + sz := by rw [Nat.add_mul, Nat.one_mul]
  have e2 : (n + 1) * sz = i * sz + sz + (n - i) * sz := by rw [← Nat.succ_mul, ← Nat.add_mul]; congr 1; omega
  have hT : (C.take (i * sz)).length = i * sz := by rw [List.length_take]; omega
  have hTX : (C.take (i * sz) ++ X).length = (i + 1) * sz := by rw [List.length_append, hT, hX, e1]
  have a1 : (C.take (i * sz) ++ X ++ C.drop (i * sz + X.length)).take ((i + 1) * sz) = C.take (i * sz) ++ X := by rw [← hTX, List.take_left]
  have hl : (C.take (i * sz) ++ X ++ Bs).length = (n + 1) * sz := by rw [List.length_append, hTX, hB, e1, e2]
  rw [a1, ← hl, List.take_left, List.append_assoc]
end Go.Proofs.Ytmocfgghccmdgaa.TrCopy

/- slices.Insert of one element into a row of the call's own: the walk. -/
namespace Go.Proofs.Ytmocfgghccmdgaa.TrInsF
open Go Go.Proofs Go.RowKit Go.Lib Go.Proofs.YtmocfgghccmdgaaW.PrintWords Go.Proofs.Ytmocfgghccmdgaa.RowsLib Go.Proofs.Ytmocfgghccmdgaa.TrLib Go.Proofs.Ytmocfgghccmdgaa.TrCopy
set_option linter.unusedVariables false
set_option linter.unusedSimpArgs false

theorem hov (W : World) (g bx n c cap : Nat) (cur y : Array Value) (hg : W.heap[g]? = some (.cells cur 24 (0, 0))) (hx : W.heap[bx]? = some (.cells y 24 (0, 0))) (hne : bx ≠ g) (h0 : cur.size ≠ 0) (off lb cb : Nat) :
    (callFunc 85 #[.slice (some ⟨bx, 0, none⟩) 1 1, .slice (some ⟨g, off, none⟩) lb cb]).run Try.prog W = .ok (.value (.bool false)) W := by
  rw [run_callFunc_extern Try.func85 (by kernel_rfl) (by kernel_rfl) (by kernel_rfl) (e := Extern.SlicesOverlaps.overlaps #[22, 22] #[4]) (by kernel_rfl),
    Lib.run_overlaps_apart W 22 4 24 Try.underlying22 2 (fun w => by kernel_rfl) ⟨bx, 0, none⟩ ⟨g, off, none⟩ 1 1 lb cb hne 24 24 y.size cur.size (by simp [World.shape?, hx]) (by simp [World.shape?, hg]) h0 (by simp [World.frozen?, hx]) (by simp [World.frozen?, hx])]
  rfl

set_option maxHeartbeats 8000000 in
set_option maxRecDepth 100000 in
theorem Insert_calls (base : Nat) (v : Value) (l : List Fl) (i : Nat) (x : Fl) (bx : Nat) (w : World) (hb0 : base ≤ w.heap.size) (ho : w.ownsRow base 24 2 v l.length (cellsF l)) (hi : i ≤ l.length) (hl : l.length ≤ 1099511627776)
    (hx : w.heap[bx]? = some (.cells (encF x).toArray 24 (0, 0))) (hne : v.ownBlock ≠ some bx) :
    Calls Try.prog 68 #[v, .int .i64 i, .slice (some ⟨bx, 0, none⟩) 1 1] w fun e w' =>
      ∃ v', e = .returned v' ∧ w'.ownsRow base 24 2 v' (l.take i ++ x :: l.drop i).length (cellsF (l.take i ++ x :: l.drop i)) ∧ w.grownBy w' v.ownBlock := by
  obtain ⟨i0, hi0, hz0, hzs, hzb⟩ := info_parts infoF
  have hlen : (l.take i ++ x :: l.drop i).length = l.length + 1 := by simp; omega
  have hxc : ∀ j u, (encF x)[j]? = some u → w.cell? (Addr.add ⟨bx, 0, none⟩ j) = some u := fun j u hj => by
    rw [RowsLib.add_plain, Nat.zero_add]
    exact (box_cell hx (by rw [List.getElem?_toArray]; exact hj)).1
  by_cases hin : i = l.length
  · subst hin
    have hfin : l.take l.length ++ x :: l.drop l.length = l ++ [x] := by rw [List.take_length, List.drop_length]
    rw [hfin] at hlen ⊢
    have HO := Aside0.mk ho
    have HX := Aside0.mk hxc
    have HF := Aside0.mk hfin
    rcases ho.2 with ⟨rfl, h0⟩ | ⟨g, cap, cur, rfl, r⟩
    · have h0' : (l.length : Int) = 0 := by omega
      clear ho hx hxc hfin
      go_enter Try.func68, Try.ntmps68
      go_wp2_with (at_builtin; refine wpList_append_own _ rfl _ _ 22 rfl base 24 i0 (.agg #[.string ⟨#[]⟩, .string ⟨#[]⟩]) 2 32 Try.underlying22 hi0 hz0 hzs hzb rfl (by decide) _ l.length (cellsF l) rfl HO.out ⟨bx, 0, none⟩ 1 1 (encF x) rfl rfl HX.out (encF_one x) (by unfold maxLen; omega) (by omega) hb0 ?_; intro v1 w1 hown1 hgrow1 _)
      go_ret
      refine ⟨v1, rfl, ?_, hgrow1⟩
      try rw [hlen]
      unfold cellsF
      rw [cellsL_app, cellsL_one]
      exact hown1
    · clear ho hx hxc hfin r
      go_enter Try.func68, Try.ntmps68
      go_wp2_with (at_builtin; refine wpList_append_own _ rfl _ _ 22 rfl base 24 i0 (.agg #[.string ⟨#[]⟩, .string ⟨#[]⟩]) 2 32 Try.underlying22 hi0 hz0 hzs hzb rfl (by decide) _ l.length (cellsF l) rfl HO.out ⟨bx, 0, none⟩ 1 1 (encF x) rfl rfl HX.out (encF_one x) (by unfold maxLen; omega) (by omega) hb0 ?_; intro v1 w1 hown1 hgrow1 _)
      all_goals (
        go_ret
        refine ⟨v1, rfl, ?_, hgrow1⟩
        try rw [hlen]
        unfold cellsF
        rw [cellsL_app, cellsL_one]
        exact hown1)
  · obtain ⟨hnl, ⟨rfl, h0⟩ | ⟨g, cap, cur, rfl, hgb, hg, hnc, hcm, hcs, htk⟩⟩ := ho
    · omega
    have hin' : i < l.length := by omega
    have hbg : bx ≠ g := fun e => hne (by rw [e]; rfl)
    obtain ⟨n, hn⟩ : ∃ n, l.length = n := ⟨_, rfl⟩
    rw [hn] at hnl hnc htk hin hin' hi hl hlen ⊢
    have hCL := cellsL_len (n := 2) encF_len l
    have hc63 : cap ≤ 9223372036854775807 := hcm
    have hz2 : ¬ ((i : Int) = (n : Int)) := by omega
    have hw1 : IntKind.i64.wrap ((i : Int) + 1) = (i : Int) + 1 := by rw [IntKind.wrap_i64]; omega
    have hw2 : IntKind.i64.wrap ((n : Int) + 1) = (n : Int) + 1 := by rw [IntKind.wrap_i64]; omega
    have hsz : (Try.prog.info? 24).map (·.size) = some 2 := by rw [hi0]; simp [hzs]
    have hbl : bx < w.heap.size := block_lt hx
    have hgl : g < w.heap.size := block_lt hg
    have hCA : cellsF (l.take i) = (cur.toList.take (n * 2)).take (i * 2) := by rw [htk]; unfold cellsF; exact cellsL_take encF_len l i
    have hCB : cellsF (l.drop i) = (cur.toList.take (n * 2)).drop (i * 2) := by rw [htk]; unfold cellsF; exact cellsL_drop encF_len l i
    have hBl : (cellsF (l.drop i)).length = (n - i) * 2 := by unfold cellsF; rw [cellsL_len (n := 2) encF_len, List.length_drop, hn]
    have hAl : (cellsF (l.take i)).length = i * 2 := by unfold cellsF; rw [cellsL_len (n := 2) encF_len, List.length_take, hn, Nat.min_eq_left (by omega)]
    have hres : cellsF (l.take i ++ x :: l.drop i) = cellsF (l.take i) ++ (encF x ++ cellsF (l.drop i)) := by unfold cellsF; rw [cellsL_app]; unfold cellsL; rw [List.flatMap_cons]
    have h1B : ∀ u ∈ cellsF (l.drop i), u.oneCell' = true := fun u hu => by
      obtain ⟨y, _, hy⟩ := mem_cellsL hu
      exact encF_one y u hy
    have hsrcB : ∀ j u, (cellsF (l.drop i))[j]? = some u → cur[i * 2 + j]? = some u := fun j u hj => by
      rw [hCB, List.getElem?_drop] at hj
      rw [List.getElem?_take] at hj
      split at hj
      · rw [← hj, Array.getElem?_toList]
      · cases hj
    by_cases hroom : n + 1 ≤ cap
    · -- in place
      have hz3 : ¬ ((cap : Int) < (n : Int) + 1) := by omega
      obtain ⟨W1, hW1⟩ : ∃ W1, w.drew.setRow g (cur.toList.take ((i + 1) * 2) ++ cellsF (l.drop i) ++ cur.toList.drop ((i + 1) * 2 + (cellsF (l.drop i)).length)).toArray = W1 := ⟨_, rfl⟩
      obtain ⟨cur1, hcur1⟩ : ∃ cur1, (cur.toList.take ((i + 1) * 2) ++ cellsF (l.drop i) ++ cur.toList.drop ((i + 1) * 2 + (cellsF (l.drop i)).length)).toArray = cur1 := ⟨_, rfl⟩
      rw [hcur1] at hW1
      have hcl : cur.toList.length = cap * 2 := by rw [Array.length_toList, hcs]
      have hfit1 : (i + 1) * 2 + (cellsF (l.drop i)).length ≤ cur.size := by rw [hBl, hcs]; exact fit_shift hin' hroom
      have hcp1 : ∀ ty dc sc, (Builtin.copy_ #[22, 22] ty #[.slice (some ⟨g, (i + 1) * 2, none⟩) (n - i) dc, .slice (some ⟨g, i * 2, none⟩) (n + 1 - i) sc]).run Try.prog w.drew = .ok (goInt ((n - i : Nat) : Int)) W1 := fun ty dc sc => by
        have h := run_copy_rowK (P := Try.prog) 2 w.drew 22 22 ty 24 g ((i + 1) * 2) (n - i) dc ⟨g, i * 2, none⟩ (n + 1 - i) sc cur 24 (cellsF (l.drop i)) (n - i) Try.underlying22 hsz hg (by show min _ _ = _; omega) (by rw [hBl])
          (fun j u hj => by rw [RowsLib.add_plain]; exact (box_cell (w := w) hg (hsrcB j u hj)).1) hfit1 h1B
        rw [hcur1, hW1] at h
        exact h
      have hg1 : W1.heap[g]? = some (.cells cur1 24 (0, 0)) := by rw [← hW1]; exact setRow_heap w.drew g _ _ _ _ hg
      have hx1 : W1.heap[bx]? = some (.cells (encF x).toArray 24 (0, 0)) := by rw [← hW1, setRow_other _ _ _ _ hbg]; exact hx
      have hs1 : cur1.size = cap * 2 := by
        rw [← hcur1, List.size_toArray, List.length_append, List.length_append, List.length_take, List.length_drop, hcl]
        rw [hcs] at hfit1
        omega
      obtain ⟨cur2, hcur2⟩ : ∃ cur2, (cur1.toList.take (i * 2) ++ encF x ++ cur1.toList.drop (i * 2 + (encF x).length)).toArray = cur2 := ⟨_, rfl⟩
      have hfit2 : i * 2 + (encF x).length ≤ cur1.size := by rw [hs1, encF_len x]; exact fit_one hin' hroom
      have hcp2 : ∀ (W : World), W.heap = W1.heap → ∀ ty dc, (Builtin.copy_ #[22, 22] ty #[.slice (some ⟨g, i * 2, none⟩) (n + 1 - i) dc, .slice (some ⟨bx, 0, none⟩) 1 1]).run Try.prog W = .ok (goInt 1) (W.setRow g cur2) := fun W hW ty dc => by
        have h := run_copy_rowK (P := Try.prog) 2 W 22 22 ty 24 g (i * 2) (n + 1 - i) dc ⟨bx, 0, none⟩ 1 1 cur1 24 (encF x) 1 Try.underlying22 hsz (by rw [hW]; exact hg1) (by show min _ _ = _; omega) (by rw [encF_len x])
          (fun j u hj => by rw [RowsLib.add_plain, Nat.zero_add]; exact (box_cell (w := W) (by rw [hW]; exact hx1) (by rw [List.getElem?_toArray]; exact hj)).1) hfit2 (encF_one x)
        rw [hcur2] at h
        exact h
      have hov' : ∀ lb cb, (callFunc 85 #[.slice (some ⟨bx, 0, none⟩) 1 1, .slice (some ⟨g, (i + 1) * 2, none⟩) lb cb]).run Try.prog w = .ok (.value (.bool false)) w := fun lb cb => hov w g bx n 0 cap cur _ hg hx hbg (by rw [hcs]; have := hroom; omega) _ lb cb
      have hfin : cur2.toList.take ((n + 1) * 2) = cellsF (l.take i ++ x :: l.drop i) := by
        rw [← hcur2, ← hcur1, hres, hCA]
        simp only [List.toList_toArray]
        exact shift_row (sz := 2) cur.toList (encF x) (cellsF (l.drop i)) i n cap (encF_len x) hBl hcl hin' hroom
      have hs2 : cur2.size = cap * 2 := by
        rw [← hcur2, List.size_toArray, List.length_append, List.length_append, List.length_take, List.length_drop, Array.length_toList]
        omega
      have HEND : Aside0 (∀ W : World, W.heap = W1.heap → W.os = w.os → W.tape = w.tape → W.output = w.output → (W.setRow g cur2).ownsRow base 24 2 (.slice (some ⟨g, 0, none⟩) (n + 1) cap) (n + 1) (cellsF (l.take i ++ x :: l.drop i)) ∧ w.grownBy (W.setRow g cur2) (Value.slice (some ⟨g, 0, none⟩) n cap).ownBlock) := by
        refine ⟨fun W hW ho2 ht2 hu2 => ⟨⟨?_, .inr ⟨g, cap, cur2, rfl, hgb, ?_, hroom, hcm, hs2, hfin⟩⟩, ⟨ho2, ht2, hu2, ?_, fun k hk hkg => ?_⟩⟩⟩
        · unfold cellsF; rw [cellsL_len (n := 2) encF_len, hlen]
        · exact setRow_heap W g _ _ _ _ (by rw [hW]; exact hg1)
        · rw [setRow_size, hW, ← hW1, setRow_size]; exact Nat.le_refl _
        · have hk2 : k ≠ g := fun e => hkg (by rw [e]; rfl)
          rw [setRow_other _ _ _ _ hk2, hW, ← hW1, setRow_other _ _ _ _ hk2]; rfl
      have hWo : W1.os = w.os ∧ W1.tape = w.tape ∧ W1.output = w.output := by rw [← hW1]; exact ⟨rfl, rfl, rfl⟩
      have H1 := Aside0.mk hcp1
      have H2 := Aside0.mk hcp2
      have HW := Aside0.mk hWo
      clear hcp1 hcp2 hfin hs2 hs1 hfit1 hfit2 hcl hsrcB h1B hres hCA hCB hBl hAl hg1 hx1 hcur1 hcur2 hW1 hxc hx hg htk hcs hne hnl hCL hWo
      try simp only [Nat.mul_one] at H1 H2 hov'
      have hb1 : (0 : Int) ≤ (i : Int) + 1 := by omega
      have htn : ((i : Int) + 1).toNat = i + 1 := by omega
      have htn2 : ((n : Int) + 1).toNat = n + 1 := by omega
      have hb2 : ¬ (cap = i + 1) := by omega
      have hb3 : (i : Int) ≤ (n : Int) + 1 := by omega
      have hb4 : ¬ (cap = i) := by omega
      have hb5 : (n : Int) + 1 ≤ (cap : Int) := by omega
      have hb6 : (i : Int) + 1 ≤ (n : Int) + 1 := by omega
      have hb7 : (i : Int) ≤ (n : Int) := by omega
      go_enter Try.func68, Try.ntmps68
      go_wp2_with (simp only [hov'])
      go_region_law (refine step_copy_runI rfl (.tmp 73) (.tmp 76) 22 22 rfl (.slice (some ⟨g, (i + 1) * 2, none⟩) (n - i) (cap - (i + 1))) (.slice (some ⟨g, i * 2, none⟩) (n + 1 - i) (cap - i)) (by simp [Act.eval, Act.put]) (by simp [Act.eval, Act.put]) (H1.out 3 (cap - (i + 1)) (cap - i)) ?_)
      go_wp2_with (refine wpList_copy_runI _ rfl _ _ 22 22 rfl _ _ rfl rfl (H2.out _ (by first | rfl | simp) _ _) ?_)
      go_ret
      exact ⟨_, rfl, by rw [hlen]; exact (HEND.out _ rfl HW.out.1 HW.out.2.1 HW.out.2.2).1, (HEND.out _ rfl HW.out.1 HW.out.2.1 HW.out.2.2).2⟩
    · -- a new row
      have hz3 : (cap : Int) < (n : Int) + 1 := by omega
      have hkk : (n : Int) + 1 - (i : Int) = ((n + 1 - i : Nat) : Int) := by omega
      have hik : i + (n + 1 - i) = n + 1 := by omega
      obtain ⟨G, hG⟩ : ∃ G, grownCap w (n + 1) cap 24 = G := ⟨_, rfl⟩
      have hGn : n + 1 ≤ G := by rw [← hG]; exact grownCap_ge w _ _ _
      have hGm : G ≤ maxLen := by rw [← hG]; exact grownCap_le_maxLen w (n + 1) cap 24 (by unfold maxLen; omega)
      have hG63 : G ≤ 9223372036854775807 := hGm
      obtain ⟨ROW, hROW⟩ : ∃ ROW : Array Value, (cellsF (l.take i)).toArray ++ Builtin.zeroCells ((.agg #[.string ⟨#[]⟩, .string ⟨#[]⟩]) : Value).cells (n + 1 - i) ++ Builtin.zeroCells ((.agg #[.string ⟨#[]⟩, .string ⟨#[]⟩]) : Value).cells (G - (n + 1)) = ROW := ⟨_, rfl⟩
      have hold : (Builtin.firstCells i0.size i (.slice (some ⟨g, 0, none⟩) i cap)).run Try.prog w.drew = .ok (cellsF (l.take i)).toArray w.drew := by
        rw [hzs]
        exact run_firstCells_some w.drew 2 i ⟨g, 0, none⟩ i cap (cellsF (l.take i)) (by rw [hAl]) (fun j u hj => by
          rw [RowsLib.add_plain, Nat.zero_add]
          rw [hCA, List.take_take, List.getElem?_take] at hj
          split at hj
          · exact (box_cell (w := w) hg (by rw [← hj, Array.getElem?_toList])).1
          · cases hj)
      have hrz : ∀ ty, (Builtin.append_ #[22, 3] ty #[.slice (some ⟨g, 0, none⟩) i cap, .int .i64 ((n : Int) + 1 - (i : Int))]).run Try.prog w =
          .ok (.slice (some ⟨w.heap.size, 0, none⟩) (n + 1) G) (w.drew.alloc (.cells ROW 24)) := fun ty => by
        have h := Lib.run_append_grow_zeros w 22 3 ty 24 i0 _ .i64 .i64 Try.underlying22 Try.underlying3 hi0 hz0 (some ⟨g, 0, none⟩) i cap (cellsF (l.take i)) hold (n + 1 - i) (by omega) (by omega) (by omega) (by omega) (by rw [hzb]; omega) (by rw [hzb, hik]; exact growslice_fits (by omega) (by omega))
        rw [hik] at h
        rw [hkk, ← hROW, ← hG]
        exact h
      have hzl : ((.agg #[.string ⟨#[]⟩, .string ⟨#[]⟩]) : Value).cells.size = 2 := rfl
      have hRs : ROW.size = G * 2 := by
        rw [← hROW, Array.size_append, Array.size_append, List.size_toArray, hAl]
        unfold Builtin.zeroCells
        rw [Array.size_map, Array.size_map, Array.size_range, Array.size_range, hzl, ← Nat.add_mul, ← Nat.add_mul]
        congr 1
        omega
      have hRA : ROW.toList.take (i * 2) = cellsF (l.take i) := by
        rw [← hROW, Array.toList_append, Array.toList_append, List.append_assoc]
        rw [List.take_append_of_le_length (by rw [List.toList_toArray, hAl]; exact Nat.le_refl _), List.toList_toArray, ← hAl, List.take_length]
      obtain ⟨W1, hW1⟩ : ∃ W1, w.drew.alloc (.cells ROW 24) = W1 := ⟨_, rfl⟩
      rw [hW1] at hrz
      have hN1 : W1.heap[w.heap.size]? = some (.cells ROW 24 (0, 0)) := by rw [← hW1]; exact heap_alloc_new w.drew _
      have hold1 : ∀ k, k < w.heap.size → W1.heap[k]? = w.heap[k]? := fun k hk => by rw [← hW1]; exact Below.heap_alloc w.drew _ k hk
      obtain ⟨cur1, hcur1⟩ : ∃ cur1, (ROW.toList.take (i * 2) ++ encF x ++ ROW.toList.drop (i * 2 + (encF x).length)).toArray = cur1 := ⟨_, rfl⟩
      have hfit1 : i * 2 + (encF x).length ≤ ROW.size := by rw [hRs, encF_len x]; exact fit_one hin' hGn
      have hcpA : ∀ (W : World), W.heap = W1.heap → ∀ ty dc, (Builtin.copy_ #[22, 22] ty #[.slice (some ⟨w.heap.size, i * 2, none⟩) (n + 1 - i) dc, .slice (some ⟨bx, 0, none⟩) 1 1]).run Try.prog W = .ok (goInt 1) (W.setRow w.heap.size cur1) := fun W hW ty dc => by
        have h := run_copy_rowK (P := Try.prog) 2 W 22 22 ty 24 w.heap.size (i * 2) (n + 1 - i) dc ⟨bx, 0, none⟩ 1 1 ROW 24 (encF x) 1 Try.underlying22 hsz (by rw [hW]; exact hN1) (by show min _ _ = _; omega) (by rw [encF_len x])
          (fun j u hj => by rw [RowsLib.add_plain, Nat.zero_add]; exact (box_cell (w := W) (by rw [hW, hold1 bx hbl]; exact hx) (by rw [List.getElem?_toArray]; exact hj)).1) hfit1 (encF_one x)
        rw [hcur1] at h
        exact h
      have hs1 : cur1.size = G * 2 := by
        rw [← hcur1, List.size_toArray, List.length_append, List.length_append, List.length_take, List.length_drop, Array.length_toList]
        omega
      obtain ⟨cur2, hcur2⟩ : ∃ cur2, (cur1.toList.take ((i + 1) * 2) ++ cellsF (l.drop i) ++ cur1.toList.drop ((i + 1) * 2 + (cellsF (l.drop i)).length)).toArray = cur2 := ⟨_, rfl⟩
      have hfit2 : (i + 1) * 2 + (cellsF (l.drop i)).length ≤ cur1.size := by rw [hBl, hs1]; exact fit_shift hin' hGn
      have hcpB : ∀ (W : World), W.heap = (W1.setRow w.heap.size cur1).heap → ∀ ty dc sc, (Builtin.copy_ #[22, 22] ty #[.slice (some ⟨w.heap.size, (i + 1) * 2, none⟩) (n - i) dc, .slice (some ⟨g, i * 2, none⟩) (n - i) sc]).run Try.prog W = .ok (goInt ((n - i : Nat) : Int)) (W.setRow w.heap.size cur2) := fun W hW ty dc sc => by
        have h := run_copy_rowK (P := Try.prog) 2 W 22 22 ty 24 w.heap.size ((i + 1) * 2) (n - i) dc ⟨g, i * 2, none⟩ (n - i) sc cur1 24 (cellsF (l.drop i)) (n - i) Try.underlying22 hsz (by rw [hW]; exact setRow_heap W1 _ _ _ _ _ hN1) (by show min _ _ = _; omega) (by rw [hBl])
          (fun j u hj => by rw [RowsLib.add_plain]; exact (box_cell (w := W) (by rw [hW, setRow_other _ _ _ _ (by omega), hold1 g hgl]; exact hg) (hsrcB j u hj)).1) hfit2 h1B
        rw [hcur2] at h
        exact h
      have hfin : cur2.toList.take ((n + 1) * 2) = cellsF (l.take i ++ x :: l.drop i) := by
        rw [← hcur2, ← hcur1, hres, ← hRA]
        simp only [List.toList_toArray]
        exact grow_row (sz := 2) ROW.toList (encF x) (cellsF (l.drop i)) i n (encF_len x) hBl (by rw [Array.length_toList, hRs]; exact Nat.mul_le_mul_right _ hGn) hin'
      have hs2 : cur2.size = G * 2 := by
        rw [← hcur2, List.size_toArray, List.length_append, List.length_append, List.length_take, List.length_drop, Array.length_toList]
        omega
      have HEND : Aside0 (∀ W : World, W.heap = (W1.setRow w.heap.size cur1).heap → W.os = w.os → W.tape = w.tape → W.output = w.output → (W.setRow w.heap.size cur2).ownsRow base 24 2 (.slice (some ⟨w.heap.size, 0, none⟩) (n + 1) G) (n + 1) (cellsF (l.take i ++ x :: l.drop i)) ∧ w.grownBy (W.setRow w.heap.size cur2) (Value.slice (some ⟨g, 0, none⟩) n cap).ownBlock) := by
        have hw1s : W1.heap.size = w.heap.size + 1 := by rw [← hW1]; simp
        refine ⟨fun W hW ho2 ht2 hu2 => ⟨⟨?_, .inr ⟨w.heap.size, G, cur2, rfl, hb0, ?_, hGn, hGm, hs2, hfin⟩⟩, ⟨ho2, ht2, hu2, ?_, fun k hk hkg => ?_⟩⟩⟩
        · unfold cellsF; rw [cellsL_len (n := 2) encF_len, hlen]
        · exact setRow_heap W _ _ _ _ _ (by rw [hW]; exact setRow_heap W1 _ _ _ _ _ hN1)
        · rw [setRow_size, hW, setRow_size, hw1s]; exact Nat.le_succ _
        · rw [setRow_other _ _ _ _ (by omega), hW, setRow_other _ _ _ _ (by omega), hold1 k hk]
      have hWo : W1.os = w.os ∧ W1.tape = w.tape ∧ W1.output = w.output := by rw [← hW1]; exact ⟨rfl, rfl, rfl⟩
      have HZ := Aside0.mk hrz
      have H1 := Aside0.mk hcpA
      have H2 := Aside0.mk hcpB
      have HW := Aside0.mk hWo
      have hgne : g ≠ w.heap.size := by omega
      try simp only [Nat.mul_one] at H1 H2
      clear hcpA hcpB hrz hfin hs2 hs1 hfit1 hfit2 hsrcB h1B hres hCA hCB hBl hAl hN1 hold1 hcur1 hcur2 hxc hx hg htk hcs hne hnl hCL hWo hold hROW hRs hRA hG hkk hik hzl
      have hb1 : (0 : Int) ≤ (i : Int) + 1 := by omega
      have htn : ((i : Int) + 1).toNat = i + 1 := by omega
      have htn2 : ((n : Int) + 1).toNat = n + 1 := by omega
      have hGi : ¬ (G = i) := by omega
      have hGim : ¬ (G = i + 1) := by omega
      have hci : ¬ (cap = i) := by omega
      have hb3 : (i : Int) ≤ (n : Int) := by omega
      have hb4 : (i : Int) ≤ (n : Int) + 1 := by omega
      have hb6 : (i : Int) + 1 ≤ (n : Int) + 1 := by omega
      go_enter Try.func68, Try.ntmps68
      go_upto_region 10 with (at_builtin; refine Lib.wpList_append_run _ rfl _ _ _ _ rfl _ _ rfl rfl _ _ (HZ.out _) ?_)
      go_wp2_with (refine wpList_copy_runI _ rfl _ _ 22 22 rfl _ _ rfl rfl (H1.out _ (by first | rfl | simp) _ _) ?_)
      go_region_law (refine step_copy_runI rfl (.tmp 50) (.tmp 53) 22 22 rfl (.slice (some ⟨w.heap.size, (i + 1) * 2, none⟩) (n - i) (G - (i + 1))) (.slice (some ⟨g, i * 2, none⟩) (n - i) (cap - i)) (by simp [Act.eval, Act.put]) (by simp [Act.eval, Act.put]) (H2.out (World.drew _) (by first | rfl | simp) 3 (G - (i + 1)) (cap - i)) ?_)
      go_wp2_with fail
      go_ret
      have HE := HEND.out ((W1.setRow w.heap.size cur1).drew) rfl HW.out.1 HW.out.2.1 HW.out.2.2
      exact ⟨_, rfl, by rw [hlen]; exact HE.1, HE.2⟩
end Go.Proofs.Ytmocfgghccmdgaa.TrInsF

/- slices.Delete of one file of a row of the call's own: the walk. -/
namespace Go.Proofs.Ytmocfgghccmdgaa.TrDel
open Go Go.Proofs Go.RowKit Go.Lib Go.Proofs.YtmocfgghccmdgaaW.PrintWords Go.Proofs.Ytmocfgghccmdgaa.RowsLib Go.Proofs.Ytmocfgghccmdgaa.TrLib Go.Proofs.Ytmocfgghccmdgaa.TrCopy
set_option linter.unusedVariables false
set_option linter.unusedSimpArgs false

theorem setCells_row {w : World} {g o : Nat} {cur : Array Value} {t : TypeId} {cs : List Value} (hg : w.heap[g]? = some (.cells cur t (0, 0))) (hfit : o + cs.length ≤ cur.size) (h1 : ∀ u ∈ cs, u.oneCell' = true) :
    w.setCells g o cs = w.setRow g (cur.toList.take o ++ cs ++ cur.toList.drop (o + cs.length)).toArray := by
  have a := run_storeCells_at Try.prog g o t cs 0 cur w hg (by simpa using hfit) h1
  have b := run_storeCells_cells (P := Try.prog) g o cs 0 w (fun j hj => by
      have : o + 0 + j < cur.size := by omega
      rw [(box_cell hg (Array.getElem?_eq_getElem this)).1]; rfl) (fun j hj => by
      have : o + 0 + j < cur.size := by omega
      exact (box_cell hg (Array.getElem?_eq_getElem this)).2) h1
  rw [a] at b
  injection b with _ b
  rw [Nat.add_zero] at b
  exact b.symm

end Go.Proofs.Ytmocfgghccmdgaa.TrDel


/- tree.files, sorted's put and drop, over files: the walk. -/
namespace Go.Proofs.Ytmocfgghccmdgaa.TrPut
open Go Go.Proofs Go.RowKit Go.Proofs.YtmocfgghccmdgaaW.PrintWords Go.Proofs.Ytmocfgghccmdgaa.RowsLib Go.Proofs.Ytmocfgghccmdgaa.TrLib Go.Proofs.Ytmocfgghccmdgaa.PathBase Go.Proofs.Ytmocfgghccmdgaa.TrAt Go.Proofs.Ytmocfgghccmdgaa.TrCopy
set_option linter.unusedVariables false
set_option linter.unusedSimpArgs false

set_option maxRecDepth 100000 in
set_option maxHeartbeats 2000000 in
/-- slices.Clone. -/
theorem Clone_calls (A : Option Addr) (c : Nat) (l : List Fl) (w : World) (hr : Kd.C kF w A l.length l) (hl : l.length ≤ 1099511627776) :
    Calls Try.prog 62 #[.slice A l.length c] w
      fun e w' => ∃ v, e = .returned v ∧ w'.ownsRow w.heap.size 24 2 v l.length (cellsF l) ∧ Below w.heap.size w w' := by
  obtain ⟨i0, hi, hz0, hz1, hz2⟩ := info_parts infoF
  cases A with
  | none =>
    have h0 : l = [] := by
      rcases Nat.eq_zero_or_pos l.length with h | h
      · exact List.length_eq_zero_iff.1 h
      · obtain ⟨ad, cs, e, _⟩ := Kd.C_get hr l[0] 0 (by omega) (by omega)
        cases e
    subst h0
    have he : ∀ W : World, (binOp .eql 22 (.slice none 0 c) (.slice none 0 0)).run Try.prog W = .ok (.bool true) W := fun _ => rfl
    go_enter Try.func62, Try.ntmps62
    go_wp2
    go_ret
    exact ⟨_, rfl, ⟨rfl, .inl ⟨rfl, rfl⟩⟩, Below.refl _ _⟩
  | some ad =>
    have hC := Aside0.mk (C_cells (f := encF) (n := 2) encF_len rfl (fun h => kF_open h) hr)
    clear hr
    have he : ∀ W : World, (binOp .eql 22 (.slice (some ad) l.length c) (.slice none 0 0)).run Try.prog W = .ok (.bool false) W := fun _ => rfl
    go_enter Try.func62, Try.ntmps62
    go_wp2_with (at_builtin; refine wpList_append_own _ rfl _ _ 22 rfl w.heap.size 24 i0 (.agg #[.string ⟨#[]⟩, .string ⟨#[]⟩]) 2 32 Try.underlying22 hi hz0 hz1 hz2 rfl (by decide) _ 0 [] rfl ?c0 ad l.length c (cellsF l) rfl (cellsF_len l) ?c1 (cellsF_one l) ?c3 ?c4 ?c5 ?_)
    case c0 => exact ⟨rfl, .inr ⟨w.heap.size, 0, #[], rfl, Nat.le_refl _, by show (w.heap.push _)[w.heap.size]? = _; simp, Nat.le_refl _, by unfold maxLen; omega, rfl, rfl⟩⟩
    case c1 =>
      intro j u hu
      have h1 := hC.out j u hu
      exact ((Below.refl w.heap.size w).alloc (Nat.le_refl _) _).cell (World.block_lt_of_cell? w _ h1) |>.trans h1
    case c3 => unfold maxLen; omega
    case c4 => omega
    case c5 => simp
    intro v1 w1 hown1 hgrow1 _
    have hb1 : Below w.heap.size w w1 := ((Below.refl w.heap.size w).alloc (Nat.le_refl _) _).grown hgrow1 (by simp) (fun k hk => by cases hk; exact Nat.le_refl _)
    clear hC
    go_wp2_with fail
    go_ret
    exact ⟨v1, rfl, hown1, hb1⟩

set_option maxRecDepth 100000 in
set_option maxHeartbeats 2000000 in
/-- files of a tree, in new memory. -/
theorem files_calls (A : Option Addr) (c : Nat) (l : List Fl) (w : World) (hr : Kd.C kF w A l.length l) (hl : l.length ≤ 1099511627776) :
    Calls Try.prog 39 #[.slice A l.length c] w
      fun e w' => ∃ B, e = .returned (.pointer (some ⟨B, 0, none⟩)) ∧ Sf w' w.heap.size B l ∧ Below w.heap.size w w' := by
  have HC := Aside0.mk (Clone_calls A c l w hr hl)
  clear hr
  go_enter Try.func39, Try.ntmps39
  go_wp2_with fail
  refine HC.out.mono ?_
  rintro e w1 ⟨v1, rfl, ho1, hb1⟩
  obtain ⟨A1, k1, rfl, -, -⟩ := own_C ho1
  have HO := Aside0.mk ho1
  have HB := Aside0.mk hb1
  clear ho1 hb1 HC
  go_wp2_with fail
  go_ret
  have hb2 : Below w1.heap.size w1 (w1.alloc (Obj.cells #[.slice A1 l.length k1, .func (.func 66) #[] #[], .func (.func 47) #[] #[]] 58)) := (Below.refl _ w1).alloc (Nat.le_refl _) _
  exact ⟨_, rfl, ⟨_, heap_alloc_new w1 _, own_later HO.out hb2, HB.out.size⟩, HB.out.trans (hb2.mono HB.out.size)⟩

/-- The object's row is none of its own block. -/
theorem own_apart {w : World} {base B : Nat} {v : Value} {l : List Fl} {cs : Array Value} (h : w.heap[B]? = some (.cells cs 58 (0, 0))) (ho : w.ownsRow base 24 2 v l.length (cellsF l)) : v.ownBlock ≠ some B := by
  intro e
  obtain ⟨cells, hc⟩ := own_typed ho B e
  rw [h] at hc
  injection hc with hc
  injection hc with _ hc
  exact absurd hc (by decide)

/-- What put leaves. -/
def putF (l : List Fl) (x : Fl) : List Fl := if (atF l x.1).2 = true then l.set (atF l x.1).1 x else l.take (atF l x.1).1 ++ x :: l.drop (atF l x.1).1

theorem cellsF_set (x : Fl) : ∀ (l : List Fl) (i : Nat), i < l.length → ((cellsF l).set (i * 2) (.string x.1)).set (i * 2 + 1) (.string x.2) = cellsF (l.set i x)
  | [], i, h => absurd h (Nat.not_lt_zero _)
  | y :: r, 0, h => by rw [List.set_cons_zero, cellsF_cons, cellsF_cons]; rfl
  | y :: r, i + 1, h => by
    have ih := cellsF_set x r i (by simpa using h)
    rw [List.set_cons_succ, cellsF_cons, cellsF_cons, ← ih, show (i + 1) * 2 = i * 2 + 1 + 1 from by omega]
    rfl
theorem set_own {W : World} {base g cap i : Nat} {cur : Array Value} {l : List Fl} (x : Fl) (hgb : base ≤ g) (hg : W.heap[g]? = some (.cells cur 24 (0, 0))) (hnc : l.length ≤ cap) (hcm : cap ≤ maxLen) (hcs : cur.size = cap * 2) (htk : cur.toList.take (l.length * 2) = cellsF l) (hi : i < l.length) :
    ((W.setCell ⟨g, i * 2, none⟩ (.string x.1)).setCell ⟨g, i * 2 + 1, none⟩ (.string x.2)).ownsRow base 24 2 (.slice (some ⟨g, 0, none⟩) l.length cap) (l.set i x).length (cellsF (l.set i x)) := by
  refine ⟨cellsF_len _, .inr ⟨g, cap, (cur.setIfInBounds (i * 2) (.string x.1)).setIfInBounds (i * 2 + 1) (.string x.2), by rw [List.length_set], hgb, ?_, by rw [List.length_set]; exact hnc, hcm, ?_, ?_⟩⟩
  · exact set_heap _ g _ _ _ _ (set_heap W g _ _ _ _ hg)
  · rw [Array.size_setIfInBounds, Array.size_setIfInBounds, hcs]
  · rw [Array.toList_setIfInBounds, Array.toList_setIfInBounds, List.length_set, List.take_set, List.take_set, htk, cellsF_set x l i hi]

theorem S_put {W w' : World} {B n : Nat} {x : Fl} (c1 : W.cell? ⟨B, 1, none⟩ = some (.func (.func 66) #[] #[])) (l1 : B < W.heap.size)
    (c3 : W.cell? ⟨n, 0, none⟩ = some (.string x.1)) (c4 : W.cell? ⟨n, 1, none⟩ = some (.string x.2)) (l2 : n < W.heap.size) (hb : Below W.heap.size W w') :
    w'.cell? ⟨B, 1, none⟩ = some (.func (.func 66) #[] #[]) ∧ w'.cell? ⟨n, 0, none⟩ = some (.string x.1) ∧ w'.cell? ⟨n, 1, none⟩ = some (.string x.2) ∧ Below W.heap.size W w' :=
  ⟨(hb.cell (p := ⟨B, 1, none⟩) l1).trans c1, (hb.cell (p := ⟨n, 0, none⟩) l2).trans c3, (hb.cell (p := ⟨n, 1, none⟩) l2).trans c4, hb⟩

set_option maxRecDepth 100000 in
set_option maxHeartbeats 8000000 in
theorem put_calls (base B : Nat) (l : List Fl) (x : Fl) (hx : ∀ y ∈ l, y.1.size ≤ 1099511627776) (hk : x.1.size ≤ 1099511627776) (hl : l.length ≤ 1099511627775) (w : World) (h : Sf w base B l) :
    Calls Try.prog 41 #[.pointer (some ⟨B, 0, none⟩), .agg #[.string x.1, .string x.2]] w
      fun e w' => e = .returned (.tuple #[]) ∧ Sf w' base B (putF l x) ∧ Below base w w' := by
  have hlt := h.lt
  have hbase : base ≤ w.heap.size := by obtain ⟨v, _, _, h3⟩ := h; omega
  go_enter Try.func41, Try.ntmps41
  go_upto_region 1 with fail
  obtain ⟨W, hW⟩ : ∃ W, w.alloc (Obj.cells #[Value.string x.1, Value.string x.2] 24) = W := ⟨_, rfl⟩
  have b0 : Below w.heap.size w W := by rw [← hW]; exact (Below.refl _ w).alloc (Nat.le_refl _) _
  have hs : W.heap.size = w.heap.size + 1 := by rw [← hW]; simp
  have hxb : W.heap[w.heap.size]? = some (.cells (encF x).toArray 24 (0, 0)) := by rw [← hW]; exact heap_alloc_new w _
  rw [hW]
  have hS := h.later b0
  obtain ⟨v, hv, ho, hBb⟩ := hS
  have hS := h.later b0
  have c1 := (box_cell (k := 1) hv rfl).1
  have c3 := (box_cell (k := 0) hxb rfl).1
  have c4 := (box_cell (k := 1) hxb rfl).1
  have l1 := block_lt hv
  have l2 : w.heap.size < W.heap.size := by omega
  have hB : Below W.heap.size W W := Below.refl _ _
  have hBd : Below W.heap.size W W.drew := hB.drew
  have HKEY : Aside0 (∀ W' : World, Below W.heap.size W W' → Calls Try.prog 66 #[.agg #[.string x.1, .string x.2]] W' fun e w' => e = .returned (.string x.1) ∧ Below W.heap.size W w') :=
    ⟨fun W' hb => (key_calls x W').mono fun e w' ⟨h1, h2⟩ => ⟨h1, hb.trans (h2.mono hb.size)⟩⟩
  have HAT : Aside0 (∀ W' : World, Below W.heap.size W W' → Calls Try.prog 44 #[.pointer (some ⟨B, 0, none⟩), .string x.1] W' fun e w' => e = .returned (.tuple #[.int .i64 (atF l x.1).1, .bool (atF l x.1).2]) ∧ Below W.heap.size W w') :=
    ⟨fun W' hb => (at_calls base B l x.1 hx hk (by omega) W' (hS.later hb)).mono fun e w' ⟨h1, h2⟩ => ⟨h1, hb.trans (h2.mono hb.size)⟩⟩
  have B0 := Aside0.mk b0
  have HS := Aside0.mk hS
  have HX := Aside0.mk hxb
  have HPF : Aside0 (putF l x = if (atF l x.1).2 = true then l.set (atF l x.1).1 x else l.take (atF l x.1).1 ++ x :: l.drop (atF l x.1).1) := ⟨rfl⟩
  have hile : (atF l x.1).1 ≤ l.length := atI_le l x.1
  have hilt : (atF l x.1).2 = true → (atF l x.1).1 < l.length := fun h2 => by
    have : (decide (atI l x.1 < l.length) && decide (cmpP (l.getD (atI l x.1) (⟨#[]⟩, ⟨#[]⟩)).1 x.1 = 0)) = true := h2
    rw [Bool.and_eq_true] at this
    exact of_decide_eq_true this.1
  obtain ⟨r, hrr⟩ : ∃ r, atF l x.1 = r := ⟨_, rfl⟩
  rw [hrr] at HAT HPF hile hilt
  obtain ⟨i, is⟩ := r
  simp only at HAT HPF hile hilt
  clear h hS hv ho hW b0 hx hxb hrr
  go_region_held3 (fun w' => w'.cell? ⟨B, 1, none⟩ = some (.func (.func 66) #[] #[]) ∧ w'.cell? ⟨w.heap.size, 0, none⟩ = some (.string x.1) ∧ w'.cell? ⟨w.heap.size, 1, none⟩ = some (.string x.2) ∧ Below W.heap.size W w')
    (first
      | exact S_put c1 l1 c3 c4 l2 hB
      | exact S_put c1 l1 c3 c4 l2 hBd
      | exact S_put c1 l1 c3 c4 l2 hbb
      | exact S_put c1 l1 c3 c4 l2 (by go_split_ands; assumption)
      | (go_split_ands; exact S_put c1 l1 c3 c4 l2 (by assumption))
      | go_keep)
    (first
      | (go_at_call 66; refine (HKEY.out _ (by first | exact hBd | (go_split_ands; assumption))).mono ?_; rintro e w' ⟨rfl, hbb⟩)
      | (go_at_call 44; refine (HAT.out _ (by first | exact hBd | (go_split_ands; assumption))).mono ?_; rintro e w' ⟨rfl, hbb⟩))
  have hS' := HS.out.later hbb
  have HB1 := Aside0.mk (B0.out.trans (hbb.mono B0.out.size))
  have hx' := block_later HX.out hbb
  have hlt' := hS'.lt
  have c3' := (box_cell (k := 0) hx' rfl).1
  have c4' := (box_cell (k := 1) hx' rfl).1
  obtain ⟨v', hv', ho', hBb'⟩ := hS'
  have c0' := (box_cell (k := 0) hv' rfl).1
  have z0' := (box_cell (k := 0) hv' rfl).2
  have hap := own_apart hv' ho'
  have hsz' : w.heap.size < w'.heap.size := by have := hbb.size; omega
  clear HKEY HAT HS HX B0 c1 c3 c4 l1 l2 hB hBd hbb
  cases is with
  | true =>
    have hi := hilt rfl
    have HP := Aside0.mk (HPF.out.trans (if_pos rfl))
    obtain ⟨hnl, ⟨rfl, h0⟩ | ⟨g, cap, cur, rfl, hgb, hg, hnc, hcm, hcs, htk⟩⟩ := ho'
    · omega
    have hc1 := box_cell (k := i * 2) hg (Array.getElem?_eq_getElem (by omega))
    have hc2 := box_cell (k := i * 2 + 1) hg (Array.getElem?_eq_getElem (by omega))
    have hgB : g ≠ B := fun e => hap (by rw [e]; rfl)
    have HG := Aside0.mk hg
    have hin : (i : Int) < (l.length : Int) := by omega
    clear hilt HPF hap
    go_wp2_with fail
    go_region
    go_wp2_with fail
    have hown := set_own x hgb HG.out hnc hcm hcs htk hi
    have hBs : ((w'.setCell ⟨g, i * 2, none⟩ (.string x.1)).setCell ⟨g, i * 2 + 1, none⟩ (.string x.2)).heap[B]? = some (.cells #[.slice (some ⟨g, 0, none⟩) l.length cap, .func (.func 66) #[] #[], .func (.func 47) #[] #[]] 58 (0, 0)) := by
      rw [Below.heap_setCell _ ⟨g, i * 2 + 1, none⟩ _ B (by exact fun e => hgB e.symm), Below.heap_setCell _ ⟨g, i * 2, none⟩ _ B (by exact fun e => hgB e.symm)]
      exact hv'
    have hbel : Below base w ((w'.setCell ⟨g, i * 2, none⟩ (.string x.1)).setCell ⟨g, i * 2 + 1, none⟩ (.string x.2)) := ((HB1.out.mono hbase).setCell (p := ⟨g, i * 2, none⟩) hgb _).setCell (p := ⟨g, i * 2 + 1, none⟩) hgb _
    clear hv' c0' z0' hg htk hcs c3' c4' hx' hc1 hc2
    refine bodyPost_ret (results_none rfl _ _ _) rfl ?_
    rw [HP.out]
    exact ⟨rfl, ⟨_, hBs, hown, hBb'⟩, hbel.drew⟩
  | false =>
    have HP := Aside0.mk (HPF.out.trans (if_neg (by decide)))
    have hnb : v'.ownBlock ≠ some w'.heap.size := fun e => by have := (ho'.lt _ e).2; omega
    have HINS := Aside0.mk (TrInsF.Insert_calls base v' l i x w'.heap.size (w'.drew.alloc (.cells #[.string x.1, .string x.2] 24)) (by simp; have := HB1.out.size; omega) (own_later ho' ((Below.refl w'.heap.size w').drew.alloc (Nat.le_refl _) _)) hile (by omega) (heap_alloc_new w'.drew _) hnb)
    have HV := Aside0.mk hv'
    have HO := Aside0.mk ho'
    have hgB : v'.ownBlock ≠ some B := hap
    clear hilt HPF hap ho' hv' hnb
    go_wp2_with fail
    go_region_with (first
      | (go_at_call 68; refine HINS.out.mono ?_; rintro e w2 ⟨v2, rfl, ho2, hg2⟩
         obtain ⟨A2, c2, rfl, -, -⟩ := own_C ho2
         have hv2 : w2.heap[B]? = some (.cells #[v', .func (.func 66) #[] #[], .func (.func 47) #[] #[]] 58 (0, 0)) := by
           rw [hg2.block B (by simp; omega) (fun e => hgB e.symm)]
           exact (Below.heap_alloc w'.drew _ B hlt').trans HV.out
         have k0 := (box_cell (k := 0) hv2 rfl).1
         have z0 := (box_cell (k := 0) hv2 rfl).2
         have HV2 := Aside0.mk hv2
         have HO2 := Aside0.mk ho2
         have HG2 := Aside0.mk hg2
         clear hv2 ho2 hg2))
    all_goals (
      have hle : (l.take i ++ x :: l.drop i).length = i + (l.length - i + 1) := by
        rw [List.length_append, List.length_take, List.length_cons, List.length_drop]
        omega
      have hap2 := own_apart HV2.out HO2.out
      have ho3 := own_move (w1 := w2.setCell ⟨B, 0, none⟩ (.slice A2 (l.take i ++ x :: l.drop i).length c2)) HO2.out (fun k hk => Below.heap_setCell w2 ⟨B, 0, none⟩ _ k (by intro e; exact hap2 (hk.trans (congrArg some e))))
      have hb3 := set_heap w2 B 0 _ _ (.slice A2 (l.take i ++ x :: l.drop i).length c2) HV2.out
      have hbel : Below base w (w2.setCell ⟨B, 0, none⟩ (.slice A2 (l.take i ++ x :: l.drop i).length c2)) := (((HB1.out.mono hbase).drew.alloc (by simp; have := HB1.out.size; omega) _).grown HG2.out (by simp; have := HB1.out.size; omega) (fun k hk => own_ge HO.out k hk)).setCell (p := ⟨B, 0, none⟩) hBb' _
      rw [← hle]
      clear c0' z0' c3' c4' hx' k0 z0
      refine bodyPost_end (results_none rfl _ _ _) rfl ?_
      rw [HP.out]
      exact ⟨rfl, ⟨_, hb3, ho3, hBb'⟩, hbel⟩)

end Go.Proofs.Ytmocfgghccmdgaa.TrPut


/- tree.fits, Put, Drop: the walk. -/
namespace Go.Proofs.Ytmocfgghccmdgaa.TrFits
open Go Go.Proofs Go.RowKit Go.Proofs.YtmocfgghccmdgaaW.PrintWords Go.Proofs.Ytmocfgghccmdgaa.RowsLib Go.Proofs.Ytmocfgghccmdgaa.TrLib Go.Proofs.Ytmocfgghccmdgaa.PathBase Go.Proofs.Ytmocfgghccmdgaa.TrAt Go.Proofs.Ytmocfgghccmdgaa.TrCopy Go.Proofs.Ytmocfgghccmdgaa.TrPut
set_option linter.unusedVariables false
set_option linter.unusedSimpArgs false

/-! ### fits -/
def upF (l : List Fl) : Nat → ByteArray → Bool
  | 0, d => decide (d.toList = [])
  | n + 1, d => if d.toList = [] then true else if (atF l d).2 = true then false else upF l n (splitF d).1
def fitsF (l : List Fl) (p : ByteArray) : Bool :=
  if (if (atF l p).2 = true then (atF l p).1 + 1 else (atF l p).1) < l.length ∧ insideF (l.getD (if (atF l p).2 = true then (atF l p).1 + 1 else (atF l p).1) (⟨#[]⟩, ⟨#[]⟩)).1 p = true then false else upF l p.size (splitF p).1
theorem upF_more (l : List Fl) : ∀ (n m : Nat) (d : ByteArray), d.size ≤ n → d.size ≤ m → upF l n d = upF l m d
  | 0, 0, d, _, _ => rfl
  | 0, m + 1, d, h1, h2 => by
    have : d.toList = [] := by
      rw [BytesLib.toList_L]
      exact List.length_eq_zero_iff.1 (by rw [BytesLib.L_length]; omega)
    rw [upF, upF, if_pos this, this]; rfl
  | n + 1, 0, d, h1, h2 => by
    have : d.toList = [] := by
      rw [BytesLib.toList_L]
      exact List.length_eq_zero_iff.1 (by rw [BytesLib.L_length]; omega)
    rw [upF, upF, if_pos this, this]; rfl
  | n + 1, m + 1, d, h1, h2 => by
    rw [upF, upF]
    by_cases h : d.toList = []
    · rw [if_pos h, if_pos h]
    · rw [if_neg h, if_neg h]
      split
      · rfl
      · rcases split_lt d with g | g
        · exact upF_more l n m _ (by omega) (by omega)
        · have hs : (splitF d).1.size = 0 := by rw [← BytesLib.L_length, ← BytesLib.toList_L, g]; rfl
          exact upF_more l n m _ (by omega) (by omega)

theorem split_le (d : ByteArray) : (splitF d).1.size ≤ d.size := by
  rcases split_lt d with g | g
  · omega
  · have hs : (splitF d).1.size = 0 := by rw [← BytesLib.L_length, ← BytesLib.toList_L, g]; rfl
    omega
theorem upF_end {l : List Fl} {d : ByteArray} (h : d.toList = []) : upF l d.size d = true := by
  have hs : d.size = 0 := by rw [← BytesLib.L_length, ← BytesLib.toList_L, h]; rfl
  rw [hs, upF, h]; rfl
theorem upF_step {l : List Fl} {d : ByteArray} (h : ¬ d.toList = []) : upF l d.size d = if (atF l d).2 = true then false else upF l (splitF d).1.size (splitF d).1 := by
  have hp : 0 < d.size := by
    rcases Nat.eq_zero_or_pos d.size with h0 | h0
    · exact absurd (by rw [BytesLib.toList_L]; exact List.length_eq_zero_iff.1 (by rw [BytesLib.L_length]; exact h0)) h
    · exact h0
  obtain ⟨m, hm⟩ : ∃ m, d.size = m + 1 := ⟨d.size - 1, by omega⟩
  rw [hm, upF, if_neg h]
  split
  · rfl
  · have hs : (splitF d).1.size ≤ m := by
      rcases split_lt d with g | g
      · omega
      · have hs : (splitF d).1.size = 0 := by rw [← BytesLib.L_length, ← BytesLib.toList_L, g]; rfl
        omega
    exact upF_more l m _ _ hs (Nat.le_refl _)
set_option maxRecDepth 100000 in
set_option maxHeartbeats 8000000 in
theorem fits_calls (base B : Nat) (l : List Fl) (p : ByteArray) (hx : ∀ y ∈ l, y.1.size ≤ 1099511627776) (hk : p.size ≤ 1099511627776) (hl : l.length ≤ 1099511627775) (w : World) (h : Sf w base B l) :
    Calls Try.prog 40 #[.pointer (some ⟨B, 0, none⟩), .string p] w fun e w' => e = .returned (.bool (fitsF l p)) ∧ Below w.heap.size w w' := by
  have HS := Aside0.mk h
  have HAT : Aside0 (∀ (k : ByteArray) (W' : World), k.size ≤ 1099511627776 → Below w.heap.size w W' → Calls Try.prog 44 #[.pointer (some ⟨B, 0, none⟩), .string k] W' fun e w' => e = .returned (.tuple #[.int .i64 (atF l k).1, .bool (atF l k).2]) ∧ Below w.heap.size w w') :=
    ⟨fun k W' hk hb => (at_calls base B l k hx hk (by omega) W' (h.later hb)).mono fun e w' ⟨h1, h2⟩ => ⟨h1, hb.trans (h2.mono hb.size)⟩⟩
  have HF : Aside0 (fitsF l p = if (if (atF l p).2 = true then (atF l p).1 + 1 else (atF l p).1) < l.length ∧ insideF (l.getD (if (atF l p).2 = true then (atF l p).1 + 1 else (atF l p).1) (⟨#[]⟩, ⟨#[]⟩)).1 p = true then false else upF l p.size (splitF p).1) := ⟨rfl⟩
  obtain ⟨F, hF⟩ : ∃ F, fitsF l p = F := ⟨_, rfl⟩
  rw [hF] at HF ⊢
  have hile : (atF l p).1 ≤ l.length := atI_le l p
  have HA1 := Aside0.mk (HAT.out p w hk (Below.refl _ _))
  obtain ⟨r, hrr⟩ : ∃ r, atF l p = r := ⟨_, rfl⟩
  rw [hrr] at HA1 HF hile
  obtain ⟨i, is⟩ := r
  simp only at HA1 HF hile
  have HX := Aside0.mk hx
  clear h hrr hx hF
  go_enter Try.func40, Try.ntmps40
  go_wp2_with fail
  refine HA1.out.mono ?_
  rintro e w1 ⟨rfl, hb1⟩
  obtain ⟨v, hv, ho, hBb⟩ := HS.out.later hb1
  obtain ⟨A, c, rfl, hlc, hC⟩ := own_C ho
  have c0 := (box_cell (k := 0) hv rfl).1
  have HB1 := Aside0.mk hb1
  have HC := Aside0.mk hC
  clear hb1 HA1 hv ho hC
  go_upto_if 17 with fail
  go_cut [5, 6] (fun s5 s6 wc => wc = w1 ∧ ∃ j : Nat, s5 = .int .i64 j ∧ j ≤ l.length + 1 ∧ Aside0 (F = if j < l.length ∧ insideF (l.getD j (⟨#[]⟩, ⟨#[]⟩)).1 p = true then false else upF l p.size (splitF p).1))
  case first =>
    cases is with
    | true =>
      have hwr : IntKind.i64.wrap ((i : Int) + 1) = (i : Int) + 1 := by rw [IntKind.wrap_i64]; omega
      go_wp2_with fail
      go_meet
      case rel => exact ⟨rfl, i + 1, by rw [show ((i + 1 : Nat) : Int) = (i : Int) + 1 from by omega], by omega, HF⟩
    | false =>
      go_wp2_with fail
      go_meet
      case rel => exact ⟨rfl, i, rfl, by omega, HF⟩
  case rest =>
    obtain ⟨rfl, j, rfl, hj, HJ⟩ := hcut
    clear HF hile
    have hup : upF l p.size (splitF p).1 = upF l (splitF p).1.size (splitF p).1 := upF_more l _ _ _ (split_le p) (Nat.le_refl _)
    have HUP := Aside0.mk hup
    have HSPL := Aside0.mk (fun W => Split_calls p (by omega) W)
    have hsp := split_le p
    obtain ⟨d0, hd0⟩ : ∃ d0, (splitF p).1 = d0 := ⟨_, rfl⟩
    obtain ⟨d1, hd1⟩ : ∃ d1, (splitF p).2 = d1 := ⟨_, rfl⟩
    rw [hd0, hd1] at HSPL
    rw [hd0] at HUP HJ hsp
    clear hup hd0 hd1
    obtain ⟨tb, htb⟩ : ∃ tb : Bool, decide (j < l.length ∧ insideF (l.getD j (⟨#[]⟩, ⟨#[]⟩)).1 p = true) = tb := ⟨_, rfl⟩
    have HTB := Aside0.mk htb
    clear htb
    go_upto_region 4 with fail
    go_cut [38] (fun s wx => s = .bool tb ∧ ∃ m, wx = wc.drewN m)
    case first =>
      by_cases hlt : j < l.length
      · obtain ⟨ad, hA, q0, q1⟩ := at_F HC.out hlt
        subst hA
        have hgd : l.getD j (⟨#[]⟩, ⟨#[]⟩) = l[j] := by simp [List.getD, List.getElem?_eq_getElem hlt]
        have hI := Aside0.mk (fun W => inside_calls l[j].1 p hk W)
        have ht := HTB.out
        rw [hgd] at ht
        have ht2 : insideF l[j].1 p = tb := by
          rw [← ht]
          cases insideF l[j].1 p <;> simp [hlt]
        rw [ht2] at hI
        obtain ⟨y, hy⟩ : ∃ y, l[j] = y := ⟨_, rfl⟩
        rw [hy] at q0 q1 hI
        have hji : (j : Int) < (l.length : Int) := by omega
        clear ht ht2 hgd hy
        go_wp2_with fail
        refine (hI.out _).mono ?_
        rintro e w2 ⟨rfl, m, rfl⟩
        go_wp2_with fail
        go_meet
        case rel => exact ⟨rfl, m, rfl⟩
      · have hji : ¬ ((j : Int) < (l.length : Int)) := by omega
        have ht : tb = false := by rw [← HTB.out]; exact decide_eq_false (fun h => hlt h.1)
        subst ht
        go_wp2_with fail
        go_meet
        case rel => exact ⟨rfl, 0, rfl⟩
    case rest =>
      obtain ⟨rfl, m, rfl⟩ := hcut
      cases tb with
      | true =>
        have hF : F = false := by rw [HJ.out, if_pos (of_decide_eq_true HTB.out)]
        subst hF
        clear HJ HTB
        go_wp2_with fail
        go_ret
        exact ⟨rfl, pw_below_drewN HB1.out m⟩
      | false =>
        have hF := HJ.out
        rw [if_neg (of_decide_eq_false HTB.out), HUP.out] at hF
        have HFU := Aside0.mk hF
        have BM := Aside0.mk (pw_below_drewN HB1.out m)
        clear hF HJ HTB HUP c0 HC
        go_wp2_with fail
        refine (HSPL.out _).mono ?_
        rintro e w2 ⟨rfl, m2, rfl⟩
        have BM2 := Aside0.mk (pw_below_drewN BM.out m2)
        clear HSPL
        go_wp2_with fail
        go_loopg [7] d0.size (fun gg s7 wr => ∃ d : ByteArray, s7 = .string d ∧ d.size ≤ gg ∧ d.size ≤ p.size ∧ Aside0 (F = upF l d.size d) ∧ Aside0 (Below w.heap.size w wr))
        case atStart => exact ⟨d0, rfl, Nat.le_refl _, hsp, HFU, ⟨by first | exact BM2.out | exact pw_below_drewN HB1.out _⟩⟩
        case round =>
          obtain ⟨d, rfl, hg, hdp, FU, BW⟩ := hrel
          by_cases hd : d.toList = []
          · have hdb : d.toList.isEmpty = true := by rw [hd]; rfl
            have hF := FU.out
            rw [upF_end hd] at hF
            subst hF
            clear FU HFU
            go_wp2_with fail
            go_ret
            exact ⟨rfl, BW.out⟩
          · have hdb : d.toList.isEmpty = false := by simpa using hd
            have hF := FU.out
            rw [upF_step hd] at hF
            have HA := Aside0.mk (HAT.out d wr (by omega) BW.out)
            have HSPD := Aside0.mk (fun W => Split_calls d (by omega) W)
            have hlts := split_lt d
            have hles := split_le d
            obtain ⟨e0, he0⟩ : ∃ e0, (splitF d).1 = e0 := ⟨_, rfl⟩
            obtain ⟨e1, he1⟩ : ∃ e1, (splitF d).2 = e1 := ⟨_, rfl⟩
            rw [he0, he1] at HSPD
            rw [he0] at hF hlts hles
            obtain ⟨r, hr⟩ : ∃ r, atF l d = r := ⟨_, rfl⟩
            rw [hr] at HA hF
            obtain ⟨i2, is2⟩ := r
            simp only at HA hF
            have HFF := Aside0.mk hF
            have hpos : 0 < d.size := by
              rcases Nat.eq_zero_or_pos d.size with h0 | h0
              · exact absurd (by rw [BytesLib.toList_L]; exact List.length_eq_zero_iff.1 (by rw [BytesLib.L_length]; exact h0)) hd
              · exact h0
            have hlt0 : e0.size < d.size := by
              rcases hlts with h | h
              · exact h
              · have : e0.size = 0 := by rw [← BytesLib.L_length, ← BytesLib.toList_L, h]; rfl
                omega
            clear hF FU HFU hr he0 he1 hlts hd
            go_wp2_with fail
            refine HA.out.mono ?_
            rintro e w3 ⟨rfl, hb3⟩
            have HB3 := Aside0.mk hb3
            clear hb3 HA
            cases is2 with
            | true =>
              have hF := HFF.out
              rw [if_pos rfl] at hF
              subst hF
              go_wp2_with fail
              go_ret
              exact ⟨rfl, HB3.out⟩
            | false =>
              have hF := HFF.out
              rw [if_neg (by decide)] at hF
              have HF2 := Aside0.mk hF
              clear hF HFF
              go_wp2_with fail
              refine (HSPD.out _).mono ?_
              rintro e w4 ⟨rfl, m4, rfl⟩
              have BM4 := Aside0.mk (pw_below_drewN HB3.out m4)
              clear HSPD
              go_wp2_with fail
              go_roundg e0.size
              case measure => omega
              case rel => exact ⟨e0, rfl, Nat.le_refl _, by omega, HF2, ⟨by first | exact BM4.out | exact pw_below_drewN HB3.out _⟩⟩
end Go.Proofs.Ytmocfgghccmdgaa.TrFits


/- tree.wrong, Put, Drop, Find: the walk. -/
namespace Go.Proofs.Ytmocfgghccmdgaa.TrOps
open Go Go.Proofs Go.RowKit Go.Proofs.YtmocfgghccmdgaaW.PrintWords Go.Proofs.Ytmocfgghccmdgaa.RowsLib Go.Proofs.Ytmocfgghccmdgaa.TrLib Go.Proofs.Ytmocfgghccmdgaa.PathBase Go.Proofs.Ytmocfgghccmdgaa.TrAt Go.Proofs.Ytmocfgghccmdgaa.TrCopy Go.Proofs.Ytmocfgghccmdgaa.TrPut Go.Proofs.Ytmocfgghccmdgaa.TrFits
set_option linter.unusedVariables false
set_option linter.unusedSimpArgs false

/-- What is wrong with a file by itself. -/
def wrongF (x : Fl) : Int := if Valid.valid x.1 = true then (if (x.2.size : Int) > 4000 then 2 else 0) else 10
theorem wrong_calls (x : Fl) (hx : x.1.size ≤ 140737488351232) (w : World) : Calls Try.prog 38 #[.agg #[.string x.1, .string x.2]] w fun e w' => e = .returned (.int .i64 (wrongF x)) ∧ Below w.heap.size w w' := by
  refine BTb.tree_wrong.calls x.1 x.2 _ w ?_
  unfold BTb.tree_wrong.f BTb.paths_Valid.f wrongF
  rw [if_pos hx, Option.bind_some]
  cases Valid.valid x.1 with
  | true =>
    rw [if_pos rfl, if_pos rfl]
    split <;> rfl
  | false => rw [if_neg (by decide), if_neg (by decide)]
def putT (l : List Fl) (x : Fl) : List Fl × Int :=
  if wrongF x = 0 then (if fitsF l x.1 = true then (if ((putF l x).length : Int) > 60 then ([], 2) else (putF l x, 0)) else ([], 4)) else ([], wrongF x)
theorem nil_own (w : World) (base : Nat) : w.ownsRow base 24 2 (.slice none 0 0) ([] : List Fl).length (cellsF []) := ⟨rfl, .inl ⟨rfl, rfl⟩⟩

set_option maxRecDepth 100000 in
set_option maxHeartbeats 8000000 in
theorem Put_calls (A : Option Addr) (c : Nat) (l : List Fl) (x : Fl) (w : World) (hr : Kd.C kF w A l.length l) (hl : l.length ≤ 1000000) (hx : ∀ y ∈ l, y.1.size ≤ 1099511627776) (hk : x.1.size ≤ 1099511627776) :
    Calls Try.prog 14 #[.slice A l.length c, .agg #[.string x.1, .string x.2]] w
      fun e w' => ∃ v, e = .returned (.tuple #[v, .int .i64 (putT l x).2]) ∧ w'.ownsRow w.heap.size 24 2 v (putT l x).1.length (cellsF (putT l x).1) ∧ Below w.heap.size w w' := by
  have HF : Aside0 (putT l x = if wrongF x = 0 then (if fitsF l x.1 = true then (if ((putF l x).length : Int) > 60 then ([], 2) else (putF l x, 0)) else ([], 4)) else ([], wrongF x)) := ⟨rfl⟩
  obtain ⟨F, hF⟩ : ∃ F, putT l x = F := ⟨_, rfl⟩
  rw [hF] at HF ⊢
  have hb0 : Below w.heap.size w (w.alloc (Obj.cells #[Value.string x.1, Value.string x.2] 24)) := (Below.refl _ w).alloc (Nat.le_refl _) _
  have hxb0 : (w.alloc (Obj.cells #[Value.string x.1, Value.string x.2] 24)).heap[w.heap.size]? = some (.cells (encF x).toArray 24 (0, 0)) := heap_alloc_new w _
  have HC := Aside0.mk (Kd.C_below hr hb0)
  have HW := Aside0.mk (fun W => wrong_calls x (by omega) W)
  obtain ⟨wr, hwr⟩ : ∃ wr, wrongF x = wr := ⟨_, rfl⟩
  rw [hwr] at HW HF
  obtain ⟨W, hW⟩ : ∃ W, w.alloc (Obj.cells #[Value.string x.1, Value.string x.2] 24) = W := ⟨_, rfl⟩
  have HX := Aside0.mk hx
  have hWs : w.heap.size < W.heap.size := by rw [← hW]; simp
  clear hr hx hF hwr
  go_enter Try.func14, Try.ntmps14
  go_upto_region 1 with fail
  rw [hW] at hb0 hxb0 HC
  try rw [hW]
  have c3 := (box_cell (k := 0) hxb0 rfl).1
  have c4 := (box_cell (k := 1) hxb0 rfl).1
  have HB0 := Aside0.mk hb0
  have HXB := Aside0.mk hxb0
  clear hb0 hxb0 hW
  go_wp2_with fail
  refine (HW.out _).mono ?_
  rintro e w1 ⟨rfl, hb1⟩
  have HB1 := Aside0.mk (HB0.out.trans (hb1.mono HB0.out.size))
  have HC1 := Aside0.mk (Kd.C_below HC.out hb1)
  have hxb1 := block_later HXB.out hb1
  have d3 := (box_cell (k := 0) hxb1 rfl).1
  have d4 := (box_cell (k := 1) hxb1 rfl).1
  have HXB1 := Aside0.mk hxb1
  have hs1 : w.heap.size < w1.heap.size := by have := hb1.size; omega
  clear hb1 hxb1 HW HC HXB c3 c4
  by_cases h0 : wr = 0
  · subst h0
    have HF1 := Aside0.mk (HF.out.trans (if_pos rfl))
    have HFI := Aside0.mk (files_calls A c l w1 HC1.out (by omega))
    clear HF HC1
    go_wp2_with fail
    refine HFI.out.mono ?_
    rintro e w2 ⟨B, rfl, hS, hb2⟩
    have HB2 := Aside0.mk (HB1.out.trans (hb2.mono (by omega)))
    have hxb2 := block_later HXB1.out hb2
    have f3 := (box_cell (k := 0) hxb2 rfl).1
    have f4 := (box_cell (k := 1) hxb2 rfl).1
    have HXB2 := Aside0.mk hxb2
    have HS := Aside0.mk hS
    have hs2 : w.heap.size < w2.heap.size := by have := hb2.size; omega
    have HFT := Aside0.mk (fits_calls w1.heap.size B l x.1 HX.out hk (by omega) w2 hS)
    obtain ⟨ft, hft⟩ : ∃ ft, fitsF l x.1 = ft := ⟨_, rfl⟩
    rw [hft] at HFT HF1
    clear hb2 hxb2 hS HFI HXB1 d3 d4 hft
    go_wp2_with fail
    refine HFT.out.mono ?_
    rintro e w3 ⟨rfl, hb3⟩
    have HB3 := Aside0.mk (HB2.out.trans (hb3.mono (by omega)))
    have hxb3 := block_later HXB2.out hb3
    have g3 := (box_cell (k := 0) hxb3 rfl).1
    have g4 := (box_cell (k := 1) hxb3 rfl).1
    have hS3 := HS.out.later hb3
    have HS3 := Aside0.mk hS3
    have hs3 : w.heap.size < w3.heap.size := by have := hb3.size; omega
    clear hb3 hxb3 HFT HXB2 f3 f4
    cases ft with
    | false =>
      have HF2 := Aside0.mk (HF1.out.trans (if_neg (by decide)))
      clear HF1 g3 g4
      go_wp2_with fail
      go_ret2
      rw [HF2.out]
      exact ⟨_, rfl, nil_own _ _, HB3.out⟩
    | true =>
      have HF2 := Aside0.mk (HF1.out.trans (if_pos rfl))
      have HPU := Aside0.mk (put_calls w1.heap.size B l x HX.out hk (by omega) w3 hS3)
      obtain ⟨q, hq⟩ : ∃ q, putF l x = q := ⟨_, rfl⟩
      rw [hq] at HPU HF2
      clear HF1 hS3 hq
      go_wp2_with fail
      refine HPU.out.mono ?_
      rintro e w4 ⟨rfl, hS4, hb4⟩
      have HB4 := Aside0.mk (HB3.out.trans (hb4.mono (by omega)))
      obtain ⟨v, hv, ho, hBb⟩ := hS4
      obtain ⟨A4, k4, rfl, -, -⟩ := own_C ho
      have m0 := (box_cell (k := 0) hv rfl).1
      have HO := Aside0.mk ho
      clear hb4 hv ho HPU g3 g4
      by_cases h60 : (q.length : Int) > 60
      · have HF3 := Aside0.mk (HF2.out.trans (if_pos h60))
        have h60' : decide ((60 : Int) < (q.length : Int)) = true := decide_eq_true (by omega)
        clear HF2
        go_wp2_with fail
        go_ret2
        rw [HF3.out]
        exact ⟨_, rfl, nil_own _ _, HB4.out⟩
      · have HF3 := Aside0.mk (HF2.out.trans (if_neg h60))
        have h60' : decide ((60 : Int) < (q.length : Int)) = false := decide_eq_false (by omega)
        clear HF2
        go_wp2_with fail
        go_ret2
        rw [HF3.out]
        refine ⟨_, rfl, ?_, HB4.out⟩
        obtain ⟨p1, p2⟩ := HO.out
        refine ⟨p1, ?_⟩
        rcases p2 with p2 | ⟨g, cap, cur, pe, pb, pr⟩
        · exact .inl p2
        · exact .inr ⟨g, cap, cur, pe, by omega, pr⟩
  · have hwz : (wr != 0) = true := by rw [bne_iff_ne]; exact h0
    have HF1 := Aside0.mk (HF.out.trans (if_neg h0))
    clear HF HC1
    go_wp2_with fail
    go_ret2
    rw [HF1.out]
    exact ⟨_, rfl, nil_own _ _, HB1.out⟩

/-! ### Find -/
end Go.Proofs.Ytmocfgghccmdgaa.TrOps


/- tree.Merge: the walk. -/
namespace Go.Proofs.Ytmocfgghccmdgaa.TrMerge
open Go Go.Proofs Go.RowKit Go.Proofs.YtmocfgghccmdgaaW.PrintWords Go.Proofs.Ytmocfgghccmdgaa.RowsLib Go.Proofs.Ytmocfgghccmdgaa.TrLib Go.Proofs.Ytmocfgghccmdgaa.PathBase Go.Proofs.Ytmocfgghccmdgaa.TrAt Go.Proofs.Ytmocfgghccmdgaa.TrCopy Go.Proofs.Ytmocfgghccmdgaa.TrPut Go.Proofs.Ytmocfgghccmdgaa.TrFits Go.Proofs.Ytmocfgghccmdgaa.TrOps
set_option linter.unusedVariables false
set_option linter.unusedSimpArgs false

end Go.Proofs.Ytmocfgghccmdgaa.TrMerge


/- slices.Insert of one element into a row of the call's own: the walk. -/
namespace Go.Proofs.Ytmocfgghccmdgaa.TrInsS
open Go Go.Proofs Go.RowKit Go.Lib Go.Proofs.YtmocfgghccmdgaaW.PrintWords Go.Proofs.Ytmocfgghccmdgaa.RowsLib Go.Proofs.Ytmocfgghccmdgaa.TrLib Go.Proofs.Ytmocfgghccmdgaa.TrCopy
set_option linter.unusedVariables false
set_option linter.unusedSimpArgs false

theorem hov (W : World) (g bx n c cap : Nat) (cur y : Array Value) (hg : W.heap[g]? = some (.cells cur 9 (0, 0))) (hx : W.heap[bx]? = some (.cells y 9 (0, 0))) (hne : bx ≠ g) (h0 : cur.size ≠ 0) (off lb cb : Nat) :
    (callFunc 94 #[.slice (some ⟨bx, 0, none⟩) 1 1, .slice (some ⟨g, off, none⟩) lb cb]).run Try.prog W = .ok (.value (.bool false)) W := by
  rw [run_callFunc_extern Try.func94 (by kernel_rfl) (by kernel_rfl) (by kernel_rfl) (e := Extern.SlicesOverlaps.overlaps #[42, 42] #[4]) (by kernel_rfl),
    Lib.run_overlaps_apart W 42 4 9 Try.underlying42 1 (fun w => by kernel_rfl) ⟨bx, 0, none⟩ ⟨g, off, none⟩ 1 1 lb cb hne 9 9 y.size cur.size (by simp [World.shape?, hx]) (by simp [World.shape?, hg]) h0 (by simp [World.frozen?, hx]) (by simp [World.frozen?, hx])]
  rfl

set_option maxHeartbeats 8000000 in
set_option maxRecDepth 100000 in
theorem Insert_calls (base : Nat) (v : Value) (l : List ByteArray) (i : Nat) (x : ByteArray) (bx : Nat) (w : World) (hb0 : base ≤ w.heap.size) (ho : w.ownsRow base 9 1 v l.length (cellsS l)) (hi : i ≤ l.length) (hl : l.length ≤ 1099511627776)
    (hx : w.heap[bx]? = some (.cells (encS x).toArray 9 (0, 0))) (hne : v.ownBlock ≠ some bx) :
    Calls Try.prog 79 #[v, .int .i64 i, .slice (some ⟨bx, 0, none⟩) 1 1] w fun e w' =>
      ∃ v', e = .returned v' ∧ w'.ownsRow base 9 1 v' (l.take i ++ x :: l.drop i).length (cellsS (l.take i ++ x :: l.drop i)) ∧ w.grownBy w' v.ownBlock ∧ (∀ k, v'.ownBlock = some k → v.ownBlock = some k ∨ w.heap.size ≤ k) := by
  obtain ⟨i0, hi0, hz0, hzs, hzb⟩ := info_parts infoS
  have hlen : (l.take i ++ x :: l.drop i).length = l.length + 1 := by simp; omega
  have hxc : ∀ j u, (encS x)[j]? = some u → w.cell? (Addr.add ⟨bx, 0, none⟩ j) = some u := fun j u hj => by
    rw [RowsLib.add_plain, Nat.zero_add]
    exact (box_cell hx (by rw [List.getElem?_toArray]; exact hj)).1
  by_cases hin : i = l.length
  · subst hin
    have hfin : l.take l.length ++ x :: l.drop l.length = l ++ [x] := by rw [List.take_length, List.drop_length]
    rw [hfin] at hlen ⊢
    have HO := Aside0.mk ho
    have HX := Aside0.mk hxc
    have HF := Aside0.mk hfin
    rcases ho.2 with ⟨rfl, h0⟩ | ⟨g, cap, cur, rfl, r⟩
    · have h0' : (l.length : Int) = 0 := by omega
      clear ho hx hxc hfin
      go_enter Try.func79, Try.ntmps79
      go_wp2_with (at_builtin; refine wpList_append_own_at _ rfl _ _ 42 rfl base 9 i0 (.string ⟨#[]⟩) 1 16 Try.underlying42 hi0 hz0 hzs hzb rfl (by decide) _ l.length (cellsS l) rfl HO.out ⟨bx, 0, none⟩ 1 1 (encS x) rfl rfl HX.out (encS_one x) (by unfold maxLen; omega) (by omega) hb0 ?_; intro v1 w1 hown1 hgrow1 _ hat1)
      go_ret
      refine ⟨v1, rfl, ?_, hgrow1, fun k hk => (hat1.elim (fun h => .inl (h.symm.trans hk)) (fun h => .inr (by rw [h] at hk; have := Option.some.inj hk; omega)))⟩
      try rw [hlen]
      unfold cellsS
      rw [cellsL_app, cellsL_one]
      exact hown1
    · clear ho hx hxc hfin r
      go_enter Try.func79, Try.ntmps79
      go_wp2_with (at_builtin; refine wpList_append_own_at _ rfl _ _ 42 rfl base 9 i0 (.string ⟨#[]⟩) 1 16 Try.underlying42 hi0 hz0 hzs hzb rfl (by decide) _ l.length (cellsS l) rfl HO.out ⟨bx, 0, none⟩ 1 1 (encS x) rfl rfl HX.out (encS_one x) (by unfold maxLen; omega) (by omega) hb0 ?_; intro v1 w1 hown1 hgrow1 _ hat1)
      all_goals (
        go_ret
        refine ⟨v1, rfl, ?_, hgrow1, fun k hk => (hat1.elim (fun h => .inl (h.symm.trans hk)) (fun h => .inr (by rw [h] at hk; have := Option.some.inj hk; omega)))⟩
        try rw [hlen]
        unfold cellsS
        rw [cellsL_app, cellsL_one]
        exact hown1)
  · obtain ⟨hnl, ⟨rfl, h0⟩ | ⟨g, cap, cur, rfl, hgb, hg, hnc, hcm, hcs, htk⟩⟩ := ho
    · omega
    have hin' : i < l.length := by omega
    have hbg : bx ≠ g := fun e => hne (by rw [e]; rfl)
    obtain ⟨n, hn⟩ : ∃ n, l.length = n := ⟨_, rfl⟩
    rw [hn] at hnl hnc htk hin hin' hi hl hlen ⊢
    have hCL := cellsL_len (n := 1) encS_len l
    have hc63 : cap ≤ 9223372036854775807 := hcm
    have hz2 : ¬ ((i : Int) = (n : Int)) := by omega
    have hw1 : IntKind.i64.wrap ((i : Int) + 1) = (i : Int) + 1 := by rw [IntKind.wrap_i64]; omega
    have hw2 : IntKind.i64.wrap ((n : Int) + 1) = (n : Int) + 1 := by rw [IntKind.wrap_i64]; omega
    have hsz : (Try.prog.info? 9).map (·.size) = some 1 := by rw [hi0]; simp [hzs]
    have hbl : bx < w.heap.size := block_lt hx
    have hgl : g < w.heap.size := block_lt hg
    have hCA : cellsS (l.take i) = (cur.toList.take (n * 1)).take (i * 1) := by rw [htk]; unfold cellsS; exact cellsL_take encS_len l i
    have hCB : cellsS (l.drop i) = (cur.toList.take (n * 1)).drop (i * 1) := by rw [htk]; unfold cellsS; exact cellsL_drop encS_len l i
    have hBl : (cellsS (l.drop i)).length = (n - i) * 1 := by unfold cellsS; rw [cellsL_len (n := 1) encS_len, List.length_drop, hn]
    have hAl : (cellsS (l.take i)).length = i * 1 := by unfold cellsS; rw [cellsL_len (n := 1) encS_len, List.length_take, hn, Nat.min_eq_left (by omega)]
    have hres : cellsS (l.take i ++ x :: l.drop i) = cellsS (l.take i) ++ (encS x ++ cellsS (l.drop i)) := by unfold cellsS; rw [cellsL_app]; unfold cellsL; rw [List.flatMap_cons]
    have h1B : ∀ u ∈ cellsS (l.drop i), u.oneCell' = true := fun u hu => by
      obtain ⟨y, _, hy⟩ := mem_cellsL hu
      exact encS_one y u hy
    have hsrcB : ∀ j u, (cellsS (l.drop i))[j]? = some u → cur[i * 1 + j]? = some u := fun j u hj => by
      rw [hCB, List.getElem?_drop] at hj
      rw [List.getElem?_take] at hj
      split at hj
      · rw [← hj, Array.getElem?_toList]
      · cases hj
    by_cases hroom : n + 1 ≤ cap
    · -- in place
      have hz3 : ¬ ((cap : Int) < (n : Int) + 1) := by omega
      obtain ⟨W1, hW1⟩ : ∃ W1, w.drew.setRow g (cur.toList.take ((i + 1) * 1) ++ cellsS (l.drop i) ++ cur.toList.drop ((i + 1) * 1 + (cellsS (l.drop i)).length)).toArray = W1 := ⟨_, rfl⟩
      obtain ⟨cur1, hcur1⟩ : ∃ cur1, (cur.toList.take ((i + 1) * 1) ++ cellsS (l.drop i) ++ cur.toList.drop ((i + 1) * 1 + (cellsS (l.drop i)).length)).toArray = cur1 := ⟨_, rfl⟩
      rw [hcur1] at hW1
      have hcl : cur.toList.length = cap * 1 := by rw [Array.length_toList, hcs]
      have hfit1 : (i + 1) * 1 + (cellsS (l.drop i)).length ≤ cur.size := by rw [hBl, hcs]; exact fit_shift hin' hroom
      have hcp1 : ∀ ty dc sc, (Builtin.copy_ #[42, 42] ty #[.slice (some ⟨g, (i + 1) * 1, none⟩) (n - i) dc, .slice (some ⟨g, i * 1, none⟩) (n + 1 - i) sc]).run Try.prog w.drew = .ok (goInt ((n - i : Nat) : Int)) W1 := fun ty dc sc => by
        have h := run_copy_rowK (P := Try.prog) 1 w.drew 42 42 ty 9 g ((i + 1) * 1) (n - i) dc ⟨g, i * 1, none⟩ (n + 1 - i) sc cur 9 (cellsS (l.drop i)) (n - i) Try.underlying42 hsz hg (by show min _ _ = _; omega) (by rw [hBl])
          (fun j u hj => by rw [RowsLib.add_plain]; exact (box_cell (w := w) hg (hsrcB j u hj)).1) hfit1 h1B
        rw [hcur1, hW1] at h
        exact h
      have hg1 : W1.heap[g]? = some (.cells cur1 9 (0, 0)) := by rw [← hW1]; exact setRow_heap w.drew g _ _ _ _ hg
      have hx1 : W1.heap[bx]? = some (.cells (encS x).toArray 9 (0, 0)) := by rw [← hW1, setRow_other _ _ _ _ hbg]; exact hx
      have hs1 : cur1.size = cap * 1 := by
        rw [← hcur1, List.size_toArray, List.length_append, List.length_append, List.length_take, List.length_drop, hcl]
        rw [hcs] at hfit1
        omega
      obtain ⟨cur2, hcur2⟩ : ∃ cur2, (cur1.toList.take (i * 1) ++ encS x ++ cur1.toList.drop (i * 1 + (encS x).length)).toArray = cur2 := ⟨_, rfl⟩
      have hfit2 : i * 1 + (encS x).length ≤ cur1.size := by rw [hs1, encS_len x]; exact fit_one hin' hroom
      have hcp2 : ∀ (W : World), W.heap = W1.heap → ∀ ty dc, (Builtin.copy_ #[42, 42] ty #[.slice (some ⟨g, i * 1, none⟩) (n + 1 - i) dc, .slice (some ⟨bx, 0, none⟩) 1 1]).run Try.prog W = .ok (goInt 1) (W.setRow g cur2) := fun W hW ty dc => by
        have h := run_copy_rowK (P := Try.prog) 1 W 42 42 ty 9 g (i * 1) (n + 1 - i) dc ⟨bx, 0, none⟩ 1 1 cur1 9 (encS x) 1 Try.underlying42 hsz (by rw [hW]; exact hg1) (by show min _ _ = _; omega) (by rw [encS_len x])
          (fun j u hj => by rw [RowsLib.add_plain, Nat.zero_add]; exact (box_cell (w := W) (by rw [hW]; exact hx1) (by rw [List.getElem?_toArray]; exact hj)).1) hfit2 (encS_one x)
        rw [hcur2] at h
        exact h
      have hov' : ∀ lb cb, (callFunc 94 #[.slice (some ⟨bx, 0, none⟩) 1 1, .slice (some ⟨g, (i + 1) * 1, none⟩) lb cb]).run Try.prog w = .ok (.value (.bool false)) w := fun lb cb => hov w g bx n 0 cap cur _ hg hx hbg (by rw [hcs]; have := hroom; omega) _ lb cb
      have hfin : cur2.toList.take ((n + 1) * 1) = cellsS (l.take i ++ x :: l.drop i) := by
        rw [← hcur2, ← hcur1, hres, hCA]
        simp only [List.toList_toArray]
        exact shift_row (sz := 1) cur.toList (encS x) (cellsS (l.drop i)) i n cap (encS_len x) hBl hcl hin' hroom
      have hs2 : cur2.size = cap * 1 := by
        rw [← hcur2, List.size_toArray, List.length_append, List.length_append, List.length_take, List.length_drop, Array.length_toList]
        omega
      have HEND : Aside0 (∀ W : World, W.heap = W1.heap → W.os = w.os → W.tape = w.tape → W.output = w.output → (W.setRow g cur2).ownsRow base 9 1 (.slice (some ⟨g, 0, none⟩) (n + 1) cap) (n + 1) (cellsS (l.take i ++ x :: l.drop i)) ∧ w.grownBy (W.setRow g cur2) (Value.slice (some ⟨g, 0, none⟩) n cap).ownBlock) := by
        refine ⟨fun W hW ho2 ht2 hu2 => ⟨⟨?_, .inr ⟨g, cap, cur2, rfl, hgb, ?_, hroom, hcm, hs2, hfin⟩⟩, ⟨ho2, ht2, hu2, ?_, fun k hk hkg => ?_⟩⟩⟩
        · unfold cellsS; rw [cellsL_len (n := 1) encS_len, hlen]
        · exact setRow_heap W g _ _ _ _ (by rw [hW]; exact hg1)
        · rw [setRow_size, hW, ← hW1, setRow_size]; exact Nat.le_refl _
        · have hk2 : k ≠ g := fun e => hkg (by rw [e]; rfl)
          rw [setRow_other _ _ _ _ hk2, hW, ← hW1, setRow_other _ _ _ _ hk2]; rfl
      have hWo : W1.os = w.os ∧ W1.tape = w.tape ∧ W1.output = w.output := by rw [← hW1]; exact ⟨rfl, rfl, rfl⟩
      have H1 := Aside0.mk hcp1
      have H2 := Aside0.mk hcp2
      have HW := Aside0.mk hWo
      clear hcp1 hcp2 hfin hs2 hs1 hfit1 hfit2 hcl hsrcB h1B hres hCA hCB hBl hAl hg1 hx1 hcur1 hcur2 hW1 hxc hx hg htk hcs hne hnl hCL hWo
      try simp only [Nat.mul_one] at H1 H2 hov'
      have hb1 : (0 : Int) ≤ (i : Int) + 1 := by omega
      have htn : ((i : Int) + 1).toNat = i + 1 := by omega
      have htn2 : ((n : Int) + 1).toNat = n + 1 := by omega
      have hb2 : ¬ (cap = i + 1) := by omega
      have hb3 : (i : Int) ≤ (n : Int) + 1 := by omega
      have hb4 : ¬ (cap = i) := by omega
      have hb5 : (n : Int) + 1 ≤ (cap : Int) := by omega
      have hb6 : (i : Int) + 1 ≤ (n : Int) + 1 := by omega
      have hb7 : (i : Int) ≤ (n : Int) := by omega
      go_enter Try.func79, Try.ntmps79
      go_wp2_with (simp only [hov'])
      go_region_law (refine step_copy_runI rfl (.tmp 73) (.tmp 76) 42 42 rfl (.slice (some ⟨g, i + 1, none⟩) (n - i) (cap - (i + 1))) (.slice (some ⟨g, i, none⟩) (n + 1 - i) (cap - i)) (by simp [Act.eval, Act.put]) (by simp [Act.eval, Act.put]) (H1.out 3 (cap - (i + 1)) (cap - i)) ?_)
      go_wp2_with (refine wpList_copy_runI _ rfl _ _ 42 42 rfl _ _ rfl rfl (H2.out _ (by first | rfl | simp) _ _) ?_)
      go_ret
      exact ⟨_, rfl, by rw [hlen]; exact (HEND.out _ rfl HW.out.1 HW.out.2.1 HW.out.2.2).1, (HEND.out _ rfl HW.out.1 HW.out.2.1 HW.out.2.2).2, fun k hk => .inl hk⟩
    · -- a new row
      have hz3 : (cap : Int) < (n : Int) + 1 := by omega
      have hkk : (n : Int) + 1 - (i : Int) = ((n + 1 - i : Nat) : Int) := by omega
      have hik : i + (n + 1 - i) = n + 1 := by omega
      obtain ⟨G, hG⟩ : ∃ G, grownCap w (n + 1) cap 9 = G := ⟨_, rfl⟩
      have hGn : n + 1 ≤ G := by rw [← hG]; exact grownCap_ge w _ _ _
      have hGm : G ≤ maxLen := by rw [← hG]; exact grownCap_le_maxLen w (n + 1) cap 9 (by unfold maxLen; omega)
      have hG63 : G ≤ 9223372036854775807 := hGm
      obtain ⟨ROW, hROW⟩ : ∃ ROW : Array Value, (cellsS (l.take i)).toArray ++ Builtin.zeroCells ((.string ⟨#[]⟩) : Value).cells (n + 1 - i) ++ Builtin.zeroCells ((.string ⟨#[]⟩) : Value).cells (G - (n + 1)) = ROW := ⟨_, rfl⟩
      have hold : (Builtin.firstCells i0.size i (.slice (some ⟨g, 0, none⟩) i cap)).run Try.prog w.drew = .ok (cellsS (l.take i)).toArray w.drew := by
        rw [hzs]
        exact run_firstCells_some w.drew 1 i ⟨g, 0, none⟩ i cap (cellsS (l.take i)) (by rw [hAl]) (fun j u hj => by
          rw [RowsLib.add_plain, Nat.zero_add]
          rw [hCA, List.take_take, List.getElem?_take] at hj
          split at hj
          · exact (box_cell (w := w) hg (by rw [← hj, Array.getElem?_toList])).1
          · cases hj)
      have hrz : ∀ ty, (Builtin.append_ #[42, 3] ty #[.slice (some ⟨g, 0, none⟩) i cap, .int .i64 ((n : Int) + 1 - (i : Int))]).run Try.prog w =
          .ok (.slice (some ⟨w.heap.size, 0, none⟩) (n + 1) G) (w.drew.alloc (.cells ROW 9)) := fun ty => by
        have h := Lib.run_append_grow_zeros w 42 3 ty 9 i0 _ .i64 .i64 Try.underlying42 Try.underlying3 hi0 hz0 (some ⟨g, 0, none⟩) i cap (cellsS (l.take i)) hold (n + 1 - i) (by omega) (by omega) (by omega) (by omega) (by rw [hzb]; omega) (by rw [hzb, hik]; exact growslice_fits (by omega) (by omega))
        rw [hik] at h
        rw [hkk, ← hROW, ← hG]
        exact h
      have hzl : ((.string ⟨#[]⟩) : Value).cells.size = 1 := rfl
      have hRs : ROW.size = G * 1 := by
        rw [← hROW, Array.size_append, Array.size_append, List.size_toArray, hAl]
        unfold Builtin.zeroCells
        rw [Array.size_map, Array.size_map, Array.size_range, Array.size_range, hzl, ← Nat.add_mul, ← Nat.add_mul]
        congr 1
        omega
      have hRA : ROW.toList.take (i * 1) = cellsS (l.take i) := by
        rw [← hROW, Array.toList_append, Array.toList_append, List.append_assoc]
        rw [List.take_append_of_le_length (by rw [List.toList_toArray, hAl]; exact Nat.le_refl _), List.toList_toArray, ← hAl, List.take_length]
      obtain ⟨W1, hW1⟩ : ∃ W1, w.drew.alloc (.cells ROW 9) = W1 := ⟨_, rfl⟩
      rw [hW1] at hrz
      have hN1 : W1.heap[w.heap.size]? = some (.cells ROW 9 (0, 0)) := by rw [← hW1]; exact heap_alloc_new w.drew _
      have hold1 : ∀ k, k < w.heap.size → W1.heap[k]? = w.heap[k]? := fun k hk => by rw [← hW1]; exact Below.heap_alloc w.drew _ k hk
      obtain ⟨cur1, hcur1⟩ : ∃ cur1, (ROW.toList.take (i * 1) ++ encS x ++ ROW.toList.drop (i * 1 + (encS x).length)).toArray = cur1 := ⟨_, rfl⟩
      have hfit1 : i * 1 + (encS x).length ≤ ROW.size := by rw [hRs, encS_len x]; exact fit_one hin' hGn
      have hcpA : ∀ (W : World), W.heap = W1.heap → ∀ ty dc, (Builtin.copy_ #[42, 42] ty #[.slice (some ⟨w.heap.size, i * 1, none⟩) (n + 1 - i) dc, .slice (some ⟨bx, 0, none⟩) 1 1]).run Try.prog W = .ok (goInt 1) (W.setRow w.heap.size cur1) := fun W hW ty dc => by
        have h := run_copy_rowK (P := Try.prog) 1 W 42 42 ty 9 w.heap.size (i * 1) (n + 1 - i) dc ⟨bx, 0, none⟩ 1 1 ROW 9 (encS x) 1 Try.underlying42 hsz (by rw [hW]; exact hN1) (by show min _ _ = _; omega) (by rw [encS_len x])
          (fun j u hj => by rw [RowsLib.add_plain, Nat.zero_add]; exact (box_cell (w := W) (by rw [hW, hold1 bx hbl]; exact hx) (by rw [List.getElem?_toArray]; exact hj)).1) hfit1 (encS_one x)
        rw [hcur1] at h
        exact h
      have hs1 : cur1.size = G * 1 := by
        rw [← hcur1, List.size_toArray, List.length_append, List.length_append, List.length_take, List.length_drop, Array.length_toList]
        omega
      obtain ⟨cur2, hcur2⟩ : ∃ cur2, (cur1.toList.take ((i + 1) * 1) ++ cellsS (l.drop i) ++ cur1.toList.drop ((i + 1) * 1 + (cellsS (l.drop i)).length)).toArray = cur2 := ⟨_, rfl⟩
      have hfit2 : (i + 1) * 1 + (cellsS (l.drop i)).length ≤ cur1.size := by rw [hBl, hs1]; exact fit_shift hin' hGn
      have hcpB : ∀ (W : World), W.heap = (W1.setRow w.heap.size cur1).heap → ∀ ty dc sc, (Builtin.copy_ #[42, 42] ty #[.slice (some ⟨w.heap.size, (i + 1) * 1, none⟩) (n - i) dc, .slice (some ⟨g, i * 1, none⟩) (n - i) sc]).run Try.prog W = .ok (goInt ((n - i : Nat) : Int)) (W.setRow w.heap.size cur2) := fun W hW ty dc sc => by
        have h := run_copy_rowK (P := Try.prog) 1 W 42 42 ty 9 w.heap.size ((i + 1) * 1) (n - i) dc ⟨g, i * 1, none⟩ (n - i) sc cur1 9 (cellsS (l.drop i)) (n - i) Try.underlying42 hsz (by rw [hW]; exact setRow_heap W1 _ _ _ _ _ hN1) (by show min _ _ = _; omega) (by rw [hBl])
          (fun j u hj => by rw [RowsLib.add_plain]; exact (box_cell (w := W) (by rw [hW, setRow_other _ _ _ _ (by omega), hold1 g hgl]; exact hg) (hsrcB j u hj)).1) hfit2 h1B
        rw [hcur2] at h
        exact h
      have hfin : cur2.toList.take ((n + 1) * 1) = cellsS (l.take i ++ x :: l.drop i) := by
        rw [← hcur2, ← hcur1, hres, ← hRA]
        simp only [List.toList_toArray]
        exact grow_row (sz := 1) ROW.toList (encS x) (cellsS (l.drop i)) i n (encS_len x) hBl (by rw [Array.length_toList, hRs]; exact Nat.mul_le_mul_right _ hGn) hin'
      have hs2 : cur2.size = G * 1 := by
        rw [← hcur2, List.size_toArray, List.length_append, List.length_append, List.length_take, List.length_drop, Array.length_toList]
        omega
      have HEND : Aside0 (∀ W : World, W.heap = (W1.setRow w.heap.size cur1).heap → W.os = w.os → W.tape = w.tape → W.output = w.output → (W.setRow w.heap.size cur2).ownsRow base 9 1 (.slice (some ⟨w.heap.size, 0, none⟩) (n + 1) G) (n + 1) (cellsS (l.take i ++ x :: l.drop i)) ∧ w.grownBy (W.setRow w.heap.size cur2) (Value.slice (some ⟨g, 0, none⟩) n cap).ownBlock) := by
        have hw1s : W1.heap.size = w.heap.size + 1 := by rw [← hW1]; simp
        refine ⟨fun W hW ho2 ht2 hu2 => ⟨⟨?_, .inr ⟨w.heap.size, G, cur2, rfl, hb0, ?_, hGn, hGm, hs2, hfin⟩⟩, ⟨ho2, ht2, hu2, ?_, fun k hk hkg => ?_⟩⟩⟩
        · unfold cellsS; rw [cellsL_len (n := 1) encS_len, hlen]
        · exact setRow_heap W _ _ _ _ _ (by rw [hW]; exact setRow_heap W1 _ _ _ _ _ hN1)
        · rw [setRow_size, hW, setRow_size, hw1s]; exact Nat.le_succ _
        · rw [setRow_other _ _ _ _ (by omega), hW, setRow_other _ _ _ _ (by omega), hold1 k hk]
      have hWo : W1.os = w.os ∧ W1.tape = w.tape ∧ W1.output = w.output := by rw [← hW1]; exact ⟨rfl, rfl, rfl⟩
      have HZ := Aside0.mk hrz
      have H1 := Aside0.mk hcpA
      have H2 := Aside0.mk hcpB
      have HW := Aside0.mk hWo
      have hgne : g ≠ w.heap.size := by omega
      try simp only [Nat.mul_one] at H1 H2
      clear hcpA hcpB hrz hfin hs2 hs1 hfit1 hfit2 hsrcB h1B hres hCA hCB hBl hAl hN1 hold1 hcur1 hcur2 hxc hx hg htk hcs hne hnl hCL hWo hold hROW hRs hRA hG hkk hik hzl
      have hb1 : (0 : Int) ≤ (i : Int) + 1 := by omega
      have htn : ((i : Int) + 1).toNat = i + 1 := by omega
      have htn2 : ((n : Int) + 1).toNat = n + 1 := by omega
      have hGi : ¬ (G = i) := by omega
      have hGim : ¬ (G = i + 1) := by omega
      have hci : ¬ (cap = i) := by omega
      have hb3 : (i : Int) ≤ (n : Int) := by omega
      have hb4 : (i : Int) ≤ (n : Int) + 1 := by omega
      have hb6 : (i : Int) + 1 ≤ (n : Int) + 1 := by omega
      go_enter Try.func79, Try.ntmps79
      go_upto_region 10 with (at_builtin; refine Lib.wpList_append_run _ rfl _ _ _ _ rfl _ _ rfl rfl _ _ (HZ.out _) ?_)
      go_wp2_with (refine wpList_copy_runI _ rfl _ _ 42 42 rfl _ _ rfl rfl (H1.out _ (by first | rfl | simp) _ _) ?_)
      go_region_law (refine step_copy_runI rfl (.tmp 50) (.tmp 53) 42 42 rfl (.slice (some ⟨w.heap.size, i + 1, none⟩) (n - i) (G - (i + 1))) (.slice (some ⟨g, i, none⟩) (n - i) (cap - i)) (by simp [Act.eval, Act.put]) (by simp [Act.eval, Act.put]) (H2.out (World.drew _) (by first | rfl | simp) 3 (G - (i + 1)) (cap - i)) ?_)
      go_wp2_with fail
      go_ret
      have HE := HEND.out ((W1.setRow w.heap.size cur1).drew) rfl HW.out.1 HW.out.2.1 HW.out.2.2
      exact ⟨_, rfl, by rw [hlen]; exact HE.1, HE.2, fun k hk => .inr (Nat.le_of_eq (Option.some.inj hk))⟩
end Go.Proofs.Ytmocfgghccmdgaa.TrInsS

/- tree.sorted's at, over texts: the walk. -/
namespace Go.Proofs.Ytmocfgghccmdgaa.TrAtS
open Go Go.Proofs Go.RowKit Go.Proofs.YtmocfgghccmdgaaW.PrintWords Go.Proofs.Ytmocfgghccmdgaa.RowsLib Go.Proofs.Ytmocfgghccmdgaa.TrLib Go.Proofs.Ytmocfgghccmdgaa.TrCopy Go.Proofs.Ytmocfgghccmdgaa.TrAt
set_option linter.unusedVariables false
set_option linter.unusedSimpArgs false

/-- The order of texts. -/
def cmpS (a b : ByteArray) : Int := Lib.compareBytes a.data.toList b.data.toList
theorem str_calls (a b : ByteArray) (w : World) : Calls Try.prog 74 #[.string a, .string b] w fun e w' => e = .returned (.int .i64 (cmpS a b)) ∧ Below w.heap.size w w' :=
  (Try.strings_Compare a b w).mono fun e w' ⟨h1, h2⟩ => ⟨h1, by rw [h2]; exact Below.refl _ _⟩
theorem key_calls (x : ByteArray) (w : World) : Calls Try.prog 73 #[.string x] w fun e w' => e = .returned (.string x) ∧ Below w.heap.size w w' := by
  go_enter Try.func73, Try.ntmps73
  go_wp2
  go_ret
  exact ⟨rfl, Below.refl _ w⟩

structure Hold (W : World) (bx B : Nat) : Prop where
  box : W.heap[bx]? = some (.cells #[.pointer (some ⟨B, 0, none⟩)] 67 (0, 0))
  obj : ∃ v, W.heap[B]? = some (.cells #[v, .func (.func 73) #[] #[], .func (.func 74) #[] #[]] 75 (0, 0))
theorem Hold.later {W W' : World} {bx B : Nat} (h : Hold W bx B) (hb : Below W.heap.size W W') : Hold W' bx B :=
  ⟨block_later h.box hb, by obtain ⟨v, hv⟩ := h.obj; exact ⟨v, block_later hv hb⟩⟩

theorem S_of {W w' : World} {bx B : Nat} (c0 : W.cell? ⟨bx, 0, none⟩ = some (.pointer (some ⟨B, 0, none⟩))) (l0 : bx < W.heap.size) (c1 : W.cell? ⟨B, 1, none⟩ = some (.func (.func 73) #[] #[])) (c2 : W.cell? ⟨B, 2, none⟩ = some (.func (.func 74) #[] #[])) (l1 : B < W.heap.size)
    (hb : Below W.heap.size W w') :
    w'.cell? ⟨bx, 0, none⟩ = some (.pointer (some ⟨B, 0, none⟩)) ∧ w'.cell? ⟨B, 1, none⟩ = some (.func (.func 73) #[] #[]) ∧ w'.cell? ⟨B, 2, none⟩ = some (.func (.func 74) #[] #[]) ∧ Below W.heap.size W w' :=
  ⟨(hb.cell (p := ⟨bx, 0, none⟩) l0).trans c0, (hb.cell (p := ⟨B, 1, none⟩) l1).trans c1, (hb.cell (p := ⟨B, 2, none⟩) l1).trans c2, hb⟩

set_option maxHeartbeats 4000000 in
set_option maxRecDepth 100000 in
theorem cmp_calls (x k : ByteArray) (bx B : Nat) (w : World) (h : Hold w bx B) :
    Calls Try.prog 93 #[.string x, .string k, .pointer (some ⟨bx, 0, none⟩)] w fun e w' => e = .returned (.int .i64 (cmpS x k)) ∧ Below w.heap.size w w' := by
  obtain ⟨W, hW⟩ : ∃ W, w = W := ⟨_, rfl⟩
  rw [hW] at h ⊢
  obtain ⟨v, hv⟩ := h.obj
  have c0 := (box_cell (k := 0) h.box rfl).1
  have c1 := (box_cell (k := 1) hv rfl).1
  have c2 := (box_cell (k := 2) hv rfl).1
  have l0 := block_lt h.box
  have l1 := block_lt hv
  have hB : Below W.heap.size W W := Below.refl _ _
  have hBd : Below W.heap.size W W.drew := hB.drew
  have HKEY : Aside0 (∀ W' : World, Below W.heap.size W W' → Calls Try.prog 73 #[.string x] W' fun e w' => e = .returned (.string x) ∧ Below W.heap.size W w') :=
    ⟨fun W' hb => (key_calls x W').mono fun e w' ⟨h1, h2⟩ => ⟨h1, hb.trans (h2.mono hb.size)⟩⟩
  have HCMP : Aside0 (∀ W' : World, Below W.heap.size W W' → Calls Try.prog 74 #[.string x, .string k] W' fun e w' => e = .returned (.int .i64 (cmpS x k)) ∧ Below W.heap.size W w') :=
    ⟨fun W' hb => (str_calls x k W').mono fun e w' ⟨h1, h2⟩ => ⟨h1, hb.trans (h2.mono hb.size)⟩⟩
  clear h hv hW
  go_enter Try.func93, Try.ntmps93
  go_wp2_with fail
  go_region_held3 (fun w' => w'.cell? ⟨bx, 0, none⟩ = some (.pointer (some ⟨B, 0, none⟩)) ∧ w'.cell? ⟨B, 1, none⟩ = some (.func (.func 73) #[] #[]) ∧ w'.cell? ⟨B, 2, none⟩ = some (.func (.func 74) #[] #[]) ∧ Below W.heap.size W w')
    (first
      | exact S_of (v := v) c0 l0 c1 c2 l1 hB
      | exact S_of c0 l0 c1 c2 l1 hB
      | exact S_of c0 l0 c1 c2 l1 hBd
      | exact S_of c0 l0 c1 c2 l1 hbb
      | exact S_of c0 l0 c1 c2 l1 (by go_split_ands; assumption)
      | (go_split_ands; exact S_of c0 l0 c1 c2 l1 (by assumption))
      | go_keep)
    (first
      | (go_at_call 73; refine (HKEY.out _ (by first | exact hBd | (go_split_ands; assumption))).mono ?_; rintro e w' ⟨rfl, hbb⟩)
      | (go_at_call 74; refine (HCMP.out _ (by first | exact hBd | (go_split_ands; assumption))).mono ?_; rintro e w' ⟨rfl, hbb⟩))
  go_wp2_with fail
  go_ret
  exact ⟨rfl, hbb⟩

/-- A row of texts, read. -/
theorem own_CS {w : World} {base : Nat} {v : Value} {l : List ByteArray} (h : w.ownsRow base 9 1 v l.length (cellsS l)) : ∃ A c, v = .slice A l.length c ∧ l.length ≤ c ∧ Kd.C Kd.string w A l.length l :=
  Kd.R_reads (RowsLib.R_of (f := encS) (n := 1) (d := Kd.string) encS_len rfl (fun ok x => rfl) h (Nat.le_refl _))
theorem at_S {w : World} {A : Option Addr} {l : List ByteArray} (h : Kd.C Kd.string w A l.length l) {i : Nat} (hi : i < l.length) : ∃ ad, A = some ad ∧ w.cell? (ad.add i) = some (.string l[i]) := by
  obtain ⟨ad, e, hc⟩ := Kd.at_string h (i : Int) (by omega) (by omega)
  rw [Int.toNat_natCast, BytesLib.rdOf_get _ hi] at hc
  exact ⟨ad, e, hc⟩

def atIS (l : List ByteArray) (k : ByteArray) : Nat := bs (fun i => decide (cmpS (l.getD i ⟨#[]⟩) k < 0)) (l.length + 1) 0 l.length
def atS (l : List ByteArray) (k : ByteArray) : Nat × Bool := (atIS l k, decide (atIS l k < l.length) && decide (cmpS (l.getD (atIS l k) ⟨#[]⟩) k = 0))
theorem atIS_le (l : List ByteArray) (k : ByteArray) : atIS l k ≤ l.length := (bs_le _ _ _ _ (Nat.zero_le _)).1
def pS (l : List ByteArray) (k : ByteArray) (i : Nat) : Bool := decide (cmpS (l.getD i ⟨#[]⟩) k < 0)
theorem pS_at {l : List ByteArray} {k : ByteArray} {i : Nat} (h : i < l.length) : pS l k i = decide (cmpS l[i] k < 0) := by
  unfold pS
  simp [List.getD, List.getElem?_eq_getElem h]
theorem atIS_bs (l : List ByteArray) (k : ByteArray) : ∀ n, l.length - 0 ≤ n → bs (pS l k) n 0 l.length = atIS l k := fun n hn => bs_more (pS l k) n (l.length + 1) 0 l.length hn (by omega) (Nat.zero_le _)

set_option maxHeartbeats 4000000 in
set_option maxRecDepth 100000 in
theorem bin_calls (l : List ByteArray) (k : ByteArray) (bx B : Nat) (A : Option Addr) (c : Nat) (w : World) (hr : Kd.C Kd.string w A l.length l) (hl : l.length ≤ 4611686018427387000) (h : Hold w bx B) :
    Calls Try.prog 92 #[.slice A l.length c, .string k, .func (.func 93) #[] #[.pointer (some ⟨bx, 0, none⟩)]] w
      fun e w' => e = .returned (.tuple #[.int .i64 (atS l k).1, .bool (atS l k).2]) ∧ Below w.heap.size w w' := by
  have HR := Aside0.mk hr
  have H := Aside0.mk h
  have HCMP : Aside0 (∀ (W' : World) (x : ByteArray), Below w.heap.size w W' → Calls Try.prog 93 #[.string x, .string k, .pointer (some ⟨bx, 0, none⟩)] W' fun e w' => e = .returned (.int .i64 (cmpS x k)) ∧ Below w.heap.size w w') :=
    ⟨fun W' x hb => (cmp_calls x k bx B W' (h.later hb)).mono fun e w' ⟨h1, h2⟩ => ⟨h1, hb.trans (h2.mono hb.size)⟩⟩
  have HAT : Aside0 (∀ n, l.length - 0 ≤ n → bs (pS l k) n 0 l.length = atIS l k) := ⟨atIS_bs l k⟩
  have HFIN : Aside0 ((atS l k).2 = (decide (atIS l k < l.length) && decide (cmpS (l.getD (atIS l k) ⟨#[]⟩) k = 0))) := ⟨rfl⟩
  have HFI1 : Aside0 ((atS l k).1 = atIS l k) := ⟨rfl⟩
  obtain ⟨r, hrr⟩ : ∃ r, atS l k = r := ⟨_, rfl⟩
  rw [hrr] at HFIN HFI1 ⊢
  obtain ⟨r1, r2⟩ := r
  simp only at HFIN HFI1 ⊢
  clear hr h hrr
  go_enter Try.func92, Try.ntmps92
  go_wp2
  go_loopg [9, 10] l.length (fun kx s9 s10 wr => ∃ lo hi : Nat, s9 = .int .i64 lo ∧ s10 = .int .i64 hi ∧ lo ≤ hi ∧ hi ≤ l.length ∧ hi - lo ≤ kx ∧ Aside0 (Below w.heap.size w wr) ∧ Aside0 (∀ n, hi - lo ≤ n → bs (pS l k) n lo hi = atIS l k))
  case atStart => exact ⟨0, l.length, rfl, rfl, Nat.zero_le _, Nat.le_refl _, by omega, ⟨Below.refl _ _⟩, HAT⟩
  case round =>
    obtain ⟨lo, hi, rfl, rfl, hlh, hin, hg, BW, I⟩ := hrel
    by_cases hlt : lo < hi
    · have hm : (lo + hi) / 2 < l.length := by omega
      obtain ⟨ad, hA, q0⟩ := at_S (Kd.C_below HR.out BW.out) hm
      obtain rfl := hA
      have hP := pS_at (k := k) hm
      have hC := HCMP.out wr l[(lo + hi) / 2] BW.out
      obtain ⟨x, hxx⟩ : ∃ x, l[(lo + hi) / 2] = x := ⟨_, rfl⟩
      rw [hxx] at q0 hC hP
      have HPA := Aside0.mk hP
      clear hP hxx
      by_cases hyx : cmpS x k < 0
      · have hup := Aside0.mk (bs_up hlt I.out (HPA.out.trans (decide_eq_true hyx)))
        clear I HPA
        go_wp2_with (go_at_call 93; refine hC.mono ?_; rintro e w' ⟨rfl, hb'⟩)
        go_roundg (hi - ((lo + hi) / 2 + 1))
        case measure => omega
        case rel => exact ⟨(lo + hi) / 2 + 1, hi, by rw [show ((lo : Int) + (hi : Int)) / 2 + 1 = (((lo + hi) / 2 + 1 : Nat) : Int) by omega], rfl, by omega, hin, Nat.le_refl _, ⟨hb'⟩, hup⟩
      · have hdn := Aside0.mk (bs_dn hlt I.out (HPA.out.trans (decide_eq_false hyx)))
        clear I HPA
        go_wp2_with (go_at_call 93; refine hC.mono ?_; rintro e w' ⟨rfl, hb'⟩)
        go_roundg ((lo + hi) / 2 - lo)
        case measure => omega
        case rel => exact ⟨lo, (lo + hi) / 2, rfl, by rw [show ((lo : Int) + (hi : Int)) / 2 = (((lo + hi) / 2 : Nat) : Int) by omega], by omega, by omega, Nat.le_refl _, ⟨hb'⟩, hdn⟩
    · obtain rfl : hi = lo := by omega
      have e0 : atIS l k = hi := by
        rw [← I.out 0 (by omega)]; rfl
      have F2 := HFIN.out
      have F1 := HFI1.out
      rw [e0] at F2 F1
      subst F1
      have HF := Aside0.mk F2
      clear F2 I HFIN HFI1 HAT e0
      by_cases hn : r1 < l.length
      · obtain ⟨ad, hA, q0⟩ := at_S (Kd.C_below HR.out BW.out) hn
        obtain rfl := hA
        have hC := HCMP.out wr l[r1] BW.out
        have hgd : l.getD r1 ⟨#[]⟩ = l[r1] := by simp [List.getD, List.getElem?_eq_getElem hn]
        have F3 := HF.out
        rw [hgd, decide_eq_true hn, Bool.true_and] at F3
        obtain ⟨x, hxx⟩ : ∃ x, l[r1] = x := ⟨_, rfl⟩
        rw [hxx] at q0 hC F3
        have HF3 := Aside0.mk F3
        clear hxx hgd F3 HF
        by_cases hyx : cmpS x k = 0
        · have HF4 := Aside0.mk (HF3.out.trans (decide_eq_true hyx))
          clear HF3
          go_wp2_with (go_at_call 93; refine hC.mono ?_; rintro e w' ⟨rfl, hb'⟩)
          go_ret2
          exact ⟨by rw [HF4.out]; simp [hyx], hb'⟩
        · have HF4 := Aside0.mk (HF3.out.trans (decide_eq_false hyx))
          clear HF3
          go_wp2_with (go_at_call 93; refine hC.mono ?_; rintro e w' ⟨rfl, hb'⟩)
          go_ret2
          exact ⟨by rw [HF4.out]; simp [hyx], hb'⟩
      · have F3 := HF.out
        rw [decide_eq_false hn, Bool.false_and] at F3
        have HF3 := Aside0.mk F3
        clear F3 HF
        go_wp2
        go_ret2
        exact ⟨by rw [HF3.out]; try simp [hn], BW.out⟩

/-- A list in an order: its texts in a row of the call's own. -/
def Ss (w : World) (base B : Nat) (l : List ByteArray) : Prop := ∃ v, w.heap[B]? = some (.cells #[v, .func (.func 73) #[] #[], .func (.func 74) #[] #[]] 75 (0, 0)) ∧ w.ownsRow base 9 1 v l.length (cellsS l) ∧ base ≤ B
theorem Ss.lt {w : World} {base B : Nat} {l : List ByteArray} (h : Ss w base B l) : B < w.heap.size := by
  obtain ⟨v, h1, _⟩ := h
  exact block_lt h1
theorem Ss.later {w w1 : World} {base B : Nat} {l : List ByteArray} (h : Ss w base B l) (hb : Below w.heap.size w w1) : Ss w1 base B l := by
  obtain ⟨v, h1, h2, h3⟩ := h
  exact ⟨v, block_later h1 hb, own_later h2 hb, h3⟩

set_option maxHeartbeats 4000000 in
set_option maxRecDepth 100000 in
theorem at_calls (base B : Nat) (l : List ByteArray) (k : ByteArray) (hl : l.length ≤ 4611686018427387000) (w : World) (h : Ss w base B l) :
    Calls Try.prog 78 #[.pointer (some ⟨B, 0, none⟩), .string k] w fun e w' => e = .returned (.tuple #[.int .i64 (atS l k).1, .bool (atS l k).2]) ∧ Below w.heap.size w w' := by
  have b0 : Below w.heap.size w (w.alloc (.cells #[.pointer (some ⟨B, 0, none⟩)] 67)) := (Below.refl _ w).alloc (Nat.le_refl _) _
  have h1 := h.later b0
  obtain ⟨v, hv, ho, hB⟩ := h1
  obtain ⟨A, c, rfl, hlc, hC⟩ := own_CS ho
  have hbx : (w.alloc (.cells #[.pointer (some ⟨B, 0, none⟩)] 67)).heap[w.heap.size]? = some (.cells #[.pointer (some ⟨B, 0, none⟩)] 67 (0, 0)) := heap_alloc_new w _
  have HBIN := Aside0.mk (bin_calls l k w.heap.size B A c _ hC hl ⟨hbx, _, hv⟩)
  have c0 := (box_cell (k := 0) hv rfl).1
  have c1 := (box_cell (k := 0) hbx rfl).1
  have B0 := Aside0.mk b0
  obtain ⟨W, hW⟩ : ∃ W, w.alloc (.cells #[.pointer (some ⟨B, 0, none⟩)] 67) = W := ⟨_, rfl⟩
  have hne : B ≠ w.heap.size := by have := h.lt; omega
  clear h ho hC hbx b0
  go_enter Try.func78, Try.ntmps78
  go_upto_region 1 with fail
  rw [hW] at HBIN c0 c1 B0 hv
  try rw [hW]
  clear hv hW
  go_wp2_with fail
  refine HBIN.out.mono ?_
  rintro e w1 ⟨rfl, hb1⟩
  have HB1 := Aside0.mk (B0.out.trans (hb1.mono B0.out.size))
  clear hb1 HBIN
  go_wp2_with fail
  go_ret2
  exact ⟨rfl, HB1.out⟩
end Go.Proofs.Ytmocfgghccmdgaa.TrAtS
