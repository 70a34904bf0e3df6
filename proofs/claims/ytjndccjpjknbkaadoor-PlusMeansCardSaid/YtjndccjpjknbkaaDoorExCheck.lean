/- expr.Check: the walk. The conditions: the machine's sizes. -/
import Derived.Test.YtjndccjpjknbkaaDoorExNode
import Derived.Test.YtjndccjpjknbkaaDoorExTag
import Derived.Test.YtjndccjpjknbkaaDoorWEqStruct
import Derived.Test.YtjndccjpjknbkaaDoorWMore
import Derived.Deep.LoopGhost
import Derived.Deep.QuietTactic
import Derived.BigQuiet
import Derived.Deep.DeepCutAuto
import Derived.Deep.RegionLaw
import Derived.Deep.DrawnRows
import Derived.Deep.RegionHeld3
import Derived.Deep.AppendLies
namespace Go.Proofs.YtjndccjpjknbkaaDoor.ExCheck
open Go Go.Proofs Go.RowKit Go.Proofs.YtjndccjpjknbkaaDoorW.PrintWords Go.Proofs.YtjndccjpjknbkaaDoor.BytesLib Go.Proofs.YtjndccjpjknbkaaDoor.ExLib Go.Proofs.YtjndccjpjknbkaaDoor.RowsLib Go.Proofs.YtjndccjpjknbkaaDoor.ExNode Go.Proofs.YtjndccjpjknbkaaDoor.ExTag
set_option linter.unusedVariables false
set_option linter.unusedSimpArgs false
open Go.Proofs.YtjndccjpjknbkaaDoorW.PrintMore in
attribute [local go_sem] max2_int min2_int max_two min_two
attribute [local go_sem ↓] Go.wp_at_zero Go.wp_at_succ

/-- How many nodes a node names. -/
def namesF (k : Int) : Int := if 0 < (if 2 < k then 2 else k) then (if 2 < k then 2 else k) else 0
/-- A node that may not be, whatever it names. -/
def badF (o : List Int) (n : Nd) : Bool := decide (n.kind < 0) || decide (3 < n.kind) || decide ((o.length : Int) - namesF n.kind < 0) || ((n.kind == 0) != tagOk n.tag) || (decide (0 < n.kind) && !n.tag.toList.isEmpty)
/-- The places of open nodes and their depths, one node on. -/
def stepC (o d : List Int) (i : Int) (n : Nd) : Option (List Int × List Int) :=
  if badF o n = true then none
  else if n.a = (if 1 ≤ namesF n.kind then o.getD (o.length - (namesF n.kind).toNat) 0 else 0) ∧ n.b = (if namesF n.kind = 2 then o.getD (o.length - (namesF n.kind).toNat + 1) 0 else 0) then
    some (o.take (o.length - (namesF n.kind).toNat) ++ [i], d.take (o.length - (namesF n.kind).toNat) ++ [if 1 ≤ namesF n.kind then 1 + Lib.maxOf (d.drop (o.length - (namesF n.kind).toNat)) else 1])
  else none
def goC : List Nd → Int → List Int → List Int → Int
  | [], _, o, d => if o.length = 1 ∧ d.getD 0 0 ≤ 40 then 0 else 120
  | n :: r, i, o, d => match stepC o d i n with
    | none => 120
    | some (o', d') => goC r (i + 1) o' d'
def checkF (l : List Nd) : Int := if 60 < l.length then 120 else goC l 0 [] []

theorem step_bad {o d : List Int} {i : Int} {n : Nd} (h : badF o n = true) : stepC o d i n = none := by unfold stepC; exact if_pos h
theorem bad_neg {o : List Int} {n : Nd} (h : n.kind < 0) : badF o n = true := by
  unfold badF; simp only [decide_eq_true h, Bool.true_or]
theorem bad_big {o : List Int} {n : Nd} (h : 3 < n.kind) : badF o n = true := by
  unfold badF; simp only [decide_eq_true h, Bool.true_or, Bool.or_true]
theorem bad_few {o : List Int} {n : Nd} (h : (o.length : Int) - namesF n.kind < 0) : badF o n = true := by
  unfold badF; simp only [decide_eq_true h, Bool.true_or, Bool.or_true]
theorem bad_tag0 {o : List Int} {n : Nd} (h : n.kind = 0) (ht : tagOk n.tag = false) : badF o n = true := by
  have e : (n.kind == 0) = true := by rw [beq_iff_eq]; exact h
  unfold badF; simp only [e, ht, bne, Bool.true_or, Bool.or_true, show (true == false) = false from rfl, Bool.not_false]
theorem bad_tag1 {o : List Int} {n : Nd} (h : 0 < n.kind) (ht : tagOk n.tag = true) : badF o n = true := by
  have e : (n.kind == 0) = false := by rw [beq_eq_false_iff_ne]; omega
  unfold badF; simp only [e, ht, bne, Bool.true_or, Bool.or_true, show (false == true) = false from rfl, Bool.not_false]
theorem bad_lbl {o : List Int} {n : Nd} (h : 0 < n.kind) (ht : n.tag.toList.isEmpty = false) : badF o n = true := by
  unfold badF; simp only [decide_eq_true h, ht, Bool.true_or, Bool.or_true, Bool.not_false, Bool.and_true]

theorem infoI : (Tryd.prog.info? 3).map (fun i => (i.zero, i.size, i.bytes)) = some (some (.int .i64 0), 1, 8) := by kernel_rfl

/-- Whole numbers' cells. -/
def cI (l : List Int) : List Value := l.map (Value.int .i64)

theorem shapeI {w : World} {base : Nat} {v : Value} {xs : List Int} (h : w.ownsRow base 3 1 v xs.length (cI xs)) : ∃ A c, v = .slice A xs.length c ∧ xs.length ≤ c ∧ c ≤ maxLen ∧
    (0 < xs.length → ∃ g, A = some ⟨g, 0, none⟩ ∧ ∀ j, j < xs.length → w.cell? ⟨g, j, none⟩ = some (.int .i64 (xs.getD j 0))) := by
  rcases h.2 with ⟨rfl, h0⟩ | ⟨g, cap, cur, rfl, hbg, hb, h1, h2, h3, h4⟩
  · refine ⟨none, 0, by rw [h0], by omega, Nat.zero_le _, fun hp => by omega⟩
  · refine ⟨some ⟨g, 0, none⟩, cap, rfl, h1, h2, fun _ => ⟨g, rfl, fun j hj => ?_⟩⟩
    have e1 : (cur.toList.take (xs.length * 1))[j]? = (cI xs)[j]? := by rw [h4]
    rw [List.getElem?_take, if_pos (by omega), Array.getElem?_toList] at e1
    simp only [World.cell?, hb]
    simp only [Option.isSome_none, Bool.false_eq_true, if_false]
    rw [e1]
    simp [cI, hj]


theorem bad_no {o : List Int} {n : Nd} (h0 : 0 ≤ n.kind) (h3 : n.kind ≤ 3) (hf : ¬ (o.length : Int) - namesF n.kind < 0) (ht : (n.kind == 0) = tagOk n.tag) (hl : 0 < n.kind → n.tag.toList.isEmpty = true) : badF o n = false := by
  have a1 : decide (n.kind < 0) = false := decide_eq_false (by omega)
  have a2 : decide (3 < n.kind) = false := decide_eq_false (by omega)
  have a3 : decide ((o.length : Int) - namesF n.kind < 0) = false := decide_eq_false hf
  have a5 : (decide (0 < n.kind) && !n.tag.toList.isEmpty) = false := by
    by_cases h : 0 < n.kind
    · rw [hl h]; simp
    · rw [decide_eq_false h]; rfl
  unfold badF
  rw [a1, a2, a3, a5, ht]
  simp

theorem eqAN (d : Nat) (w : World) (x y : Nd) :
    (Op.equalIn (d + 2) 52 (.agg #[.int .i64 x.kind, .string x.tag, .int .i64 x.a, .int .i64 x.b]) (.agg #[.int .i64 y.kind, .string y.tag, .int .i64 y.a, .int .i64 y.b])).run Tryd.prog w = .ok (x.kind == y.kind && (x.tag.toList == y.tag.toList && (x.a == y.a && (x.b == y.b)))) w := by
  refine eqA_of Tryd.underlying52 (by kernel_rfl) ?_
  refine eqf_cons (by rfl) (by go_simp; rfl) (by go_simp; rfl) (by go_simp) ?_
  refine eqf_cons (by rfl) (by go_simp; rfl) (by go_simp; rfl) (by go_simp) ?_
  refine eqf_cons (by rfl) (by go_simp; rfl) (by go_simp; rfl) (by go_simp) ?_
  exact eqf_last (by rfl) (by go_simp; rfl) (by go_simp; rfl) (by go_simp)
theorem nd_eq (x y : Nd) : (x.kind == y.kind && (x.tag.toList == y.tag.toList && (x.a == y.a && (x.b == y.b)))) = decide (x = y) := by
  obtain ⟨k, t, a, b⟩ := x
  obtain ⟨k', t', a', b'⟩ := y
  simp only [Nd.mk.injEq]
  have ht : (t.toList == t'.toList) = decide (t = t') := by
    by_cases h : t = t'
    · subst h; simp
    · rw [decide_eq_false h, beq_eq_false_iff_ne]
      intro e
      exact h (L_inj (by rw [← toList_L, ← toList_L]; exact e))
  rw [ht]
  rw [Bool.eq_iff_iff]
  simp only [Bool.and_eq_true, beq_iff_eq, decide_eq_true_eq]
theorem neqN (w : World) (x y : Nd) :
    (binOp .neq 52 (.agg #[.int .i64 x.kind, .string x.tag, .int .i64 x.a, .int .i64 x.b]) (.agg #[.int .i64 y.kind, .string y.tag, .int .i64 y.a, .int .i64 y.b])).run Tryd.prog w = .ok (.bool (!decide (x = y))) w := by
  have h := eqAN 9998 w x y
  rw [nd_eq] at h
  simp [binOp, Op.equal, Op.maxDepth, h]

/-- A row that is cut short. -/
theorem own_take {w : World} {base : Nat} {e : TypeId} {A : Option Addr} {n c m : Nat} {l : List Int} (h : w.ownsRow base e 1 (.slice A n c) n (cI l)) (hm : m ≤ n) : w.ownsRow base e 1 (.slice A m c) m (cI (l.take m)) := by
  obtain ⟨hl, h⟩ := h
  have hl2 : l.length = n := by simpa [cI] using hl
  refine ⟨by simp [cI]; omega, ?_⟩
  rcases h with ⟨h0, h1⟩ | ⟨g, cap, cur, h0, hb, hh, h1, h2, h3, h4⟩
  · injection h0 with e1 e2 e3
    subst e1 e3
    obtain rfl : m = 0 := by omega
    exact .inl ⟨rfl, rfl⟩
  · injection h0 with e1 e2 e3
    subst e1 e3
    refine .inr ⟨g, c, cur, rfl, hb, hh, by omega, h2, h3, ?_⟩
    have : cur.toList.take (m * 1) = (cur.toList.take (n * 1)).take (m * 1) := by rw [List.take_take, Nat.min_eq_left (by omega)]
    rw [this, h4]
    simp [cI, List.map_take]

/-- One of two rows apart is appended to: the other one stays, and lies apart from the new one. -/
theorem app_keep {w w1 : World} {base : Nat} {e : TypeId} {size na nb : Nat} {va vb : Value} {xa xb : List Value} {g : Nat} (ha : w.ownsRow base e size va na xa) (hb : w.ownsRow base e size vb nb xb) (hs : ∀ k, va.ownBlock = some k → vb.ownBlock ≠ some k)
    (hg : w.grownBy w1 va.ownBlock) (hat : va.ownBlock = some g ∨ g = w.heap.size) : w1.ownsRow base e size vb nb xb ∧ vb.ownBlock ≠ some g := by
  refine ⟨own_move hb fun k hk => hg.block k (hb.lt k hk).2 (fun h => hs k h.symm hk), fun h => ?_⟩
  rcases hat with h1 | h1
  · exact hs g h1 h
  · have := (hb.lt g h).2; omega

theorem maxOf_mem : ∀ (l : List Int) (a : Int), l.foldl max a = a ∨ l.foldl max a ∈ l
  | [], a => .inl rfl
  | b :: l, a => by
    rw [List.foldl_cons]
    rcases maxOf_mem l (max a b) with h | h
    · rw [h]
      rcases Int.le_total a b with h1 | h1
      · right; rw [Int.max_eq_right h1]; exact List.mem_cons_self
      · left; rw [Int.max_eq_left h1]
    · right; exact List.mem_cons_of_mem _ h
theorem maxOf_in {l : List Int} (h : 0 < l.length) : Lib.maxOf l ∈ l := by
  unfold Lib.maxOf
  cases l with
  | nil => simp at h
  | cons a r =>
    rcases maxOf_mem (a :: r) ((a :: r).headD 0) with h1 | h1
    · rw [h1]; simp
    · exact h1

/-- The depth of a node over the depths of those that it names. -/
def depF (nm : Nat) (d : List Int) : Int := if 1 ≤ nm then 1 + Lib.maxOf d else 1
def aF (nm : Nat) (o : List Int) (K : Nat) : Int := if 1 ≤ nm then o.getD K 0 else 0
def bF (nm : Nat) (o : List Int) (K : Nat) : Int := if nm = 2 then o.getD (K + 1) 0 else 0
theorem step_good {o d : List Int} {i : Int} {n : Nd} {nm K : Nat} (hb : badF o n = false) (hn : namesF n.kind = (nm : Int)) (hK : (o.length : Int) - (nm : Int) = (K : Int)) :
    stepC o d i n = if n = ⟨n.kind, n.tag, aF nm o K, bF nm o K⟩ then some (o.take K ++ [i], d.take K ++ [depF nm (d.drop K)]) else none := by
  have e1 : o.length - (namesF n.kind).toNat = K := by rw [hn]; omega
  have e2 : (1 ≤ namesF n.kind) = (1 ≤ nm) := by rw [hn, eq_iff_iff]; omega
  have e3 : (namesF n.kind = 2) = (nm = 2) := by rw [hn, eq_iff_iff]; omega
  unfold stepC
  rw [hb, if_neg Bool.false_ne_true, e1]
  simp only [e2, e3]
  have e4 : (n = ⟨n.kind, n.tag, aF nm o K, bF nm o K⟩) = (n.a = (if 1 ≤ nm then o.getD K 0 else 0) ∧ n.b = (if nm = 2 then o.getD (K + 1) 0 else 0)) := by
    obtain ⟨k, t, a, b⟩ := n
    simp only [Nd.mk.injEq, true_and, aF, bF]
  simp only [e4]
  rfl

theorem max_own {w : World} {g K c : Nat} {dd : List Int} (hK : K < dd.length) (hb : dd.length ≤ 9223372036854775807) (hc : ∀ j, j < dd.length → w.cell? ⟨g, j, none⟩ = some (.int .i64 (dd.getD j 0))) :
    Calls Tryd.prog 36 #[.slice (some ⟨g, K, none⟩) (dd.length - K) c] w fun e w' => e = .returned (.int .i64 (Lib.maxOf (dd.drop K))) ∧ w' = w := by
  have hl : (dd.drop K).length = dd.length - K := List.length_drop
  have h := Tryd.slices_Max_int g K (dd.length - K) c (dd.drop K) w (by omega) (by omega) (by omega) (fun j hj => by
    rw [hc (K + j) (by omega)]
    simp [List.getD, List.getElem?_drop])
  rw [← hl, List.take_length] at h
  rw [← hl]
  exact h
theorem max_bd {dd : List Int} {K : Nat} {b : Int} (hK : K < dd.length) (h : ∀ y ∈ dd, 0 ≤ y ∧ y ≤ b) : 0 ≤ Lib.maxOf (dd.drop K) ∧ Lib.maxOf (dd.drop K) ≤ b :=
  h _ (List.mem_of_mem_drop (maxOf_in (by rw [List.length_drop]; omega)))
theorem box_set {w : World} {B k : Nat} {cs : Array Value} {T : TypeId} (h : w.heap[B]? = some (.cells cs T (0, 0))) (x : Value) : (w.setCell ⟨B, k, none⟩ x).heap[B]? = some (.cells (cs.setIfInBounds k x) T (0, 0)) := set_heap w B k cs T x h

/-- Two rows of whole numbers, apart, of the call's own. -/
structure St (w0 : World) (v1 v2 : Value) (n1 n2 : Nat) (l1 l2 : List Int) (W : World) : Prop where
  o1 : W.ownsRow w0.heap.size 3 1 v1 n1 (cI l1)
  o2 : W.ownsRow w0.heap.size 3 1 v2 n2 (cI l2)
  sp : ∀ b, v1.ownBlock = some b → v2.ownBlock ≠ some b
  bl : Below w0.heap.size w0 W
theorem St.drew {w0 W : World} {v1 v2 : Value} {n1 n2 : Nat} {l1 l2 : List Int} (h : St w0 v1 v2 n1 n2 l1 l2 W) : St w0 v1 v2 n1 n2 l1 l2 W.drew :=
  ⟨own_later h.o1 (Below.refl _ _).drew, own_later h.o2 (Below.refl _ _).drew, h.sp, h.bl.drew⟩
theorem St.alloc {w0 W : World} {v1 v2 : Value} {n1 n2 : Nat} {l1 l2 : List Int} (h : St w0 v1 v2 n1 n2 l1 l2 W) (o : Obj) : St w0 v1 v2 n1 n2 l1 l2 (W.alloc o) :=
  ⟨h.o1.alloc o, h.o2.alloc o, h.sp, h.bl.alloc h.bl.size o⟩
theorem St.app1 {w0 W w1 : World} {v1 v2 : Value} {n1 n2 g cap : Nat} {l1 l2 : List Int} {x : Int} (h : St w0 v1 v2 n1 n2 l1 l2 W)
    (ho : w1.ownsRow w0.heap.size 3 1 (.slice (some ⟨g, 0, none⟩) (n1 + 1) cap) (n1 + 1) (cI l1 ++ [.int .i64 x])) (hg : W.grownBy w1 v1.ownBlock) (hat : v1.ownBlock = some g ∨ g = W.heap.size) :
    St w0 (.slice (some ⟨g, 0, none⟩) (n1 + 1) cap) v2 (n1 + 1) n2 (l1 ++ [x]) l2 w1 := by
  obtain ⟨k1, k2⟩ := app_keep h.o1 h.o2 h.sp hg hat
  refine ⟨by unfold cI at ho ⊢; rw [List.map_append]; exact ho, k1, fun b hb => ?_, h.bl.grown hg h.bl.size (fun k hk => (h.o1.lt k hk).1)⟩
  have : g = b := by simpa [Value.ownBlock] using hb
  subst this
  exact k2
theorem St.app2 {w0 W w1 : World} {v1 v2 : Value} {n1 n2 g cap : Nat} {l1 l2 : List Int} {x : Int} (h : St w0 v1 v2 n1 n2 l1 l2 W)
    (ho : w1.ownsRow w0.heap.size 3 1 (.slice (some ⟨g, 0, none⟩) (n2 + 1) cap) (n2 + 1) (cI l2 ++ [.int .i64 x])) (hg : W.grownBy w1 v2.ownBlock) (hat : v2.ownBlock = some g ∨ g = W.heap.size) :
    St w0 v1 (.slice (some ⟨g, 0, none⟩) (n2 + 1) cap) n1 (n2 + 1) l1 (l2 ++ [x]) w1 := by
  obtain ⟨k1, k2⟩ := app_keep h.o2 h.o1 (fun k hk h1 => h.sp k h1 hk) hg hat
  refine ⟨k1, by unfold cI at ho ⊢; rw [List.map_append]; exact ho, fun b hb hb2 => ?_, h.bl.grown hg h.bl.size (fun k hk => (h.o2.lt k hk).1)⟩
  have : g = b := by simpa [Value.ownBlock] using hb2
  subst this
  exact k2 hb
theorem news_one {w : World} {b : Nat} {x : Value} (h : w.cell? ⟨b, 0, none⟩ = some x) : ∀ j u, [x][j]? = some u → w.cell? ((⟨b, 0, none⟩ : Addr).add j) = some u := by
  intro j u hu
  match j, hu with
  | 0, hu =>
    have : x = u := by simpa using hu
    subst this
    rw [RowsLib.add_plain]
    exact h
/-- A new cell stays, where an elder row is appended to. -/
theorem St.far1 {w0 W w1 wb : World} {v1 v2 : Value} {n1 n2 : Nat} {l1 l2 : List Int} (h : St w0 v1 v2 n1 n2 l1 l2 wb) (hg : W.grownBy w1 v1.ownBlock) {b : Nat} (hb : wb.heap.size ≤ b) {x : Value} (hx : W.cell? ⟨b, 0, none⟩ = some x) : w1.cell? ⟨b, 0, none⟩ = some x :=
  (hg.cell_far ⟨b, 0, none⟩ (World.block_lt_of_cell? W _ hx) (fun e => by have := (h.o1.lt b e.symm).2; omega)).trans hx
theorem sep_cut {A D : Option Addr} {n m K c d : Nat} (h : ∀ b, (Value.slice A n c).ownBlock = some b → (Value.slice D m d).ownBlock ≠ some b) : ∀ b, (Value.slice A K c).ownBlock = some b → (Value.slice D K d).ownBlock ≠ some b := by
  cases A <;> cases D <;> exact h
theorem dep_bd {dd : List Int} {K nm k : Nat} {dv : Int} (h : ∀ y ∈ dd, 0 ≤ y ∧ y ≤ (k : Int) + 1) (hK : K + nm ≤ dd.length) (hd : depF nm (dd.drop K) = dv) : ∀ y ∈ dd.take K ++ [dv], 0 ≤ y ∧ y ≤ ((k + 1 : Nat) : Int) + 1 := by
  intro y hy
  rcases List.mem_append.1 hy with h1 | h1
  · have := h y (List.mem_of_mem_take h1)
    omega
  · rw [List.mem_singleton] at h1
    subst h1
    rw [← hd]
    unfold depF
    split
    · have := max_bd (show K < dd.length from by omega) h
      omega
    · omega
theorem cutI {P Q : Prop} (h : P) (k : Aside0 P → Q) : Q := k ⟨h⟩
set_option maxRecDepth 100000 in
set_option maxHeartbeats 40000000 in
theorem Check_calls {α : Type} (d : Kd α) (hsz : d.sz = 4) (enc : α → Nd) (hK : ∀ {w x cs}, d.K w x cs → cs = encN (enc x)) (A : Option Addr) (c : Nat) (l : List α) (w : World) (hr : Kd.C d w A l.length l)
    (htag : ∀ x ∈ l, (enc x).tag.size ≤ 4611686018427387904) :
    Calls Tryd.prog 14 #[.slice A l.length c] w fun e w' => e = .returned (.int .i64 (checkF (l.map enc))) ∧ Below w.heap.size w w' := by
  obtain ⟨i0, hi, hz0, hz1, hz2⟩ := info_parts infoI
  have HR := Aside0.mk hr
  have hmax := Kd.C_max hr
  clear hr
  by_cases h60 : 60 < l.length
  · have hF : checkF (l.map enc) = 120 := by unfold checkF; rw [if_pos (by simpa using h60)]
    rw [hF]
    have h60' : (60 : Int) < (l.length : Int) := by omega
    go_enter Tryd.func14, Tryd.ntmps14
    go_wp2_with fail
    go_ret
    exact ⟨rfl, Below.refl _ _⟩
  · have hF : checkF (l.map enc) = goC (l.map enc) 0 [] [] := by unfold checkF; rw [if_neg (by simpa using h60)]
    have h60' : ¬ (60 : Int) < (l.length : Int) := by omega
    have HF := Aside0.mk hF
    clear hF
    go_enter Tryd.func14, Tryd.ntmps14
    go_wp2_with fail
    go_loopg [3, 4, 16] l.length (fun gg s3 s4 s16 wr => ∃ (k : Nat) (o dd : List Int), k ≤ l.length ∧ l.length - k ≤ gg ∧ s16 = .int .i64 k ∧ o.length = dd.length ∧ o.length ≤ k ∧ (∀ y ∈ dd, 0 ≤ y ∧ y ≤ (k : Int) + 1) ∧
      Aside0 (goC ((l.drop k).map enc) k o dd = checkF (l.map enc)) ∧ Aside0 (wr.ownsRow w.heap.size 3 1 s3 o.length (cI o)) ∧ Aside0 (wr.ownsRow w.heap.size 3 1 s4 dd.length (cI dd)) ∧
      Aside0 (∀ b, s3.ownBlock = some b → s4.ownBlock ≠ some b) ∧ Aside0 (Below w.heap.size w wr))
    case atStart => exact ⟨0, [], [], Nat.zero_le _, by omega, rfl, rfl, Nat.zero_le _, by simp, ⟨HF.out.symm⟩, ⟨⟨rfl, .inl ⟨rfl, rfl⟩⟩⟩, ⟨⟨rfl, .inl ⟨rfl, rfl⟩⟩⟩, ⟨by simp [Value.ownBlock]⟩, ⟨Below.refl _ w⟩⟩
    case round =>
      obtain ⟨k, o, dd, hk, hg, rfl, hod, hok, hdd, HG, HO, HD, HS, BW⟩ := hrel
      by_cases hlt : k < l.length
      · obtain ⟨ad, cs, rfl, hcl, hk4, hc⟩ := Kd.C_get (Kd.C_below HR.out BW.out) (l[k]) (k : Int) (by omega) (by omega)
        rw [hsz] at hcl hc
        have hgd : l.getD (k : Int).toNat l[k] = l[k] := by
          simp [List.getD, List.getElem?_eq_getElem hlt]
        rw [hgd] at hk4
        rw [hK hk4] at hc
        simp only [Int.toNat_natCast] at hc
        have hG := HG.out
        rw [List.drop_eq_getElem_cons hlt, List.map_cons] at hG
        have htg := htag l[k] (List.getElem_mem hlt)
        obtain ⟨n, hn⟩ : ∃ n, enc l[k] = n := ⟨_, rfl⟩
        rw [hn] at hc hG htg
        have q0 : wr.cell? (ad.add (k * 4)) = some (.int .i64 n.kind) := by
          have := hc 0 _ rfl
          simpa using this
        have q1 : wr.cell? ⟨(ad.add (k * 4)).block, (ad.add (k * 4)).off + 1, none⟩ = some (.string n.tag) := by
          have h := hc 1 _ rfl
          rw [← RowsLib.add_add] at h
          exact h
        have q2 : wr.cell? ⟨(ad.add (k * 4)).block, (ad.add (k * 4)).off + 2, none⟩ = some (.int .i64 n.a) := by
          have h := hc 2 _ rfl
          rw [← RowsLib.add_add] at h
          exact h
        have q3 : wr.cell? ⟨(ad.add (k * 4)).block, (ad.add (k * 4)).off + 3, none⟩ = some (.int .i64 n.b) := by
          have h := hc 3 _ rfl
          rw [← RowsLib.add_add] at h
          exact h
        have hlt' : (k : Int) < (l.length : Int) := by omega
        have hG2 : (match stepC o dd k n with | none => 120 | some (o', d') => goC ((l.drop (k + 1)).map enc) ((k : Int) + 1) o' d') = checkF (l.map enc) := hG
        have HG2 := Aside0.mk hG2
        have hsw := BW.out.size
        obtain ⟨Ao, co, rfl, ho1, ho2, ho3⟩ := shapeI HO.out
        have HO3 := Aside0.mk ho3
        have HOD := Aside0.mk hod
        have HTG := Aside0.mk (fun W => Tag_calls n.tag htg W)
        clear hc hk4 hcl hgd hG hG2 HG hn ho3 hod hK
        obtain ⟨nm, hnm, hnm2⟩ : ∃ nm : Nat, namesF n.kind = (nm : Int) ∧ nm ≤ 2 := by
          refine ⟨(namesF n.kind).toNat, ?_, ?_⟩ <;> (unfold namesF; split <;> split <;> omega)
        have HNM := Aside0.mk hnm
        clear hnm
        go_upto_region 7 with fail
        have hW0 : Below wr.heap.size wr (wr.alloc (.cells #[.int .i64 n.kind, .string n.tag, .int .i64 n.a, .int .i64 n.b] 52)) := (Below.refl _ wr).alloc (Nat.le_refl _) _
        obtain ⟨W, hW⟩ : ∃ W, wr.alloc (.cells #[.int .i64 n.kind, .string n.tag, .int .i64 n.a, .int .i64 n.b] 52) = W := ⟨_, rfl⟩
        have b0 : W.cell? ⟨wr.heap.size, 0, none⟩ = some (.int .i64 n.kind) := by rw [← hW]; simp [go_sem]
        have b1 : W.cell? ⟨wr.heap.size, 1, none⟩ = some (.string n.tag) := by rw [← hW]; simp [go_sem]
        have b2 : W.cell? ⟨wr.heap.size, 2, none⟩ = some (.int .i64 n.a) := by rw [← hW]; simp [go_sem]
        have b3 : W.cell? ⟨wr.heap.size, 3, none⟩ = some (.int .i64 n.b) := by rw [← hW]; simp [go_sem]
        have b4 : wr.heap.size < W.heap.size := by rw [← hW]; simp
        rw [hW] at hW0 ⊢
        have BW1 := Aside0.mk (BW.out.trans (hW0.mono hsw))
        have HW0 := Aside0.mk hW0
        clear hW hW0 q0 q1 q2 q3
        go_cut [7] (fun s7 wc => s7 = .int .i64 (nm : Int) ∧ wc = W)
        case first =>
          have hN := HNM.out
          by_cases h2 : 2 < n.kind
          · have e : (nm : Int) = 2 := by rw [← hN]; unfold namesF; rw [if_pos h2]; rfl
            have E := Aside0.mk e
            clear e hN HNM
            go_wp2_with fail
            go_meet
            case rel => exact ⟨by rw [E.out], rfl⟩
          · by_cases h0 : 0 < n.kind
            · have e : (nm : Int) = n.kind := by rw [← hN]; unfold namesF; rw [if_neg h2, if_pos h0]
              have E := Aside0.mk e
              clear e hN HNM
              go_wp2_with fail
              go_meet
              case rel => exact ⟨by rw [E.out], rfl⟩
            · have e : (nm : Int) = 0 := by rw [← hN]; unfold namesF; rw [if_neg h2, if_neg h0]
              have E := Aside0.mk e
              clear e hN HNM
              go_wp2_with fail
              go_meet
              case rel => exact ⟨by rw [E.out], rfl⟩
        case rest =>
          obtain ⟨rfl, rfl⟩ := hcut
          go_upto_region 9 with fail
          have HTQ := Aside0.mk (show ∀ W, Calls Tryd.prog 35 #[.string n.tag] W fun e w' => e = .returned (.bool (tagOk n.tag)) ∧ ∃ m, w' = W.drewN m from fun W => (HTG.out W).mono fun e w' h => ⟨h.1, h.2.1⟩)
          clear HTG
          go_cut [59] (fun s59 wd => s59 = .bool (badF o n) ∧ ∃ m, wd = wc.drewN m)
          case first =>
            clear HG2 HO HD HS HF HR HO3 HOD hdd htag
            by_cases hneg : n.kind < 0
            · have HB := Aside0.mk (bad_neg (o := o) hneg)
              have d1 : decide (n.kind < 0) = true := decide_eq_true hneg
              clear hneg
              go_big_quiet (fail)
              go_wp2_with fail
              go_meet
              case rel => exact ⟨by rw [HB.out], _, rfl⟩
            · have d1 : decide (n.kind < 0) = false := decide_eq_false hneg
              by_cases hbig : 3 < n.kind
              · have HB := Aside0.mk (bad_big (o := o) hbig)
                have d2 : decide (3 < n.kind) = true := decide_eq_true hbig
                clear hneg hbig
                go_big_quiet (fail)
                go_wp2_with fail
                go_meet
                case rel => exact ⟨by rw [HB.out], _, rfl⟩
              · have d2 : decide (3 < n.kind) = false := decide_eq_false hbig
                by_cases hfew : (o.length : Int) - (nm : Int) < 0
                · have HB := Aside0.mk (bad_few (o := o) (n := n) (by rw [HNM.out]; exact hfew))
                  have d3 : decide ((o.length : Int) - (nm : Int) < 0) = true := decide_eq_true hfew
                  clear hneg hbig hfew
                  go_big_quiet (fail)
                  go_wp2_with fail
                  go_meet
                  case rel => exact ⟨by rw [HB.out], _, rfl⟩
                · have d3 : decide ((o.length : Int) - (nm : Int) < 0) = false := decide_eq_false hfew
                  by_cases h0 : n.kind = 0
                  · have d4 : (n.kind == 0) = true := by rw [h0]; rfl
                    have d5 : decide (0 < n.kind) = false := decide_eq_false (by omega)
                    cases htk : tagOk n.tag with
                    | false =>
                      have HB := Aside0.mk (bad_tag0 (o := o) h0 htk)
                      rw [htk] at HTQ
                      clear hneg hbig hfew h0 htk
                      go_big_quiet ((go_at_call 35; exact Calls.quiet_of (HTQ.out _)))
                      go_wp2_with fail
                      go_meet
                      case rel => exact ⟨by rw [HB.out], _, rfl⟩
                    | true =>
                      have HB := Aside0.mk (bad_no (o := o) (n := n) (by omega) (by omega) (by rw [HNM.out]; exact hfew) (by rw [htk]; exact d4) (fun h => by omega))
                      rw [htk] at HTQ
                      clear hneg hbig hfew h0 htk
                      go_big_quiet ((go_at_call 35; exact Calls.quiet_of (HTQ.out _)))
                      go_wp2_with fail
                      go_meet
                      case rel => exact ⟨by rw [HB.out], _, rfl⟩
                  · have d4 : (n.kind == 0) = false := by rw [beq_eq_false_iff_ne]; exact h0
                    have d5 : decide (0 < n.kind) = true := decide_eq_true (by omega)
                    cases htk : tagOk n.tag with
                    | true =>
                      have HB := Aside0.mk (bad_tag1 (o := o) (n := n) (by omega) htk)
                      rw [htk] at HTQ
                      clear hneg hbig hfew h0 htk
                      go_big_quiet ((go_at_call 35; exact Calls.quiet_of (HTQ.out _)))
                      go_wp2_with fail
                      go_meet
                      case rel => exact ⟨by rw [HB.out], _, rfl⟩
                    | false =>
                      rw [htk] at HTQ
                      cases hte : n.tag.toList.isEmpty with
                      | false =>
                        have HB := Aside0.mk (bad_lbl (o := o) (n := n) (by omega) hte)
                        clear hneg hbig hfew h0 htk
                        go_big_quiet ((go_at_call 35; exact Calls.quiet_of (HTQ.out _)))
                        go_wp2_with fail
                        go_meet
                        case rel => exact ⟨by rw [HB.out], _, rfl⟩
                      | true =>
                        have HB := Aside0.mk (bad_no (o := o) (n := n) (by omega) (by omega) (by rw [HNM.out]; exact hfew) (by rw [htk]; exact d4) (fun _ => hte))
                        clear hneg hbig hfew h0 htk
                        go_big_quiet ((go_at_call 35; exact Calls.quiet_of (HTQ.out _)))
                        go_wp2_with fail
                        go_meet
                        case rel => exact ⟨by rw [HB.out], _, rfl⟩
          case rest =>
            obtain ⟨rfl, m, rfl⟩ := hcut
            obtain ⟨W1, hW1⟩ : ∃ W1, wc.drewN m = W1 := ⟨_, rfl⟩
            have c0 : W1.cell? ⟨wr.heap.size, 0, none⟩ = some (.int .i64 n.kind) := by rw [← hW1]; exact b0
            have c1 : W1.cell? ⟨wr.heap.size, 1, none⟩ = some (.string n.tag) := by rw [← hW1]; exact b1
            have c2 : W1.cell? ⟨wr.heap.size, 2, none⟩ = some (.int .i64 n.a) := by rw [← hW1]; exact b2
            have c3 : W1.cell? ⟨wr.heap.size, 3, none⟩ = some (.int .i64 n.b) := by rw [← hW1]; exact b3
            have c4 : wr.heap.size < W1.heap.size := by rw [← hW1]; exact b4
            have BW2 : Aside0 (Below w.heap.size w W1) := by rw [← hW1]; exact ⟨pw_below_drewN BW1.out m⟩
            have BR2 : Aside0 (Below wr.heap.size wr W1) := by rw [← hW1]; exact ⟨pw_below_drewN HW0.out m⟩
            rw [hW1]
            clear hW1 b0 b1 b2 b3 b4 HW0 BW1
            cases hbad : badF o n with
            | true =>
              have HB := Aside0.mk (HG2.out.symm.trans (by rw [step_bad hbad]))
              clear HG2 hbad
              go_wp2_with fail
              go_ret
              exact ⟨by rw [HB.out]; rfl, BW2.out⟩
            | false =>
              have hK : 0 ≤ (o.length : Int) - (nm : Int) ∧ 0 ≤ n.kind ∧ n.kind ≤ 3 := by
                unfold badF at hbad
                simp only [Bool.or_eq_false_iff, decide_eq_false_iff_not] at hbad
                obtain ⟨⟨⟨⟨h1, h2⟩, h3⟩, _⟩, _⟩ := hbad
                rw [HNM.out] at h3
                omega
              obtain ⟨K, hKK⟩ : ∃ K : Nat, (o.length : Int) - (nm : Int) = (K : Int) := ⟨((o.length : Int) - (nm : Int)).toNat, by omega⟩
              have HST := Aside0.mk (step_good (d := dd) (i := (k : Int)) hbad HNM.out hKK)
              rw [hKK]
              have k1 : K + nm ≤ o.length := by omega
              have k2 : o.length ≤ K + nm := by omega
              have k3 : K + nm ≤ dd.length := by have := HOD.out; omega
              have k4 : dd.length ≤ K + nm := by have := HOD.out; omega
              obtain ⟨Ad, cd, rfl, hd1, hd2, hd3⟩ := shapeI HD.out
              have HD3 := Aside0.mk hd3
              have HDD := Aside0.mk hdd
              clear hbad hKK hK HNM HTQ hd3 hdd
              go_upto_block 2 with fail
              obtain ⟨W2, hW2⟩ : ∃ W2, W1.alloc (.cells #[.int .i64 n.kind, .string n.tag, .int .i64 0, .int .i64 0] 52) = W2 := ⟨_, rfl⟩
              have hh2 : W2.heap[W1.heap.size]? = some (.cells #[.int .i64 n.kind, .string n.tag, .int .i64 0, .int .i64 0] 52 (0, 0)) := by rw [← hW2]; exact heap_alloc_new W1 _
              have BB : Aside0 (Below W1.heap.size W1 W2) := by rw [← hW2]; exact ⟨(Below.refl _ W1).alloc (Nat.le_refl _) _⟩
              rw [hW2]
              clear hW2
              have HH2 := Aside0.mk hh2
              obtain ⟨dv, hdv⟩ : ∃ dv, depF nm (dd.drop K) = dv := ⟨_, rfl⟩
              obtain ⟨av, hav⟩ : ∃ av, aF nm o K = av := ⟨_, rfl⟩
              obtain ⟨bv, hbv⟩ : ∃ bv, bF nm o K = bv := ⟨_, rfl⟩
              have HDV := Aside0.mk hdv
              have HAV := Aside0.mk hav
              have HBV := Aside0.mk hbv
              clear hh2 hdv hav hbv
              go_cut [9] (fun s9 we => s9 = .int .i64 dv ∧ Aside0 (we.heap[W1.heap.size]? = some (.cells #[.int .i64 n.kind, .string n.tag, .int .i64 av, .int .i64 bv] 52 (0, 0))) ∧ Aside0 (Below W1.heap.size W1 we))
              case first =>
                clear c0 c1 c2 c3 HST HG2 HR HF HD HO HS
                by_cases h0 : nm = 0
                · subst h0
                  have HDV2 := Aside0.mk (show dv = 1 from by rw [← HDV.out]; rfl)
                  have HAV2 := Aside0.mk (show av = 0 from by rw [← HAV.out]; rfl)
                  have HBV2 := Aside0.mk (show bv = 0 from by rw [← HBV.out]; rfl)
                  clear HDV HAV HBV
                  go_wp2_with fail
                  go_meet
                  case rel => exact ⟨by rw [HDV2.out], ⟨by rw [HAV2.out, HBV2.out]; exact HH2.out⟩, BB⟩
                · obtain ⟨g2, rfl, hdc⟩ := HD3.out (by omega)
                  obtain ⟨g1, rfl, hoc⟩ := HO3.out (by omega)
                  have HDC := Aside0.mk hdc
                  have hbr : Below wr.heap.size wr W2 := BR2.out.trans (BB.out.mono BR2.out.size)
                  have HBR := Aside0.mk hbr
                  have hcK : W2.cell? ⟨g1, K, none⟩ = some (.int .i64 (o.getD K 0)) := by
                    have h1 := hoc K (by omega)
                    exact (hbr.cell (World.block_lt_of_cell? wr _ h1)).trans h1
                  have hav2 : o.getD K 0 = av := by rw [← HAV.out]; unfold aF; rw [if_pos (by omega)]
                  rw [hav2] at hcK
                  have hKi : (K : Int) < (o.length : Int) := by omega
                  have hKd : (K : Int) ≤ (dd.length : Int) := by omega
                  have hKc : (K : Int) < (cd : Int) := by omega
                  have hKn : ¬ cd = K := by omega
                  have hsz1 : g1 < wr.heap.size := World.block_lt_of_cell? wr _ (hoc K (by omega))
                  have hsz2 : g2 < wr.heap.size := World.block_lt_of_cell? wr _ (hdc K (by omega))
                  clear hdc hav2 HO3 HD3 hbr
                  by_cases h2 : nm = 2
                  · subst h2
                    have hcK1 : W2.cell? ⟨g1, K + 1, none⟩ = some (.int .i64 bv) := by
                      have h1 := hoc (K + 1) (by omega)
                      rw [show o.getD (K + 1) 0 = bv from by rw [← HBV.out]; rfl] at h1
                      exact (HBR.out.cell (World.block_lt_of_cell? wr _ h1)).trans h1
                    have z3 : W2.cell? ⟨W1.heap.size, 3, none⟩ = some (.int .i64 0) := by have := HH2.out; simp [World.cell?, this]
                    have z3f : W2.frozen? ⟨W1.heap.size, 3, none⟩ = false := by have := HH2.out; simp [World.frozen?, this]
                    have hK1i : (K : Int) + 1 < (o.length : Int) := by omega
                    clear h0 HBV hoc
                    go_upto_region 17 with fail
                    obtain ⟨W5, hW5⟩ : ∃ W5, W2.setCell ⟨W1.heap.size, 3, none⟩ (.int .i64 bv) = W5 := ⟨_, rfl⟩
                    have HH5 : Aside0 (W5.heap[W1.heap.size]? = some (.cells #[.int .i64 n.kind, .string n.tag, .int .i64 0, .int .i64 bv] 52 (0, 0))) := by rw [← hW5]; exact ⟨box_set HH2.out _⟩
                    have BB5 : Aside0 (Below W1.heap.size W1 W5) := by rw [← hW5]; exact ⟨BB.out.setCell (p := ⟨W1.heap.size, 3, none⟩) (Nat.le_refl _) _⟩
                    rw [hW5]
                    have hcK5 : W5.cell? ⟨g1, K, none⟩ = some (.int .i64 av) := by
                      have h1 := (BB.out.cell (p := ⟨g1, K, none⟩) (by show g1 < _; omega)).symm.trans hcK
                      exact (BB5.out.cell (p := ⟨g1, K, none⟩) (by show g1 < _; omega)).trans h1
                    have z2 : W5.cell? ⟨W1.heap.size, 2, none⟩ = some (.int .i64 0) := by have := HH5.out; simp [World.cell?, this]
                    have z2f : W5.frozen? ⟨W1.heap.size, 2, none⟩ = false := by have := HH5.out; simp [World.frozen?, this]
                    clear hW5 z3 z3f hcK1 hcK
                    go_upto_region 18 with fail
                    obtain ⟨W3, hW3⟩ : ∃ W3, W5.setCell ⟨W1.heap.size, 2, none⟩ (.int .i64 av) = W3 := ⟨_, rfl⟩
                    have HH3 : Aside0 (W3.heap[W1.heap.size]? = some (.cells #[.int .i64 n.kind, .string n.tag, .int .i64 av, .int .i64 bv] 52 (0, 0))) := by rw [← hW3]; exact ⟨box_set HH5.out _⟩
                    have BB3 : Aside0 (Below W1.heap.size W1 W3) := by rw [← hW3]; exact ⟨BB5.out.setCell (p := ⟨W1.heap.size, 2, none⟩) (Nat.le_refl _) _⟩
                    rw [hW3]
                    have hdc3 : ∀ j, j < dd.length → W3.cell? ⟨g2, j, none⟩ = some (.int .i64 (dd.getD j 0)) := fun j hj => ((BR2.out.trans (BB3.out.mono BR2.out.size)).cell (by exact hsz2)).trans (HDC.out j hj)
                    have HMX := Aside0.mk (max_own (c := cd - K) (show K < dd.length from by omega) (by omega) hdc3)
                    obtain ⟨m0, m1⟩ := max_bd (show K < dd.length from by omega) HDD.out
                    have HDV2 : Aside0 (dv = 1 + Lib.maxOf (dd.drop K)) := ⟨by rw [← HDV.out]; rfl⟩
                    obtain ⟨M, hM⟩ : ∃ M, Lib.maxOf (dd.drop K) = M := ⟨_, rfl⟩
                    rw [hM] at HMX HDV2 m0 m1
                    clear hM hW3 z2 z2f hcK5 hdc3 HDV
                    go_wp2_with fail
                    refine HMX.out.mono ?_
                    rintro e w4 ⟨rfl, rfl⟩
                    go_wp2_with fail
                    go_meet
                    case rel => exact ⟨by rw [HDV2.out], HH3, BB3⟩
                  · obtain rfl : nm = 1 := by omega
                    have HBV2 := Aside0.mk (show bv = 0 from by rw [← HBV.out]; rfl)
                    have z2 : W2.cell? ⟨W1.heap.size, 2, none⟩ = some (.int .i64 0) := by have := HH2.out; simp [World.cell?, this]
                    have z2f : W2.frozen? ⟨W1.heap.size, 2, none⟩ = false := by have := HH2.out; simp [World.frozen?, this]
                    clear h0 h2 HBV hoc
                    go_upto_region 18 with fail
                    obtain ⟨W3, hW3⟩ : ∃ W3, W2.setCell ⟨W1.heap.size, 2, none⟩ (.int .i64 av) = W3 := ⟨_, rfl⟩
                    have HH3 : Aside0 (W3.heap[W1.heap.size]? = some (.cells #[.int .i64 n.kind, .string n.tag, .int .i64 av, .int .i64 0] 52 (0, 0))) := by rw [← hW3]; exact ⟨box_set HH2.out _⟩
                    have BB3 : Aside0 (Below W1.heap.size W1 W3) := by rw [← hW3]; exact ⟨BB.out.setCell (p := ⟨W1.heap.size, 2, none⟩) (Nat.le_refl _) _⟩
                    rw [hW3]
                    have hdc3 : ∀ j, j < dd.length → W3.cell? ⟨g2, j, none⟩ = some (.int .i64 (dd.getD j 0)) := fun j hj => ((BR2.out.trans (BB3.out.mono BR2.out.size)).cell (by exact hsz2)).trans (HDC.out j hj)
                    have HMX := Aside0.mk (max_own (c := cd - K) (show K < dd.length from by omega) (by omega) hdc3)
                    obtain ⟨m0, m1⟩ := max_bd (show K < dd.length from by omega) HDD.out
                    have HDV2 : Aside0 (dv = 1 + Lib.maxOf (dd.drop K)) := ⟨by rw [← HDV.out]; rfl⟩
                    obtain ⟨M, hM⟩ : ∃ M, Lib.maxOf (dd.drop K) = M := ⟨_, rfl⟩
                    rw [hM] at HMX HDV2 m0 m1
                    clear hM hW3 z2 z2f hcK hdc3 HDV
                    go_wp2_with fail
                    refine HMX.out.mono ?_
                    rintro e w4 ⟨rfl, rfl⟩
                    go_wp2_with fail
                    go_meet
                    case rel => exact ⟨by rw [HDV2.out], ⟨by rw [HBV2.out]; exact HH3.out⟩, BB3⟩
              case rest =>
                obtain ⟨rfl, HWE, BE⟩ := hcut
                have r0 : wc.cell? ⟨wr.heap.size, 0, none⟩ = some (.int .i64 n.kind) := (BE.out.cell (p := ⟨wr.heap.size, 0, none⟩) (by exact c4)).trans c0
                have r1 : wc.cell? ⟨wr.heap.size, 1, none⟩ = some (.string n.tag) := (BE.out.cell (p := ⟨wr.heap.size, 1, none⟩) (by exact c4)).trans c1
                have r2 : wc.cell? ⟨wr.heap.size, 2, none⟩ = some (.int .i64 n.a) := (BE.out.cell (p := ⟨wr.heap.size, 2, none⟩) (by exact c4)).trans c2
                have r3 : wc.cell? ⟨wr.heap.size, 3, none⟩ = some (.int .i64 n.b) := (BE.out.cell (p := ⟨wr.heap.size, 3, none⟩) (by exact c4)).trans c3
                have s0 : wc.cell? ⟨W1.heap.size, 0, none⟩ = some (.int .i64 n.kind) := by have := HWE.out; simp [World.cell?, this]
                have s1 : wc.cell? ⟨W1.heap.size, 1, none⟩ = some (.string n.tag) := by have := HWE.out; simp [World.cell?, this]
                have s2 : wc.cell? ⟨W1.heap.size, 2, none⟩ = some (.int .i64 av) := by have := HWE.out; simp [World.cell?, this]
                have s3 : wc.cell? ⟨W1.heap.size, 3, none⟩ = some (.int .i64 bv) := by have := HWE.out; simp [World.cell?, this]
                have HDB := Aside0.mk (dep_bd HDD.out k3 HDV.out)
                have hneq := fun W => neqN W n ⟨n.kind, n.tag, av, bv⟩
                have hst := HST.out
                rw [HDV.out, HAV.out, HBV.out] at hst
                have HST2 := Aside0.mk hst
                have BWE := Aside0.mk (BW2.out.trans (BE.out.mono BW2.out.size))
                have BRE := Aside0.mk (BR2.out.trans (BE.out.mono BR2.out.size))
                clear c0 c1 c2 c3 hst HST HDV HAV HBV HH2 BB
                by_cases he : n = ⟨n.kind, n.tag, av, bv⟩
                · have HST3 := Aside0.mk (HST2.out.trans (if_pos he))
                  have hneq2 : ∀ W, (binOp .neq 52 (.agg #[.int .i64 n.kind, .string n.tag, .int .i64 n.a, .int .i64 n.b]) (.agg #[.int .i64 n.kind, .string n.tag, .int .i64 av, .int .i64 bv])).run Tryd.prog W = .ok (.bool false) W := fun W => by
                    have h := hneq W
                    rw [decide_eq_true he] at h
                    exact h
                  have HG3 : Aside0 (goC ((l.drop (k + 1)).map enc) ((k : Int) + 1) (o.take K ++ [(k : Int)]) (dd.take K ++ [dv]) = checkF (l.map enc)) := by
                    have h := HG2.out
                    rw [HST3.out] at h
                    exact ⟨h⟩
                  clear HST2 HST3 he hneq HG2
                  go_upto_region 21 with fail
                  have hS0 : St w (.slice Ao K co) (.slice Ad K cd) K K (o.take K) (dd.take K) wc :=
                    ⟨own_take (own_later HO.out BRE.out) (by omega), own_take (own_later HD.out BRE.out) (by omega), sep_cut HS.out, BWE.out⟩
                  have HS0 := Aside0.mk hS0
                  have hKo : (K : Int) ≤ (co : Int) := by omega
                  have hKd : (K : Int) ≤ (cd : Int) := by omega
                  have hK60 : K ≤ 60 := by omega
                  clear hS0 r0 r1 r2 r3 s0 s1 s2 s3 hneq2 BWE BRE HO HD HS HWE BE c4 ho2 hd2
                  clear HR HF HDD HO3 HD3 BW BW2 BR2 HOD htag
                  go_region_law (first
                    | (refine step_append_lies _ (by rfl) (.tmp 92) (.tmp 94) _ (by rfl) w.heap.size 3 i0 _ 1 8 Tryd.underlying56 hi hz0 hz1 hz2 rfl (by decide) (.slice Ao K co) K (cI (o.take K)) (by rfl)
                        (by first | exact (HS0.out.drew.alloc _).o1 | exact ((HS0.out.drew.alloc _).alloc _).o1) _ 1 1 [.int .i64 (k : Int)] (by rfl) (by rfl) (news_one (by go_simp)) (by simp [Value.oneCell']) (by decide) (by unfold maxLen; omega) (by omega)
                        (by first | exact (HS0.out.drew.alloc _).bl.size | exact ((HS0.out.drew.alloc _).alloc _).bl.size) _ rfl ?_
                       intro g1 c1 w1 hown1 hgrow1 hat1 hlt1
                       first
                        | have Q1 := Aside0.mk (St.app1 (HS0.out.drew.alloc _) hown1 hgrow1 hat1)
                        | have Q1 := Aside0.mk (St.app1 ((HS0.out.drew.alloc _).alloc _) hown1 hgrow1 hat1)
                       first
                        | (refine cutI (St.far1 HS0.out hgrow1 (b := wc.heap.size + 1) (x := .int .i64 dv) (Nat.le_succ _) ?_) (fun HX => ?_)
                           · (go_simp; done))
                        | (refine cutI (St.far1 HS0.out hgrow1 (b := wc.heap.size) (x := .int .i64 dv) (Nat.le_refl _) ?_) (fun HX => ?_)
                           · (go_simp; done))
                        | skip
                       clear hown1 hat1 hlt1 hgrow1)
                    | (refine step_append_lies _ (by rfl) (.tmp 98) (.tmp 100) _ (by rfl) w.heap.size 3 i0 _ 1 8 Tryd.underlying56 hi hz0 hz1 hz2 rfl (by decide) (.slice Ad K cd) K (cI (dd.take K)) (by rfl)
                        (by first | exact Q1.out.o2 | exact (Q1.out.alloc _).o2) _ 1 1 [.int .i64 dv] (by rfl) (by rfl) (by first | exact news_one HX.out | exact news_one (by go_simp)) (by simp [Value.oneCell']) (by decide) (by unfold maxLen; omega) (by omega)
                        (by first | exact Q1.out.bl.size | exact (Q1.out.alloc _).bl.size) _ rfl ?_
                       intro g2 c2 w2 hown2 hgrow2 hat2 hlt2
                       first
                        | have Q2 := Aside0.mk (St.app2 Q1.out hown2 hgrow2 hat2)
                        | have Q2 := Aside0.mk (St.app2 (Q1.out.alloc _) hown2 hgrow2 hat2)
                       clear hown2 hat2 hlt2 hgrow2 Q1))
                  all_goals (
                    go_wp2_with fail
                    go_roundg (l.length - (k + 1))
                    case measure => omega
                    case rel =>
                      have hl1 : (o.take K ++ [(k : Int)]).length = K + 1 := by rw [List.length_append, List.length_take, Nat.min_eq_left (by omega)]; rfl
                      have hl2 : (dd.take K ++ [dv]).length = K + 1 := by rw [List.length_append, List.length_take, Nat.min_eq_left (by omega)]; rfl
                      refine ⟨k + 1, o.take K ++ [(k : Int)], dd.take K ++ [dv], by omega, Nat.le_refl _, by go_num, by rw [hl1, hl2], by rw [hl1]; omega, HDB.out, ⟨HG3.out⟩, ⟨by rw [hl1]; exact Q2.out.o1⟩, ⟨by rw [hl2]; exact Q2.out.o2⟩, ⟨Q2.out.sp⟩, ⟨Q2.out.bl⟩⟩)
                · have HST3 := Aside0.mk (HST2.out.trans (if_neg he))
                  have hneq2 : ∀ W, (binOp .neq 52 (.agg #[.int .i64 n.kind, .string n.tag, .int .i64 n.a, .int .i64 n.b]) (.agg #[.int .i64 n.kind, .string n.tag, .int .i64 av, .int .i64 bv])).run Tryd.prog W = .ok (.bool true) W := fun W => by
                    have h := hneq W
                    rw [decide_eq_false he] at h
                    exact h
                  have HG3 : Aside0 (120 = checkF (l.map enc)) := by
                    have h := HG2.out
                    rw [HST3.out] at h
                    exact ⟨h⟩
                  clear HST2 HST3 he hneq HG2
                  go_wp2_with fail
                  go_ret
                  exact ⟨by rw [← HG3.out]; rfl, BWE.out⟩
      · have ek : k = l.length := by omega
        have hlt' : ¬ ((k : Int) < (l.length : Int)) := by omega
        subst ek
        have hG := HG.out
        rw [List.drop_length] at hG
        have HG2 := Aside0.mk hG
        obtain ⟨Ao, co, rfl, ho1, ho2, ho3⟩ := shapeI HO.out
        obtain ⟨Ad, cd, rfl, hd1, hd2, hd3⟩ := shapeI HD.out
        have HOD := Aside0.mk hod
        have hm : maxLen = 9223372036854775807 := rfl
        by_cases h1 : o.length = 1
        · obtain ⟨g, rfl, hcell⟩ := hd3 (by omega)
          have hc0 := hcell 0 (by omega)
          have hdl : 0 < dd.length := by omega
          clear hod
          have h1' : ((o.length : Int) != 1) = false := by rw [h1]; rfl
          have hd0 : (0 : Int) < (dd.length : Int) := by omega
          have hon : o.length = 1 → ((o.length : Int) == 1) = true := fun h => by rw [h]; rfl
          have hpos : ∀ y, dd.getD 0 0 = y → y = dd.getD 0 0 := fun y h => h.symm
          obtain ⟨y, hy⟩ : ∃ y, dd.getD 0 0 = y := ⟨_, rfl⟩
          rw [hy] at hc0
          have hR : goC [] (l.length : Int) o dd = if y ≤ 40 then 0 else 120 := by
            unfold goC
            rw [hy]
            by_cases hq : y ≤ 40
            · rw [if_pos ⟨h1, hq⟩, if_pos hq]
            · rw [if_neg (fun hh => hq hh.2), if_neg hq]
          have HR2 := Aside0.mk (hR.symm.trans HG2.out)
          have H1 := Aside0.mk h1
          clear hR hG HG HG2 ho3 hd3 hcell hpos hy HO HD HS hdd hon h1 hok hg hlt hk ho1 ho2 hd1 hd2
          by_cases hq : y ≤ 40
          · have hq' : ¬ (40 : Int) < y := by omega
            have HR3 := Aside0.mk (HR2.out.symm.trans (if_pos hq))
            clear HR2
            go_wp2_with fail
            go_ret
            exact ⟨by rw [HR3.out]; rfl, BW.out⟩
          · have hq' : (40 : Int) < y := by omega
            have HR3 := Aside0.mk (HR2.out.symm.trans (if_neg hq))
            clear HR2
            go_wp2_with fail
            go_ret
            exact ⟨by rw [HR3.out]; rfl, BW.out⟩
        · clear hod
          have h1' : ((o.length : Int) != 1) = true := by rw [bne_iff_ne]; omega
          have hR : goC [] (l.length : Int) o dd = 120 := by
            unfold goC
            rw [if_neg (fun hh => h1 hh.1)]
          have HR3 := Aside0.mk (HG2.out.symm.trans hR)
          clear hR hG HG HG2 ho3 hd3 HO HD HS hdd h1 hok hg hlt hk ho1 ho2 hd1 hd2
          go_wp2_with fail
          go_ret
          exact ⟨by rw [HR3.out]; rfl, BW.out⟩
end Go.Proofs.YtjndccjpjknbkaaDoor.ExCheck
