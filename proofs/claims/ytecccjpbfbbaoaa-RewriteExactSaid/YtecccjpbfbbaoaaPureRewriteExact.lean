/- A replace of just a module's version counts ahead of one of each version: the plain law. -/
import Derived.Test.YtecccjpbfbbaoaaRowOksRewriteExact
import Derived.Test.YtecccjpbfbbaoaaPRxx5
import Derived.Test.YtecccjpbfbbaoaaBytesLib
namespace Go.Proofs.Ytecccjpbfbbaoaa.Pure
open Go.RowKit Go.Proofs.Ytecccjpbfbbaoaa.PRx Go.Proofs.YtecccjpbfbbaoaaW.PrintWords Go.Proofs.YtecccjpbfbbaoaaW.PrintLast Go.Proofs.Ytecccjpbfbbaoaa.RowOksRewriteExact Go.Proofs.Ytecccjpbfbbaoaa.RwFind
set_option linter.unusedVariables false

/-- A loop that counts up, and stops early if it has counted too much: it ends. -/
theorem heavy_loop {n : Nat} {g : Int → Int → Nat → Option Bool} {dn : Int → Nat → Option Bool} {F : Int → Nat → Int} (hn : n ≤ 4611686018427387904) (hd : ∀ x, ∃ b, Ev (dn x) b)
    (hs : ∀ (i : Nat) (x : Int) (k : Nat), g x i (k + 1) = if (i : Int) < (n : Int) then (if x ≤ 8192 then (if 0 ≤ (i : Int) then g (F x i) (wrap64 ((i : Int) + 1)) k else none) else dn x k) else dn x k) :
    ∀ (d i : Nat), n - i = d → i ≤ n → ∀ x, ∃ b, Ev (g x i) b
  | 0, i, h, hi, x => by
    obtain ⟨b, hb⟩ := hd x
    exact ⟨b, Ev.step (f := dn x) (fun k => by rw [hs, if_neg (by omega)]) hb⟩
  | d + 1, i, h, hi, x => by
    by_cases hx : x ≤ 8192
    · obtain ⟨b, hb⟩ := heavy_loop hn hd hs d (i + 1) (by omega) (by omega) (F x i)
      refine ⟨b, Ev.step (f := g (F x i) ((i + 1 : Nat) : Int)) (fun k => ?_) hb⟩
      rw [hs, if_pos (by omega), if_pos hx, if_pos (by omega)]
      have : wrap64 ((i : Int) + 1) = ((i + 1 : Nat) : Int) := by unfold wrap64; omega
      rw [this]
    · obtain ⟨b, hb⟩ := hd x
      exact ⟨b, Ev.step (f := dn x) (fun k => by rw [hs, if_pos (by omega), if_neg hx]) hb⟩

theorem heavy_total (a0 a1 : ByteArray) (l2 : List S64) (l3 : List S33) (l4 : List S29) (l5 : List S42) (a20 a21 : ByteArray) :
    ∃ b, Ev (fun k => graftbedlaw08_heavy.f k a0 a1 l2 l3 l4 l5 [] a20 a21) b ∧ (b = false → l3.length ≤ 30) := by
  have ht : Ev (fun k => graftbedlaw08_heavy.j0 k [] true a0 a1 l2 l3 l4 l5) true := Ev.step (f := fun _ => some true) (fun k => rfl) (Ev.now _)
  by_cases h2 : (l2.length : Int) > 30
  · exact ⟨true, Ev.congr (fun k => by unfold graftbedlaw08_heavy.f; rw [if_neg (by simp), if_pos h2]) ht, by simp⟩
  by_cases h3 : (l3.length : Int) > 30
  · exact ⟨true, Ev.congr (fun k => by unfold graftbedlaw08_heavy.f; rw [if_neg (by simp), if_neg h2, if_pos h3]) ht, by simp⟩
  by_cases h4 : (l4.length : Int) > 30
  · exact ⟨true, Ev.congr (fun k => by unfold graftbedlaw08_heavy.f; rw [if_neg (by simp), if_neg h2, if_neg h3, if_pos h4]) ht, by simp⟩
  by_cases h5 : (l5.length : Int) > 30
  · exact ⟨true, Ev.congr (fun k => by unfold graftbedlaw08_heavy.f; rw [if_neg (by simp), if_neg h2, if_neg h3, if_neg h4, if_pos h5]) ht, by simp⟩
  have hf : ∀ k, graftbedlaw08_heavy.f k a0 a1 l2 l3 l4 l5 [] a20 a21 = graftbedlaw08_heavy.j0 k [] (decide ((wrap64 ((a20.size : Int) + (a21.size : Int))) > 400)) a0 a1 l2 l3 l4 l5 := fun k => by
    unfold graftbedlaw08_heavy.f; rw [if_neg (by simp), if_neg h2, if_neg h3, if_neg h4, if_neg h5]
  cases hq : decide ((wrap64 ((a20.size : Int) + (a21.size : Int))) > 400) with
  | true => exact ⟨true, Ev.congr (fun k => by rw [hf, hq]) ht, by simp⟩
  | false =>
    have g3 := heavy_loop (n := l5.length) (g := fun x i k => graftbedlaw08_heavy.l3 k x i a0 a1 l2 l3 l4 l5) (dn := fun x _ => some (decide (x > 8192))) (F := _) (by omega) (fun x => ⟨_, Ev.now _⟩) (fun i x k => rfl) _ 0 rfl (Nat.zero_le _)
    have j6 : ∀ x, ∃ b, Ev (fun k => graftbedlaw08_heavy.j6 k x a0 a1 l2 l3 l4 l5) b := fun x => by
      obtain ⟨b, hb⟩ := g3 x; exact ⟨b, Ev.step (fun k => rfl) hb⟩
    have g2 := heavy_loop (n := l3.length) (g := fun x i k => graftbedlaw08_heavy.l2 k x i a0 a1 l2 l3 l4 l5) (dn := fun x k => graftbedlaw08_heavy.j6 k x a0 a1 l2 l3 l4 l5) (F := _) (by omega) j6 (fun i x k => rfl) _ 0 rfl (Nat.zero_le _)
    have j4 : ∀ x, ∃ b, Ev (fun k => graftbedlaw08_heavy.j4 k x a0 a1 l2 l3 l4 l5) b := fun x => by
      obtain ⟨b, hb⟩ := g2 x; exact ⟨b, Ev.step (fun k => rfl) hb⟩
    have g1 := heavy_loop (n := l4.length) (g := fun x i k => graftbedlaw08_heavy.l1 k x i a0 a1 l2 l3 l4 l5) (dn := fun x k => graftbedlaw08_heavy.j4 k x a0 a1 l2 l3 l4 l5) (F := _) (by omega) j4 (fun i x k => rfl) _ 0 rfl (Nat.zero_le _)
    have j2 : ∀ x, ∃ b, Ev (fun k => graftbedlaw08_heavy.j2 k x a0 a1 l2 l3 l4 l5) b := fun x => by
      obtain ⟨b, hb⟩ := g1 x; exact ⟨b, Ev.step (fun k => rfl) hb⟩
    obtain ⟨b, hb⟩ := heavy_loop (n := ([] : List S40).length) (g := fun x i k => graftbedlaw08_heavy.l0 k [] x i a0 a1 l2 l3 l4 l5) (dn := fun x k => graftbedlaw08_heavy.j2 k x a0 a1 l2 l3 l4 l5) (F := _) (by simp) j2 (fun i x k => rfl) _ 0 rfl (Nat.zero_le _) 0
    refine ⟨b, Ev.congr (fun k => by rw [hf, hq]) (Ev.step (g := fun k => graftbedlaw08_heavy.j0 k [] false a0 a1 l2 l3 l4 l5) (fun k => rfl) hb), fun _ => by omega⟩

theorem shown_true : graftbedlaw08_shown.f = some true := by decide +kernel

theorem findI_none {α : Type} {p : α → Bool} : ∀ {l : List α} {k : Nat}, (∀ x ∈ l, p x = false) → findI p l k = -1
  | [], k, h => rfl
  | y :: r, k, h => by
    unfold findI
    rw [if_neg (by rw [h y List.mem_cons_self]; decide)]
    exact findI_none fun x hx => h x (List.mem_cons_of_mem _ hx)
theorem findI_app {α : Type} {p : α → Bool} (l2 : List α) : ∀ {l : List α} {k : Nat}, (∀ x ∈ l, p x = false) → findI p (l ++ l2) k = findI p l2 (k + l.length)
  | [], k, h => rfl
  | y :: r, k, h => by
    rw [List.cons_append]
    unfold findI
    rw [if_neg (by rw [h y List.mem_cons_self]; decide), findI_app l2 fun x hx => h x (List.mem_cons_of_mem _ hx)]
    rw [show k + 1 + r.length = k + (y :: r).length by simp; omega]
    cases l2 <;> rfl

theorem isOld_mk {m : ByteArray × ByteArray} (a b c d : ByteArray) : isOld rewrite_Replaced.enc m (⟨⟨a, b⟩, ⟨c, d⟩⟩ : S33) = (a.toList == m.1.toList && b.toList == m.2.toList) := rfl

/-- None of the replaces has this path. -/
theorem old_none {l : List S33} {p v : ByteArray} (h : ∀ x ∈ l, x.f0.f0.toList ≠ p.toList) : ∀ x ∈ l, isOld rewrite_Replaced.enc (p, v) x = false := fun x hx => by
  have := h x hx
  show (x.f0.f0.toList == p.toList && _) = false
  rw [beq_false_of_ne this]; rfl

theorem repl_none {l : List S33} {p v : ByteArray} (h : ∀ x ∈ l, x.f0.f0.toList ≠ p.toList) : replF rewrite_Replaced.enc z33 l (p, v) = (p, v, false) := by
  unfold replF
  rw [findI_none (old_none h), findI_none (old_none h)]
  rfl
theorem getD_app {α : Type} (l r : List α) (z : α) (j : Nat) : (l ++ r).getD (l.length + j) z = r.getD j z := by
  simp [List.getD, List.getElem?_append_right]

/-- With one of just the version ahead. -/
theorem repl_first {l : List S33} {p v a0 a1 b0 b1 : ByteArray} (h : ∀ x ∈ l, x.f0.f0.toList ≠ p.toList) :
    replF rewrite_Replaced.enc z33 (l ++ [⟨⟨p, v⟩, ⟨a0, a1⟩⟩, ⟨⟨p, ⟨#[]⟩⟩, ⟨b0, b1⟩⟩]) (p, v) = (a0, a1, true) := by
  unfold replF
  rw [findI_app _ (old_none h)]
  have e : findI (isOld rewrite_Replaced.enc (p, v)) [(⟨⟨p, v⟩, ⟨a0, a1⟩⟩ : S33), ⟨⟨p, ⟨#[]⟩⟩, ⟨b0, b1⟩⟩] (0 + l.length) = ((l.length : Nat) : Int) := by
    unfold findI
    rw [isOld_mk, if_pos (by simp)]; simp
  rw [e, if_pos (by omega)]
  simp only [Int.toNat_natCast]
  rw [show l.length = l.length + 0 from rfl, getD_app]; rfl
theorem repl_second {l : List S33} {p v a0 a1 b0 b1 : ByteArray} (h : ∀ x ∈ l, x.f0.f0.toList ≠ p.toList) (hv : v.toList ≠ []) :
    replF rewrite_Replaced.enc z33 (l ++ [⟨⟨p, ⟨#[]⟩⟩, ⟨b0, b1⟩⟩, ⟨⟨p, v⟩, ⟨a0, a1⟩⟩]) (p, v) = (a0, a1, true) := by
  unfold replF
  rw [findI_app _ (old_none h)]
  have hv' : ((⟨#[]⟩ : ByteArray).toList == v.toList) = false := beq_false_of_ne (fun e => hv (by rw [← e]; decide +kernel))
  have e : findI (isOld rewrite_Replaced.enc (p, v)) [(⟨⟨p, ⟨#[]⟩⟩, ⟨b0, b1⟩⟩ : S33), ⟨⟨p, v⟩, ⟨a0, a1⟩⟩] (0 + l.length) = ((l.length + 1 : Nat) : Int) := by
    unfold findI
    rw [isOld_mk, if_neg (by simp [hv])]
    unfold findI
    rw [isOld_mk, if_pos (by simp)]; simp
  rw [e, if_pos (by omega)]
  simp only [Int.toNat_natCast]
  rw [getD_app]; rfl
/-- Another version: the one of each version. -/
theorem repl_other {l : List S33} {p v u b0 b1 a0 a1 : ByteArray} (h : ∀ x ∈ l, x.f0.f0.toList ≠ p.toList) (hv : v.toList ≠ []) (hu : u.toList ≠ []) (huv : v.toList ≠ u.toList) :
    replF rewrite_Replaced.enc z33 (l ++ [⟨⟨p, v⟩, ⟨a0, a1⟩⟩, ⟨⟨p, ⟨#[]⟩⟩, ⟨b0, b1⟩⟩]) (p, u) = (b0, b1, true) ∧
    replF rewrite_Replaced.enc z33 (l ++ [⟨⟨p, ⟨#[]⟩⟩, ⟨b0, b1⟩⟩, ⟨⟨p, v⟩, ⟨a0, a1⟩⟩]) (p, u) = (b0, b1, true) := by
  have n1 : ((⟨#[]⟩ : ByteArray).toList == u.toList) = false := beq_false_of_ne (fun e => hu (by rw [← e]; decide +kernel))
  have n2 : (v.toList == u.toList) = false := beq_false_of_ne huv
  have n3 : (v.toList == (⟨#[]⟩ : ByteArray).toList) = false := beq_false_of_ne (fun e => hv (by rw [e]; decide +kernel))
  have z1 : findI (isOld rewrite_Replaced.enc (p, u)) (l ++ [(⟨⟨p, v⟩, ⟨a0, a1⟩⟩ : S33), ⟨⟨p, ⟨#[]⟩⟩, ⟨b0, b1⟩⟩]) 0 = -1 := by
    rw [findI_app _ (old_none h)]
    exact findI_none (fun x hx => by
      rcases List.mem_cons.1 hx with rfl | hx
      · rw [isOld_mk]; simp [n2]
      · rcases List.mem_cons.1 hx with rfl | hx
        · rw [isOld_mk]; simp [hu]
        · cases hx)
  have z2 : findI (isOld rewrite_Replaced.enc (p, u)) (l ++ [(⟨⟨p, ⟨#[]⟩⟩, ⟨b0, b1⟩⟩ : S33), ⟨⟨p, v⟩, ⟨a0, a1⟩⟩]) 0 = -1 := by
    rw [findI_app _ (old_none h)]
    exact findI_none (fun x hx => by
      rcases List.mem_cons.1 hx with rfl | hx
      · rw [isOld_mk]; simp [hu]
      · rcases List.mem_cons.1 hx with rfl | hx
        · rw [isOld_mk]; simp [n2]
        · cases hx)
  refine ⟨?_, ?_⟩
  · unfold replF
    rw [z1, if_neg (by omega), findI_app _ (old_none h)]
    have e : findI (isOld rewrite_Replaced.enc (p, ⟨#[]⟩)) [(⟨⟨p, v⟩, ⟨a0, a1⟩⟩ : S33), ⟨⟨p, ⟨#[]⟩⟩, ⟨b0, b1⟩⟩] (0 + l.length) = ((l.length + 1 : Nat) : Int) := by
      unfold findI
      rw [isOld_mk, if_neg (by simp [hv])]
      unfold findI
      rw [isOld_mk, if_pos (by simp)]; simp
    rw [e, if_pos (by omega)]
    simp only [Int.toNat_natCast]
    rw [getD_app]; rfl
  · unfold replF
    rw [z2, if_neg (by omega), findI_app _ (old_none h)]
    have e : findI (isOld rewrite_Replaced.enc (p, ⟨#[]⟩)) [(⟨⟨p, ⟨#[]⟩⟩, ⟨b0, b1⟩⟩ : S33), ⟨⟨p, v⟩, ⟨a0, a1⟩⟩] (0 + l.length) = ((l.length : Nat) : Int) := by
      unfold findI
      rw [isOld_mk, if_pos (by simp)]; simp
    rw [e, if_pos (by omega)]
    simp only [Int.toNat_natCast]
    rw [show l.length = l.length + 0 from rfl, getD_app]; rfl

/-- The loop over the replaces, and what stands behind it. -/
theorem exact_loop (a00 a01 : ByteArray) (l2 : List S64) (l3 : List S33) (l4 : List S29) (l5 : List S42) (p v a0 a1 b0 b1 : ByteArray) (turn : Bool) (hl : l3.length ≤ 30) (hv : v.toList ≠ []) (hvs : v.size ≤ 140737488351232) :
    ∀ (d i : Nat), l3.length - i = d → i ≤ l3.length → (∀ x ∈ l3.take i, x.f0.f0.toList ≠ p.toList) → Ev (fun k => graftbedlaw08_RewriteExact.l0 k turn i a00 a01 l2 l3 l4 l5 p v a0 a1 b0 b1) true
  | 0, i, hd, hi, hn => by
    obtain rfl : i = l3.length := by omega
    rw [List.take_length] at hn
    have hu : (v ++ (⟨#[120]⟩ : ByteArray)).toList = v.toList ++ [120] := by rw [BytesLib.toList_L, BytesLib.L_append, BytesLib.toList_L]; rfl
    have hu0 : (v ++ (⟨#[120]⟩ : ByteArray)).toList ≠ [] := by rw [hu]; simp
    have huv : v.toList ≠ (v ++ (⟨#[120]⟩ : ByteArray)).toList := by rw [hu]; intro e; have := congrArg List.length e; simp at this
    obtain ⟨o1, o2⟩ := repl_other (a0 := a0) (a1 := a1) (b0 := b0) (b1 := b1) hn hv hu0 huv
    refine Ev.step (f := fun _ => some true) (fun k => ?_) (Ev.now _)
    rw [graftbedlaw08_RewriteExact.l0, if_neg (by omega)]
    simp only [Option.bind_some, List.nil_append, List.length_nil, List.length_cons, Nat.zero_add]
    have q1 : l3.length < 2199023255552 := by omega
    have q2 : (l3 ++ ([] : List S33)).length < 2199023255552 := by simp; omega
    have q3 : v.size + 1 ≤ 9223372036854775807 := by omega
    rw [if_pos (by omega)]
    unfold rewrite_Replaced.f
    simp only [Option.bind_some]
    cases turn with
    | true =>
      rw [if_pos rfl, if_pos (by simp; omega), if_pos q3, repl_none hn, repl_first hn, o1]
      simp
    | false =>
      rw [if_neg (by decide), if_pos (by simp; omega), if_pos q3, repl_none hn, repl_second hn hv, o2]
      simp
  | d + 1, i, hd, hi, hn => by
    have hlt : i < l3.length := by omega
    have hr : rd_T33 l3 (i : Int) = l3[i] := by unfold rd_T33; simp [hlt]
    by_cases hp : (l3[i]).f0.f0.toList = p.toList
    · refine Ev.step (f := fun _ => some true) (fun k => ?_) (Ev.now _)
      rw [graftbedlaw08_RewriteExact.l0, if_pos (by omega), if_pos (by omega), hr, if_pos hp, shown_true]; rfl
    · refine Ev.step (fun k => ?_) (exact_loop a00 a01 l2 l3 l4 l5 p v a0 a1 b0 b1 turn hl hv hvs d (i + 1) (by omega) (by omega) (fun x hx => ?_))
      · rw [graftbedlaw08_RewriteExact.l0, if_pos (by omega), if_pos (by omega), hr, if_neg hp, show wrap64 ((i : Int) + 1) = ((i + 1 : Nat) : Int) by unfold wrap64; omega]
      · rw [List.take_succ_eq_append_getElem hlt, List.mem_append] at hx
        rcases hx with hx | hx
        · exact hn x hx
        · rw [List.mem_singleton.1 hx]; exact hp

theorem RewriteExact (a0_0 : ByteArray) (a0_1 : ByteArray) (l0_2 : List S64) (l0_3 : List S33) (l0_4 : List S29) (l0_5 : List S42) (a1_0 : ByteArray) (a1_1 : ByteArray) (a2_0 : ByteArray) (a2_1 : ByteArray) (a3_0 : ByteArray) (a3_1 : ByteArray) (a4 : Bool) (w0 : ok27 ⟨a0_0, a0_1, l0_2, l0_3, l0_4, l0_5⟩) (w1 : ok29 ⟨a1_0, a1_1⟩) (w2 : ok29 ⟨a2_0, a2_1⟩) (w3 : ok29 ⟨a3_0, a3_1⟩) :
    ∃ k, graftbedlaw08_RewriteExact.f k a0_0 a0_1 l0_2 l0_3 l0_4 l0_5 a1_0 a1_1 a2_0 a2_1 a3_0 a3_1 a4 = some true := by
  refine Ev.rounds (g := fun k => graftbedlaw08_RewriteExact.f k a0_0 a0_1 l0_2 l0_3 l0_4 l0_5 a1_0 a1_1 a2_0 a2_1 a3_0 a3_1 a4) ?_
  have ht : Ev (fun k => graftbedlaw08_RewriteExact.j0 k a4 true a0_0 a0_1 l0_2 l0_3 l0_4 l0_5 a1_0 a1_1 a2_0 a2_1 a3_0 a3_1) true :=
    Ev.step (f := fun _ => some true) (fun k => by rw [graftbedlaw08_RewriteExact.j0, if_pos rfl, shown_true]; rfl) (Ev.now _)
  obtain ⟨b, hb, hl⟩ := heavy_total a0_0 a0_1 l0_2 l0_3 l0_4 l0_5 a1_0 a1_1
  unfold graftbedlaw08_RewriteExact.f
  refine Ev.bind hb ?_
  cases b with
  | true => exact Ev.congr (fun k => by rw [if_pos rfl]) ht
  | false =>
    refine Ev.congr (fun k => by rw [if_neg (by decide)]) ?_
    by_cases h1 : (wrap64 ((a2_0.size : Int) + (a2_1.size : Int))) > 400
    · exact Ev.congr (fun k => by rw [if_pos h1]) ht
    by_cases h2 : (wrap64 ((a3_0.size : Int) + (a3_1.size : Int))) > 400
    · exact Ev.congr (fun k => by rw [if_neg h1, if_pos h2]) ht
    refine Ev.congr (f := fun k => graftbedlaw08_RewriteExact.j0 k a4 (a1_1.toList == ([] : List UInt8)) a0_0 a0_1 l0_2 l0_3 l0_4 l0_5 a1_0 a1_1 a2_0 a2_1 a3_0 a3_1) (fun k => by rw [if_neg h1, if_neg h2, shown_true]; rfl) ?_
    by_cases hv : a1_1.toList = []
    · exact Ev.congr (fun k => by rw [hv]; rfl) ht
    · refine Ev.step (fun k => ?_) (exact_loop a0_0 a0_1 l0_2 l0_3 l0_4 l0_5 a1_0 a1_1 a2_0 a2_1 a3_0 a3_1 a4 (hl rfl) hv w1.2 _ 0 rfl (Nat.zero_le _) (by simp))
      rw [graftbedlaw08_RewriteExact.j0, if_neg (by simpa using hv)]; rfl
end Go.Proofs.Ytecccjpbfbbaoaa.Pure
