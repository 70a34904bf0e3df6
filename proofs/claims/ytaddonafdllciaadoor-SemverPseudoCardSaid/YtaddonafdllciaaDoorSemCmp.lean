/- The order of versions, as a comparison that goes on. No condition on the program. -/
import Derived.Test.YtaddonafdllciaaDoorSemOrder
import Derived.Test.YtaddonafdllciaaDoorSemSplit
namespace Go.Proofs.YtaddonafdllciaaDoor.SemCmp
open Go.RowKit Go.Proofs.YtaddonafdllciaaDoorW.PrintWords Go.Proofs.YtaddonafdllciaaDoor.BytesLib Go.Proofs.YtaddonafdllciaaDoor.SemParts Go.Proofs.YtaddonafdllciaaDoor.SemNum Go.Proofs.YtaddonafdllciaaDoor.SemParse Go.Proofs.YtaddonafdllciaaDoor.SemOrder Go.Proofs.YtaddonafdllciaaDoor.SemSplit
set_option linter.unusedVariables false
set_option linter.unusedSimpArgs false

theorem lt_irr (a : List UInt8) : ¬ a < a := by
  induction a with
  | nil => exact fun h => nomatch h
  | cons x a ih => rw [List.cons_lt_cons_iff]; rintro (h | ⟨_, h⟩); exact UInt8.lt_irrefl _ h; exact ih h

theorem lt_tri : ∀ (a b : List UInt8), a < b ∨ a = b ∨ b < a
  | [], [] => .inr (.inl rfl)
  | [], _ :: _ => .inl (List.nil_lt_cons _ _)
  | _ :: _, [] => .inr (.inr (List.nil_lt_cons _ _))
  | x :: a, y :: b => by
    rw [List.cons_lt_cons_iff, List.cons_lt_cons_iff]
    by_cases h1 : x < y
    · exact .inl (.inl h1)
    · by_cases h2 : y < x
      · exact .inr (.inr (.inl h2))
      · obtain rfl : x = y := by
          rw [UInt8.lt_iff_toNat_lt] at h1 h2
          exact UInt8.toNat_inj.1 (by omega)
        rcases lt_tri a b with h | h | h
        · exact .inl (.inr ⟨rfl, h⟩)
        · exact .inr (.inl (by rw [h]))
        · exact .inr (.inr (.inr ⟨rfl, h⟩))

theorem lt_tr : ∀ {a b c : List UInt8}, a < b → b < c → a < c
  | [], [], _, h, _ => nomatch h
  | _ :: _, [], _, h, _ => nomatch h
  | _, _ :: _, [], _, h => nomatch h
  | [], _ :: _, _ :: _, _, _ => List.nil_lt_cons _ _
  | x :: a, y :: b, z :: c, h, k => by
    rw [List.cons_lt_cons_iff] at h k ⊢
    rcases h with h | ⟨rfl, h⟩
    · rcases k with k | ⟨rfl, k⟩
      · exact .inl (UInt8.lt_trans h k)
      · exact .inl h
    · rcases k with k | ⟨rfl, k⟩
      · exact .inl k
      · exact .inr ⟨rfl, lt_tr h k⟩

theorem lt_asy {a b : List UInt8} (h : a < b) : ¬ b < a := fun k => lt_irr a (lt_tr h k)

/-- A comparison: turned round it turns its sign; it goes on; it tells -1, 0 or 1. -/
structure IsCmp {α : Type} (C : α → α → Int) : Prop where
  anti : ∀ a b, C b a = - C a b
  trans : ∀ a b c, C a b ≤ 0 → C b c ≤ 0 → C a c ≤ 0
  one : ∀ a b, C a b = -1 ∨ C a b = 0 ∨ C a b = 1

theorem IsCmp.self {α : Type} {C : α → α → Int} (h : IsCmp C) (a : α) : C a a = 0 := by have := h.anti a a; omega

theorem lex_trans {α : Type} {C : α → α → Int} (h : IsCmp C) {a b c : α} {x y z : Int} (ht : x ≤ 0 → y ≤ 0 → z ≤ 0) (h1 : orI (C a b) x ≤ 0) (h2 : orI (C b c) y ≤ 0) : orI (C a c) z ≤ 0 := by
  have e1 := h.anti a b
  have e2 := h.anti b c
  have e3 := h.anti a c
  unfold orI at h1 h2 ⊢
  have l1 : C a b ≤ 0 := by split at h1 <;> omega
  have l2 : C b c ≤ 0 := by split at h2 <;> omega
  have l3 := h.trans a b c l1 l2
  by_cases h0 : C a c = 0
  · have t1 := h.trans b c a l2 (by omega)
    have t2 := h.trans c a b (by omega) l1
    rw [if_pos (by omega)] at h1 h2
    rw [if_pos h0]
    exact ht h1 h2
  · rw [if_neg h0]
    exact l3

theorem IsCmp.lex {α : Type} {C D : α → α → Int} (h : IsCmp C) (k : IsCmp D) : IsCmp (fun a b => orI (C a b) (D a b)) where
  anti a b := by
    have e1 := h.anti a b
    have e2 := k.anti a b
    show orI (C b a) (D b a) = - orI (C a b) (D a b)
    unfold orI
    split <;> split <;> omega
  trans a b c h1 h2 := lex_trans h (k.trans a b c) h1 h2
  one a b := by
    show orI (C a b) (D a b) = -1 ∨ orI (C a b) (D a b) = 0 ∨ orI (C a b) (D a b) = 1
    unfold orI
    split
    · exact k.one a b
    · exact h.one a b

theorem IsCmp.pull {α β : Type} {C : β → β → Int} (h : IsCmp C) (f : α → β) : IsCmp (fun a b => C (f a) (f b)) :=
  ⟨fun a b => h.anti _ _, fun a b c => h.trans _ _ _, fun a b => h.one _ _⟩

theorem cmpI_cmp : IsCmp cmpI where
  anti a b := by unfold cmpI; repeat' split <;> omega
  trans a b c h1 h2 := by
    unfold cmpI at h1 h2 ⊢
    repeat' split at h1
    all_goals repeat' split at h2
    all_goals repeat' split
    all_goals omega
  one a b := by unfold cmpI; repeat' split <;> omega

theorem cmpS_eq (a b : ByteArray) : cmpS a b = if L a < L b then -1 else if L b < L a then 1 else 0 := by
  unfold cmpS
  rw [bytesLess_eq, bytesLess_eq, toList_L, toList_L]
  simp only [decide_eq_true_eq]
theorem cmpS_zero {a b : ByteArray} (h : cmpS a b = 0) : a = b := by
  rw [cmpS_eq] at h
  rcases lt_tri (L a) (L b) with h1 | h1 | h1
  · rw [if_pos h1] at h; omega
  · exact L_inj h1
  · rw [if_neg (lt_asy h1), if_pos h1] at h; omega
theorem cmpS_cmp : IsCmp cmpS where
  anti a b := by
    rw [cmpS_eq, cmpS_eq]
    by_cases h1 : L a < L b
    · rw [if_pos h1, if_neg (lt_asy h1), if_pos h1]; rfl
    · rw [if_neg h1]
      by_cases h2 : L b < L a
      · rw [if_pos h2, if_pos h2, if_neg h1]
      · rw [if_neg h2, if_neg h2, if_neg h1]; rfl
  trans a b c h1 h2 := by
    rw [cmpS_eq] at h1 h2 ⊢
    have k1 : ¬ L b < L a := fun h => by rw [if_neg (lt_asy h), if_pos h] at h1; omega
    have k2 : ¬ L c < L b := fun h => by rw [if_neg (lt_asy h), if_pos h] at h2; omega
    have k3 : ¬ L c < L a := by
      intro h
      rcases lt_tri (L a) (L b) with h3 | h3 | h3
      · exact k2 (lt_tr h h3)
      · exact k2 (h3 ▸ h)
      · exact k1 h3
    rw [if_neg k3]
    split <;> omega
  one a b := by rw [cmpS_eq]; repeat' split <;> omega

/-- Rows, element by element; a shorter one ahead of those that go on. -/
def LC {α : Type} (C : α → α → Int) : List α → List α → Int
  | [], [] => 0
  | [], _ :: _ => -1
  | _ :: _, [] => 1
  | x :: xs, y :: ys => orI (C x y) (LC C xs ys)

theorem LC_anti {α : Type} {C : α → α → Int} (h : IsCmp C) : ∀ a b, LC C b a = - LC C a b
  | [], [] => rfl
  | [], _ :: _ => rfl
  | _ :: _, [] => rfl
  | x :: xs, y :: ys => by
    have e1 := h.anti x y
    have e2 := LC_anti h xs ys
    show orI (C y x) (LC C ys xs) = - orI (C x y) (LC C xs ys)
    unfold orI
    split <;> split <;> omega
theorem LC_one {α : Type} {C : α → α → Int} (h : IsCmp C) : ∀ a b, LC C a b = -1 ∨ LC C a b = 0 ∨ LC C a b = 1
  | [], [] => .inr (.inl rfl)
  | [], _ :: _ => .inl rfl
  | _ :: _, [] => .inr (.inr rfl)
  | x :: xs, y :: ys => by
    show orI (C x y) (LC C xs ys) = -1 ∨ orI (C x y) (LC C xs ys) = 0 ∨ orI (C x y) (LC C xs ys) = 1
    unfold orI
    split
    · exact LC_one h xs ys
    · exact h.one x y
theorem LC_trans {α : Type} {C : α → α → Int} (h : IsCmp C) : ∀ a b c, LC C a b ≤ 0 → LC C b c ≤ 0 → LC C a c ≤ 0
  | [], _, [], _, _ => Int.le_refl _
  | [], _, _ :: _, _, _ => by show (-1 : Int) ≤ 0; omega
  | _ :: _, [], _, h1, _ => absurd h1 (by show ¬ (1 : Int) ≤ 0; omega)
  | _ :: _, _ :: _, [], _, h2 => absurd h2 (by show ¬ (1 : Int) ≤ 0; omega)
  | x :: xs, y :: ys, z :: zs, h1, h2 => lex_trans h (LC_trans h xs ys zs) h1 h2
theorem LC_cmp {α : Type} {C : α → α → Int} (h : IsCmp C) : IsCmp (LC C) := ⟨LC_anti h, LC_trans h, LC_one h⟩
theorem LC_zero {α : Type} {C : α → α → Int} (hz : ∀ a b, C a b = 0 → a = b) : ∀ a b, LC C a b = 0 → a = b
  | [], [], _ => rfl
  | [], _ :: _, h => absurd h (by show ¬ (-1 : Int) = 0; omega)
  | _ :: _, [], h => absurd h (by show ¬ (1 : Int) = 0; omega)
  | x :: xs, y :: ys, h => by
    have h' : orI (C x y) (LC C xs ys) = 0 := h
    unfold orI at h'
    by_cases h0 : C x y = 0
    · rw [if_pos h0] at h'
      rw [hz x y h0, LC_zero hz xs ys h']
    · rw [if_neg h0] at h'
      exact absurd h' h0

/-- Two identifiers. -/
def nd (a : ByteArray) : Int := if everyB digB a = true then 0 else 1
def dl (a : ByteArray) : Int := if everyB digB a = true then a.size else 0
theorem orderF_eq (a b : ByteArray) : orderF a b = orI (cmpI (nd a) (nd b)) (orI (cmpI (dl a) (dl b)) (cmpS a b)) := by
  unfold orderF nd dl
  cases everyB digB a <;> cases everyB digB b <;> simp [orI, cmpI]
theorem orderF_cmp : IsCmp orderF := by
  rw [show orderF = (fun a b => orI (cmpI (nd a) (nd b)) (orI (cmpI (dl a) (dl b)) (cmpS a b))) from funext fun a => funext fun b => orderF_eq a b]
  exact (cmpI_cmp.pull nd).lex ((cmpI_cmp.pull dl).lex cmpS_cmp)
theorem orderF_zero (a b : ByteArray) (h : orderF a b = 0) : a = b := by
  rw [orderF_eq] at h
  unfold orI at h
  split at h
  · split at h
    · exact cmpS_zero h
    · contradiction
  · contradiction

theorem split_inj {a b : ByteArray} (h : split 46 a = split 46 b) : a = b := by
  rw [split_list, split_list] at h
  have h1 := congrArg (List.map L) h
  rw [L_map, L_map] at h1
  exact L_inj (by rw [← joinL_split 46 (L a), ← joinL_split 46 (L b), h1])

/-- Two versions' Pre. -/
def pk (a : ByteArray) : Int := if a.toList = [] then 1 else 0
def preC (a b : ByteArray) : Int := orI (cmpI (pk a) (pk b)) (LC orderF (split 46 a) (split 46 b))
theorem preC_cmp : IsCmp preC := (cmpI_cmp.pull pk).lex ((LC_cmp orderF_cmp).pull (split 46))

theorem goF_eq : ∀ (xs : List ByteArray) (b : ByteArray) (more : Bool), goF xs b more = if LC orderF xs (rest more b) = 0 then -1 else LC orderF xs (rest more b)
  | [], b, more => by
    show (-1 : Int) = _
    cases hr : rest more b with
    | nil => rfl
    | cons y ys => rfl
  | x :: xs, b, false => rfl
  | x :: xs, b, true => by
    have hs : rest true b = cutA 46 b :: rest (cutF 46 b) (cutB 46 b) := by
      show split 46 b = _
      rw [split_eq, rest_eq]
    rw [hs]
    show goF (x :: xs) b true = if orI (orderF x (cutA 46 b)) (LC orderF xs (rest (cutF 46 b) (cutB 46 b))) = 0 then -1 else orI (orderF x (cutA 46 b)) (LC orderF xs (rest (cutF 46 b) (cutB 46 b)))
    unfold goF orI
    rw [if_neg (by decide)]
    by_cases h0 : orderF x (cutA 46 b) = 0
    · rw [if_pos h0, if_pos h0, goF_eq xs]
    · rw [if_neg h0, if_neg h0, if_neg h0]

theorem toList_nil {a : ByteArray} : a.toList = [] ↔ a = ⟨#[]⟩ := by
  rw [toList_L]
  constructor
  · intro h; exact L_inj (by rw [h]; rfl)
  · intro h; rw [h]; rfl
theorem preF_eq (a b : ByteArray) : preF a b = preC a b := by
  unfold preF
  by_cases h : a.toList = b.toList
  · rw [if_pos h]
    obtain rfl := toList_inj.1 h
    exact (preC_cmp.self a).symm
  · rw [if_neg h]
    unfold preC pk
    by_cases h1 : a.toList = []
    · have h2 : ¬ b.toList = [] := fun e => h (h1.trans e.symm)
      rw [if_pos h1, if_pos h1, if_neg h2]; rfl
    · rw [if_neg h1, if_neg h1]
      by_cases h2 : b.toList = []
      · rw [if_pos h2, if_pos h2]; rfl
      · rw [if_neg h2, if_neg h2]
        show goF (split 46 a) b true = orI 0 _
        rw [goF_eq]
        have hne : ¬ LC orderF (split 46 a) (rest true b) = 0 := fun e => h (by rw [split_inj (LC_zero orderF_zero _ _ e)])
        rw [if_neg hne]
        rfl

/-- Two parsed versions; what is none stands ahead of all. -/
def ek (p : Int × Int × Int × ByteArray × ByteArray × Int) : Int := if p.2.2.2.2.2 = 0 then 1 else 0
abbrev Ver := Int × Int × Int × ByteArray × ByteArray × Int
def cmpP (p q : Int × Int × Int × ByteArray × ByteArray × Int) : Int :=
  orI (cmpI (ek p) (ek q)) (orI (cmpI p.1 q.1) (orI (cmpI p.2.1 q.2.1) (orI (cmpI p.2.2.1 q.2.2.1) (preC p.2.2.2.1 q.2.2.2.1))))
theorem cmpP_cmp : IsCmp cmpP :=
  (cmpI_cmp.pull ek).lex ((cmpI_cmp.pull (fun p : Ver => p.1)).lex ((cmpI_cmp.pull (fun p : Ver => p.2.1)).lex ((cmpI_cmp.pull (fun p : Ver => p.2.2.1)).lex (preC_cmp.pull (fun p : Ver => p.2.2.2.1)))))
def VC (a b : ByteArray) : Int := cmpP (parseF a) (parseF b)
theorem VC_cmp : IsCmp VC := cmpP_cmp.pull parseF

end Go.Proofs.YtaddonafdllciaaDoor.SemCmp
