/- paths.Compare, Within, Split and tree.inside in plain words: what they answer. -/
import Derived.Test.YtmocfgghccmdgaaMbb
import Derived.Test.YtmocfgghccmdgaaOrderLib
import Derived.Test.YtmocfgghccmdgaaValid
namespace Go.Proofs.Ytmocfgghccmdgaa.PathBase
open Go.RowKit Go.Proofs.Ytmocfgghccmdgaa.BTb Go.Proofs.YtmocfgghccmdgaaW.PrintWords Go.Proofs.YtmocfgghccmdgaaW.PrintLast
open Go.Proofs.Ytmocfgghccmdgaa.BytesLib Go.Proofs.Ytmocfgghccmdgaa.SplitLib Go.Proofs.Ytmocfgghccmdgaa.OrderLib Go.Proofs.Ytmocfgghccmdgaa.Elems Go.Proofs.Ytmocfgghccmdgaa.Valid
set_option linter.unusedVariables false

theorem cmp_texts (a b : ByteArray) : cmp_Compare_string.f a b = some (cmpB (L a) (L b)) := by
  unfold cmp_Compare_string.f cmp_isNaN_string.f cmpB
  simp only [Option.bind_some, bne_self_eq_false, Bool.false_eq_true, if_false]
  rw [toList_L, toList_L]
  by_cases h1 : L a < L b
  · rw [if_pos ((less_iff _ _).2 h1), if_pos h1]
  · rw [if_neg (fun e => h1 ((less_iff _ _).1 e)), if_neg h1]
    by_cases h2 : L b < L a
    · rw [if_pos ((less_iff _ _).2 h2), if_pos h2]
    · rw [if_neg (fun e => h2 ((less_iff _ _).1 e)), if_neg h2]

theorem slices_cmp_loop (x y : List ByteArray) (hx : x.length ≤ 1099511627777) (d : Nat) : ∀ (i : Nat), i ≤ x.length → x.length - i = d → i ≤ y.length →
    (i < x.length ∨ i = x.length) →
    Ev (fun k => slices_Compare_string_string.l0 k x y x (x.length : Int) (i : Int)) (cmpLL ((x.drop i).map L) ((y.drop i).map L)) := by
  induction d with
  | zero =>
    intro i h1 h2 h3 _
    obtain rfl : i = x.length := by omega
    rw [List.drop_length]
    refine Ev.step (f := fun _ => some (cmpLL [] ((y.drop x.length).map L))) (fun k => ?_) (Ev.now _)
    simp only [slices_Compare_string_string.l0]
    rw [if_neg (by omega)]
    by_cases h : (x.length : Int) < (y.length : Int)
    · rw [if_pos h, List.drop_eq_getElem_cons (by omega), List.map_cons]; rfl
    · rw [if_neg h, List.drop_of_length_le (by omega)]; rfl
  | succ d ih =>
    intro i h1 h2 h3 _
    have hlt : i < x.length := by omega
    rw [List.drop_eq_getElem_cons hlt, List.map_cons]
    by_cases hy : i < y.length
    · rw [List.drop_eq_getElem_cons hy, List.map_cons, cmpLL_cons]
      by_cases hc : cmpB (L x[i]) (L y[i]) = 0
      · rw [if_pos hc]
        refine Ev.step (f := fun k => slices_Compare_string_string.l0 k x y x (x.length : Int) ((i + 1 : Nat) : Int)) (fun k => ?_) (ih (i + 1) (by omega) (by omega) (by omega) (by omega))
        simp only [slices_Compare_string_string.l0]
        rw [if_pos (by omega), if_pos (by omega), if_pos (by omega), if_neg (by omega), if_pos (by omega), cmp_texts, rdOf_get _ hlt, rdOf_get _ hy, hc]
        simp only [Option.bind_some, if_true]
        rw [w64 (by omega) (by omega)]
        rfl
      · rw [if_neg hc]
        refine Ev.step (f := fun _ => some (cmpB (L x[i]) (L y[i]))) (fun k => ?_) (Ev.now _)
        simp only [slices_Compare_string_string.l0]
        rw [if_pos (by omega), if_pos (by omega), if_pos (by omega), if_neg (by omega), if_pos (by omega), cmp_texts, rdOf_get _ hlt, rdOf_get _ hy]
        simp only [Option.bind_some]
        rw [if_neg hc]
    · rw [List.drop_of_length_le (l := y) (by omega)]
      refine Ev.step (f := fun _ => some 1) (fun k => ?_) (Ev.now _)
      simp only [slices_Compare_string_string.l0]
      rw [if_pos (by omega), if_pos (by omega), if_pos (by omega), if_pos (by omega)]

/-- The order of two paths. -/
def cmpP (a b : ByteArray) : Int := cmpLL (elemsL (L a)) (elemsL (L b))

theorem elems_map (s : ByteArray) : (elems s).map L = elemsL (L s) := by rw [elems_list, L_map]


theorem Compare_calls (a b : ByteArray) (ha : a.size ≤ 1099511627776) (hb : b.size ≤ 1099511627776) (w : World) :
    Calls Try.prog 47 #[.string a, .string b] w fun e w' => e = .returned (.int .i64 (cmpP a b)) ∧ Below w.heap.size w w' := by
  have hl := elems_length a
  have h := slices_cmp_loop (elems a) (elems b) (by omega) (elems a).length 0 (Nat.zero_le _) (by omega) (Nat.zero_le _) (by omega)
  rw [List.drop_zero, List.drop_zero, elems_map, elems_map] at h
  obtain ⟨k, hk⟩ := Ev.rounds h
  have HA := Aside0.mk (Elems_calls a (by omega))
  have HB := Aside0.mk (Elems_calls b (by omega))
  have HC := Aside0.mk (show slices_Compare_string_string.f k (elems a) (elems b) = some (cmpP a b) from hk)
  clear h hk hl
  go_enter Try.func47, Try.ntmps47
  go_wp2_with fail
  refine (HA.out _).mono ?_
  rintro e w1 ⟨v1, rfl, hr1, hb1⟩
  obtain ⟨A1, c1, rfl, hcc1, hc1⟩ := Kd.R_reads hr1
  have HB1 := Aside0.mk hb1
  have H1 := Aside0.mk hc1
  have HCC1 := Aside0.mk hcc1
  clear hr1 hb1 hc1 hcc1
  go_wp2_with fail
  refine (HB.out _).mono ?_
  rintro e w2 ⟨v2, rfl, hr2, hb2⟩
  obtain ⟨A2, c2, rfl, hcc2, hc2⟩ := Kd.R_reads hr2
  have HB2 := Aside0.mk (HB1.out.trans (hb2.mono HB1.out.size))
  have H2 := Aside0.mk (slices_Compare_string_string.calls k A1 c1 (elems a) A2 c2 (elems b) (cmpP a b) w2 (Kd.C_below H1.out hb2) HCC1.out hc2 hcc2 HC.out)
  clear hr2 hb2 hc2 hcc2
  go_wp2_with fail
  refine H2.out.mono ?_
  rintro e w3 ⟨rfl, nd, rfl⟩
  go_wp2_with fail
  go_ret
  exact ⟨rfl, pw_below_drewN HB2.out nd⟩

theorem here_f (s : ByteArray) : paths_here.f s = some (decide (L s = [] ∨ L s = [46])) := by
  unfold paths_here.f
  rw [toList_L]
  by_cases h1 : L s = []
  · rw [if_pos h1]; simp [h1]
  · rw [if_neg h1]
    by_cases h2 : L s = [46]
    · simp [h2]
    · rw [beq_eq_false_iff_ne.2 h2]; simp [h1, h2]

theorem within_f (s d : ByteArray) (hd : d.size ≤ 1099511627776) :
    paths_Within.f s d = some (if L d = [] ∨ L d = [46] then (s, true) else if L s = L d then ((⟨#[]⟩ : ByteArray), true)
      else if L d ++ [47] <+: L s then (s.extract (d.size + 1) s.size, true) else ((⟨#[]⟩ : ByteArray), false)) := by
  unfold paths_Within.f
  rw [here_f]
  simp only [Option.bind_some]
  by_cases h1 : L d = [] ∨ L d = [46]
  · rw [decide_eq_true h1, if_pos rfl, if_pos h1]
  · rw [decide_eq_false h1, if_neg (by decide), if_neg h1, toList_L, toList_L]
    by_cases h2 : L s = L d
    · rw [if_pos h2, if_pos h2]
    · have s1 : (d ++ (⟨#[47]⟩ : ByteArray)).size = d.size + 1 := size_append _ _
      rw [if_neg h2, if_neg h2, if_pos (by omega)]
      unfold strings_CutPrefix.f stringslite_CutPrefix.f stringslite_HasPrefix.f
      rw [s1]
      by_cases h3 : L d ++ [47] <+: L s
      · have hl := h3.length_le
        rw [List.length_append, L_length, L_length, List.length_singleton] at hl
        rw [if_pos h3, if_pos (by omega), if_pos (by omega), if_pos (by omega), toList_L, toList_L, L_head, L_append]
        rw [show ((L s).take (((d.size + 1 : Nat) : Int)).toNat == L d ++ L (⟨#[47]⟩ : ByteArray)) = true from by
          rw [beq_iff_eq, Int.toNat_natCast]
          have := List.prefix_iff_eq_take.1 h3
          rw [List.length_append, L_length, List.length_singleton] at this
          exact this.symm]
        simp only [Option.bind_some, if_true]
        rw [if_pos (by omega), if_pos (by omega)]; rfl
      · rw [if_neg h3]
        by_cases h4 : (s.size : Int) ≥ ((d.size + 1 : Nat) : Int)
        · rw [if_pos h4, if_pos (by omega), if_pos (by omega), toList_L, toList_L, L_head, L_append]
          rw [show ((L s).take (((d.size + 1 : Nat) : Int)).toNat == L d ++ L (⟨#[47]⟩ : ByteArray)) = false from by
            rw [beq_eq_false_iff_ne, Int.toNat_natCast]
            intro e
            apply h3
            rw [show L d ++ [47] = (L s).take (d.size + 1) from e.symm]
            exact List.take_prefix _ _]
          simp
        · rw [if_neg h4]; simp

/-- What Within answers. -/
def withinF (s d : ByteArray) : ByteArray × Bool := if L d = [] ∨ L d = [46] then (s, true) else if L s = L d then ((⟨#[]⟩ : ByteArray), true)
      else if L d ++ [47] <+: L s then (s.extract (d.size + 1) s.size, true) else ((⟨#[]⟩ : ByteArray), false)
def insideF (p d : ByteArray) : Bool := (withinF p d).2 && (withinF p d).1.toList != []
theorem inside_calls (p d : ByteArray) (hd : d.size ≤ 1099511627776) (w : World) :
    Calls Try.prog 48 #[.string p, .string d] w fun e w' => e = .returned (.bool (insideF p d)) ∧ Drawn0 w w' := by
  refine tree_inside.calls p d _ w ?_
  unfold tree_inside.f
  rw [within_f p d hd]
  show (if (withinF p d).2 = true then _ else _) = _
  unfold insideF
  cases (withinF p d).2 with
  | true => rw [if_pos rfl]; rfl
  | false => rw [if_neg (by decide)]; rfl

/-- The last place of a byte, from i down. -/
def lastI (l : List UInt8) (c : UInt8) : Nat → Int
  | 0 => -1
  | i + 1 => if l[i]? = some c then (i : Int) else lastI l c i
theorem lastI_le (l : List UInt8) (c : UInt8) : ∀ i, -1 ≤ lastI l c i ∧ lastI l c i < (i : Int)
  | 0 => ⟨by show (-1 : Int) ≤ -1; omega, by show (-1 : Int) < 0; omega⟩
  | i + 1 => by
    have := lastI_le l c i
    unfold lastI
    split <;> omega
theorem last_loop (s : ByteArray) (hn : s.size ≤ 140737488351232) : ∀ (d : Nat), d ≤ s.size → Ev (fun k => bytealg_LastIndexByteString.l0 k s 47 ((d : Int) - 1)) (lastI (L s) 47 d)
  | 0, hd => Ev.step (f := fun _ => some (-1)) (fun k => by simp only [bytealg_LastIndexByteString.l0]; rw [if_neg (by omega)]) (Ev.now _)
  | d + 1, hd => by
    have hlt : d < (L s).length := by rw [L_length]; omega
    have hb : bt s (d : Int) = (((L s)[d]).toNat : Int) := bt_nat hlt
    have e : ((d + 1 : Nat) : Int) - 1 = (d : Int) := by omega
    rw [e]
    unfold lastI
    by_cases h : (L s)[d]? = some 47
    · rw [if_pos h]
      refine Ev.step (f := fun _ => some (d : Int)) (fun k => ?_) (Ev.now _)
      have h2 : (L s)[d] = 47 := by rw [List.getElem?_eq_getElem hlt] at h; exact Option.some.inj h
      simp only [bytealg_LastIndexByteString.l0]
      rw [if_pos (by omega), if_pos (by omega), if_pos (by omega), if_pos (by rw [hb, h2]; rfl)]
    · rw [if_neg h]
      refine Ev.step (fun k => ?_) (last_loop s hn d (by omega))
      have h2 : ¬ (L s)[d] = 47 := fun e => h (by rw [List.getElem?_eq_getElem hlt, e])
      simp only [bytealg_LastIndexByteString.l0]
      rw [if_pos (by omega), if_pos (by omega), if_pos (by omega), if_neg (by rw [hb]; intro e2; exact h2 (by apply UInt8.toNat_inj.1; show (L s)[d].toNat = 47; omega)), w64 (by omega) (by omega)]
/-- What Split answers. -/
def splitF (s : ByteArray) : ByteArray × ByteArray := if lastI (L s) 47 s.size ≥ 0 then (s.extract 0 (lastI (L s) 47 s.size).toNat, s.extract (lastI (L s) 47 s.size + 1).toNat s.size) else ((⟨#[]⟩ : ByteArray), s)
theorem split_ev (s : ByteArray) (hn : s.size ≤ 140737488351232) : Ev (fun k => paths_Split.f k s) (splitF s) := by
  have h := last_loop s hn s.size (Nat.le_refl _)
  have hle := lastI_le (L s) 47 s.size
  unfold paths_Split.f strings_LastIndexByte.f bytealg_LastIndexByteString.f
  rw [w64 (x := (s.size : Int) - 1) (by omega) (by omega)]
  refine Ev.bind (Ev.bind h (Ev.now _)) ?_
  unfold splitF
  by_cases g : lastI (L s) 47 s.size ≥ 0
  · exact Ev.congr (f := fun _ => some _) (fun k => by rw [if_pos g, if_pos (by omega), w64 (by omega) (by omega), if_pos (by omega), if_pos (by omega), if_pos (by omega)]; rw [if_pos g]) (Ev.now _)
  · exact Ev.congr (f := fun _ => some _) (fun k => by rw [if_neg g, if_neg g]) (Ev.now _)
theorem Split_calls (s : ByteArray) (hn : s.size ≤ 140737488351232) (w : World) :
    Calls Try.prog 67 #[.string s] w fun e w' => e = .returned (.tuple #[.string (splitF s).1, .string (splitF s).2]) ∧ Drawn0 w w' := by
  obtain ⟨k, hk⟩ := Ev.rounds (split_ev s hn)
  exact paths_Split.calls k s _ _ w hk
/-- A directory is shorter. -/
theorem split_lt (s : ByteArray) : (splitF s).1.size < s.size ∨ (splitF s).1.toList = [] := by
  have hle := lastI_le (L s) 47 s.size
  unfold splitF
  by_cases g : lastI (L s) 47 s.size ≥ 0
  · rw [if_pos g]
    refine .inl ?_
    show (s.extract 0 _).size < _
    rw [ByteArray.size_extract]
    omega
  · rw [if_neg g]; exact .inr (by rw [toList_L]; rfl)
end Go.Proofs.Ytmocfgghccmdgaa.PathBase
