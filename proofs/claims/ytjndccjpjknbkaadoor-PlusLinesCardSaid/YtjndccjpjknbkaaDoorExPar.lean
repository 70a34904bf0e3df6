/- expr.Parse: the walk. The conditions: the machine's sizes. -/
import Derived.Test.YtjndccjpjknbkaaDoorExNot
import Derived.Test.YtjndccjpjknbkaaDoorExCheck
namespace Go.Proofs.YtjndccjpjknbkaaDoor.ExPar
open Go Go.Proofs Go.RowKit Go.Proofs.YtjndccjpjknbkaaDoorW.PrintWords Go.Proofs.YtjndccjpjknbkaaDoor.BytesLib Go.Proofs.YtjndccjpjknbkaaDoor.ExLib Go.Proofs.YtjndccjpjknbkaaDoor.RowsLib Go.Proofs.YtjndccjpjknbkaaDoor.ExNode Go.Proofs.YtjndccjpjknbkaaDoor.ExTag Go.Proofs.YtjndccjpjknbkaaDoor.ExParse Go.Proofs.YtjndccjpjknbkaaDoor.ExNot
open Go.Proofs.YtjndccjpjknbkaaDoor.ExCheck (checkF Check_calls)
set_option linter.unusedVariables false
set_option linter.unusedSimpArgs false

/-! ### The parser's tags are no longer than the text -/
def Small (K : Nat) (l : List Nd) : Prop := ∀ n ∈ l, n.tag.size ≤ K
def Keeps (F : St → Int × St) (K : Nat) : Prop := ∀ T, K ≤ T → ∀ x : St, x.s.size ≤ K → Small T x.l → Small T (F x).2.l
theorem Small.put {K : Nat} {l : List Nd} {n : Nd} (h : Small K l) (hn : n.tag.size ≤ K) : Small K (l ++ [n]) := by
  intro m hm
  rcases List.mem_append.1 hm with h1 | h1
  · exact h m h1
  · rw [List.mem_singleton] at h1
    subst h1; exact hn
theorem loop_keeps {kind : Int} {sign : ByteArray} {one : St → Int × St} {K T : Nat} (h : Keeps one K) (hg : ExParse.Good one K) (hT : K ≤ T) : ∀ (m : Nat) (a : Int) (x : St), x.s.size ≤ K → Small T x.l → Small T (loopF kind sign one m a x).2.l
  | 0, a, x, hx, hs => by
    unfold loopF
    split
    · exact hs
    · exact hs
  | m + 1, a, x, hx, hs => by
    unfold loopF
    split
    · split
      · have h0 := takeS_size x.s sign
        have h1 : (takeF sign x).2.s.size ≤ K := by show (takeS x.s sign).size ≤ K; omega
        have h2 := h T hT (takeF sign x).2 h1 hs
        have h3 := (hg (takeF sign x).2 h1).1
        exact loop_keeps h hg hT m _ _ (by show (one (takeF sign x).2).2.s.size ≤ K; omega) (h2.put (Nat.zero_le _))
      · exact hs
    · exact hs
theorem row_keeps {kind : Int} {sign : ByteArray} {one : St → Int × St} {K : Nat} (h : Keeps one K) (hg : ExParse.Good one K) (m : Nat) : Keeps (rowF kind sign one m) K := fun T hT x hx hs => by
  have := (hg x hx).1
  exact loop_keeps h hg hT m _ _ (by omega) (h T hT x hx hs)
theorem not_keeps : ∀ (n : Nat) (d : Int) (K : Nat), K < n → Keeps (notF n d) K
  | 0, d, K, h => absurd h (Nat.not_lt_zero _)
  | n + 1, d, K, h => by
    intro T hT x hx hs
    unfold notF
    have t0 := takeS_size x.s bang
    have t1 := takeS_size (takeS x.s bang) bang
    have t2 := takeS_size (takeS x.s bang) lpar
    have e1 : bang.size = 1 := rfl
    have e2 : lpar.size = 1 := rfl
    split
    · exact hs
    · split
      · rename_i h1
        have h2 := takeS_lt h1
        exact (not_keeps n d (K - 1) (by omega) T (by omega) (bangSt x) (by show (takeS (takeS x.s bang) bang).size ≤ K - 1; omega) hs).put (Nat.zero_le _)
      · split
        · rename_i h1
          have h2 := takeS_lt h1
          split
          · have g0 := not_good n (d - 1) (K - 1) (by omega)
            have g1 := row_good (kind := 2) (sign := andand) g0 (by decide) n
            have k1 := row_keeps (kind := 2) (sign := andand) (not_keeps n (d - 1) (K - 1) (by omega)) g0 n
            have k2 := row_keeps (kind := 3) (sign := oror) k1 g1 n T (by omega) (parSt x true) (by show (takeS (takeS x.s bang) lpar).size ≤ K - 1; omega) hs
            show Small T (closeF _).l
            rw [(closeF_s _).2]
            exact k2
          · exact hs
        · refine Small.put hs ?_
          show (ofL _).size ≤ T
          rw [size_ofL, List.length_take, L_length]
          show min _ (takeS (takeS x.s bang) lpar).size ≤ T
          omega

/-- The parser's state behind a whole text. -/
def parseS (s : ByteArray) : St := (orF (s.size + 1) 40 ⟨s, [], true⟩).2
def parseF (s : ByteArray) : List Nd × Int := if (parseS s).ok = true ∧ (takeS (parseS s).s e0).toList.isEmpty = true ∧ checkF (parseS s).l = 0 then ((parseS s).l, 0) else ([], 120)
theorem take_e0 (s : ByteArray) : takeB s e0 = true := by
  unfold takeB hasP Lib.hasPrefix
  rfl
theorem parse_small (s : ByteArray) : Small s.size (parseS s).l := by
  have g0 := not_good (s.size + 1) 40 s.size (by omega)
  have k0 := not_keeps (s.size + 1) 40 s.size (by omega)
  have g1 := row_good (kind := 2) (sign := andand) g0 (by decide) (s.size + 1)
  have k1 := row_keeps (kind := 2) (sign := andand) k0 g0 (s.size + 1)
  exact row_keeps (kind := 3) (sign := oror) k1 g1 (s.size + 1) s.size (Nat.le_refl _) ⟨s, [], true⟩ (Nat.le_refl _) (fun n hn => by cases hn)
theorem parse_runs (B : Nat) (s : ByteArray) (hs : s.size ≤ 1099511627776) (w : World) (h : PS w B s [] true) :
    Calls Tryd.prog 42 #[.pointer (some ⟨B, 0, none⟩), .int .i64 40] w fun e w' => (∃ a, e = .returned (.int .i64 a)) ∧ PS w' B (parseS s).s (parseS s).l (parseS s).ok ∧ Below B w w' := by
  have g0 := not_good (s.size + 1) 40 s.size (by omega)
  have r0 := not_runs B (s.size + 1) 40 s.size (by omega) (by decide) (by decide)
  have g1 := row_good (kind := 2) (sign := andand) g0 (by decide) (s.size + 1)
  have r1 := and_runs r0 g0 (s.size + 1) (by omega)
  have r2 := or_runs r1 g1 (s.size + 1) (by omega)
  exact (r2 ⟨s, [], true⟩ w (Nat.le_refl _) (by show 0 + s.size ≤ M; unfold M; omega) h).mono fun e w' ⟨h1, h2, h3⟩ => ⟨⟨_, h1⟩, h2, h3⟩
theorem parse_len (s : ByteArray) : (parseS s).l.length ≤ s.size + 1 := by
  have g0 := not_good (s.size + 1) 40 s.size (by omega)
  have g1 := row_good (kind := 2) (sign := andand) g0 (by decide) (s.size + 1)
  have g2 := row_good (kind := 3) (sign := oror) g1 (by decide) (s.size + 1) ⟨s, [], true⟩ (Nat.le_refl _)
  have h : (parseS s).l.length + (parseS s).s.size ≤ 0 + s.size + 1 := g2.2
  omega

/-! ### A parser's row, read -/
def kN : Kd Nd := Kd.iso (Kd.pair (Kd.int .i64) (Kd.pair Kd.string (Kd.pair (Kd.int .i64) (Kd.int .i64)))) (fun x : Nd => (x.kind, x.tag, x.a, x.b))
theorem kN_open {w : World} {x : Nd} {cs : List Value} (h : kN.K w x cs) : cs = encN x := by
  obtain ⟨_, _, rfl, rfl, ⟨_, _, rfl, rfl, ⟨_, _, rfl, rfl, rfl⟩⟩⟩ := h
  exact rfl
theorem kN_mkM (w : World) (base : Nat) (ok : Nat → Prop) (x : Nd) : kN.M w base ok x (encN x) := ⟨[.int .i64 x.kind], [.string x.tag, .int .i64 x.a, .int .i64 x.b], rfl, rfl, ⟨[.string x.tag], [.int .i64 x.a, .int .i64 x.b], rfl, rfl, ⟨[.int .i64 x.a], [.int .i64 x.b], rfl, rfl, rfl⟩⟩⟩
theorem own_C {w : World} {base : Nat} {v : Value} {l : List Nd} (h : w.ownsRow base 52 4 v l.length (cellsN l)) : ∃ A c, v = .slice A l.length c ∧ l.length ≤ c ∧ Kd.C kN w A l.length l :=
  Kd.R_reads (R_of (d := kN) (f := encN) (n := 4) (fun _ => rfl) rfl (fun ok x => kN_mkM w base ok x) h (Nat.le_refl _))

set_option maxRecDepth 100000 in
set_option maxHeartbeats 4000000 in
theorem Parse_calls (s : ByteArray) (hs : s.size ≤ 1099511627776) (w : World) :
    Calls Tryd.prog 19 #[.string s] w fun e w' => ∃ v, e = .returned (.tuple #[v, .int .i64 (parseF s).2]) ∧ w'.ownsRow w.heap.size 52 4 v (parseF s).1.length (cellsN (parseF s).1) ∧ Below w.heap.size w w' := by
  have hp0 : PS (w.alloc (.cells #[.string s, .slice none 0 0, .bool true] 73)) w.heap.size s [] true :=
    ⟨_, heap_alloc_new w _, rfl, .inl ⟨rfl, rfl⟩⟩
  have H1 := Aside0.mk (parse_runs w.heap.size s hs _ hp0)
  have HSM := Aside0.mk (parse_small s)
  have hb0 : Below w.heap.size w (w.alloc (.cells #[.string s, .slice none 0 0, .bool true] 73)) := (Below.refl _ w).alloc (Nat.le_refl _) _
  have HB0 := Aside0.mk hb0
  have HF := Aside0.mk (show parseF s = if (parseS s).ok = true ∧ (takeS (parseS s).s e0).toList.isEmpty = true ∧ checkF (parseS s).l = 0 then ((parseS s).l, 0) else ([], 120) from rfl)
  obtain ⟨x, hx⟩ : ∃ x, parseS s = x := ⟨_, rfl⟩
  obtain ⟨F, hF⟩ : ∃ F, parseF s = F := ⟨_, rfl⟩
  rw [hx] at H1 HSM HF
  rw [hF] at HF ⊢
  clear hp0 hb0 hx hF
  go_enter Tryd.func19, Tryd.ntmps19
  go_wp2_with fail
  refine H1.out.mono ?_
  rintro e w1 ⟨⟨a, rfl⟩, hp1, hb1⟩
  have HB1 := Aside0.mk (HB0.out.trans hb1)
  obtain ⟨v1, c0, c1, c2, -, -, -, -⟩ := hp1.cells
  cases hok : x.ok with
  | false =>
    rw [hok] at c2
    have HF2 := Aside0.mk (HF.out.trans (if_neg (fun h => by rw [hok] at h; exact Bool.false_ne_true h.1)))
    clear hp1 hb1 H1 HB0 HF hok c0 c1
    go_wp2_with fail
    go_ret2
    rw [HF2.out]
    exact ⟨_, rfl, ⟨rfl, .inl ⟨rfl, rfl⟩⟩, HB1.out⟩
  | true =>
    rw [hok] at c2 hp1
    have HT := Aside0.mk (take_calls w.heap.size x.s e0 x.l true w1 hp1)
    rw [take_e0] at HT
    obtain ⟨T, hT⟩ : ∃ T, takeS x.s e0 = T := ⟨_, rfl⟩
    rw [hT] at HT HF
    rw [hok] at HF
    clear hp1 hb1 H1 HB0 hok c0 c1 hT
    go_wp2_with fail
    refine HT.out.mono ?_
    rintro e w2 ⟨rfl, hp2, hb2⟩
    have HB2 := Aside0.mk (HB1.out.trans hb2)
    obtain ⟨v2, c0, c1, -, -, -, -, hown⟩ := hp2.cells
    cases hTe : T.toList.isEmpty with
    | false =>
      have HF2 := Aside0.mk (HF.out.trans (if_neg (fun h => by rw [hTe] at h; exact Bool.false_ne_true h.2.1)))
      clear hp2 hb2 HT HF c1 hown c2
      go_wp2_with fail
      go_ret2
      rw [HF2.out]
      exact ⟨_, rfl, ⟨rfl, .inl ⟨rfl, rfl⟩⟩, HB2.out⟩
    | true =>
      rw [hTe] at HF
      obtain ⟨A, c, rfl, hlc, hC⟩ := own_C hown
      have HC := Aside0.mk (Check_calls kN rfl id (fun h => kN_open h) A c x.l w2 hC (fun n hn => by have := HSM.out n hn; show n.tag.size ≤ _; omega))
      have HO := Aside0.mk hown
      rw [List.map_id] at HC
      clear hp2 hb2 HT hown c2 hC HSM
      go_wp2_with fail
      refine HC.out.mono ?_
      rintro e w3 ⟨rfl, hb3⟩
      have hlt2 : w.heap.size < w2.heap.size := World.block_lt_of_cell? w2 _ c1
      have c1' : w3.cell? ⟨w.heap.size, 1, none⟩ = some (.slice A x.l.length c) := (hb3.cell (p := ⟨w.heap.size, 1, none⟩) (by exact hlt2)).trans c1
      have HB3 := Aside0.mk (HB2.out.trans (hb3.mono (by have := HB2.out.size; exact this)))
      have HO3 := Aside0.mk (own_later HO.out hb3)
      by_cases hck : checkF x.l = 0
      · have hck' : (checkF x.l != 0) = false := by rw [hck]; rfl
        have HF2 := Aside0.mk (HF.out.trans (if_pos (by first | exact ⟨rfl, rfl, hck⟩ | exact ⟨trivial, trivial, hck⟩)))
        clear hb3 HC HF c0 c1 hck HO HB2
        go_wp2_with fail
        go_ret2
        rw [HF2.out]
        refine ⟨_, rfl, ?_, HB3.out⟩
        obtain ⟨o1, o2⟩ := HO3.out
        refine ⟨o1, ?_⟩
        rcases o2 with h0 | ⟨g, cap, cur, h1, h2, h3⟩
        · exact .inl h0
        · exact .inr ⟨g, cap, cur, h1, by omega, h3⟩
      · have hck' : (checkF x.l != 0) = true := by rw [bne_iff_ne]; exact hck
        have HF2 := Aside0.mk (HF.out.trans (if_neg (fun h => hck h.2.2)))
        clear hb3 HC HF c0 c1 hck HO HB2
        go_wp2_with fail
        go_ret2
        rw [HF2.out]
        exact ⟨_, rfl, ⟨rfl, .inl ⟨rfl, rfl⟩⟩, HB3.out⟩
end Go.Proofs.YtjndccjpjknbkaaDoor.ExPar
