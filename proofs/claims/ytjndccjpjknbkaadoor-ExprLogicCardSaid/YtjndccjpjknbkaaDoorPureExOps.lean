/- Expressions: what Parse, And, Or, Not and the reference's own answer, in plain words. -/
import Derived.Test.YtjndccjpjknbkaaDoorPureExBase
import Derived.Test.YtjndccjpjknbkaaDoorExLaw2
import Derived.Test.YtjndccjpjknbkaaDoorMpa
namespace Go.Proofs.YtjndccjpjknbkaaDoor.PureEx
open Go.RowKit Go.Proofs.YtjndccjpjknbkaaDoor.PEx Go.Proofs.YtjndccjpjknbkaaDoorW.PrintWords Go.Proofs.YtjndccjpjknbkaaDoorW.PrintLast Go.Proofs.YtjndccjpjknbkaaDoorW.PrintMore Go.Proofs.YtjndccjpjknbkaaDoor.BytesLib Go.Proofs.YtjndccjpjknbkaaDoor.ExNode Go.Proofs.YtjndccjpjknbkaaDoor.ExTag Go.Proofs.YtjndccjpjknbkaaDoor.ExSem Go.Proofs.YtjndccjpjknbkaaDoor.ExLaw Go.Proofs.YtjndccjpjknbkaaDoor.ExLaw2 Go.Proofs.YtjndccjpjknbkaaDoor.ExBoth
open Go.Proofs.YtjndccjpjknbkaaDoor.ExCheck (checkF)
set_option linter.unusedVariables false

def un (x : Nd) : S52 := ⟨x.kind, x.tag, x.a, x.b⟩
theorem nds_un (l : List Nd) : nds (l.map un) = l := by
  unfold nds
  rw [List.map_map]
  exact List.map_id l
theorem nds_len (l : List S52) : (nds l).length = l.length := by unfold nds; simp
theorem tags_nds {l : List S52} (h : ∀ n ∈ nds l, n.tag.size ≤ 4611686018427387904) : tags l := fun x hx => h (nd x) (List.mem_map_of_mem hx)
theorem tags_mem {l : List S52} (h : tags l) : ∀ n ∈ nds l, n.tag.size ≤ 4611686018427387904 := fun n hn => by
  obtain ⟨x, hx, rfl⟩ := List.mem_map.1 hn
  exact h x hx

/-- What Parse answers. -/
theorem Parse_eq {s : ByteArray} (hs : s.size ≤ 100000) : ∃ (l : List S52) (e : Int), expr_Parse.f s = some (l, e) ∧ tags l ∧ l.length ≤ 100001 ∧ (e = 0 → checkF (nds l) = 0) := by
  refine ⟨(ExPar.parseF s).1.map un, (ExPar.parseF s).2, ?_, ?_, ?_, ?_⟩
  · unfold expr_Parse.f
    rw [if_pos (by omega)]
    rfl
  · refine tags_nds ?_
    rw [nds_un]
    unfold ExPar.parseF
    split
    · intro n hn
      have := ExPar.parse_small s n hn
      omega
    · intro n hn; cases hn
  · rw [List.length_map]
    unfold ExPar.parseF
    split
    · have := ExPar.parse_len s
      show (ExPar.parseS s).l.length ≤ _
      omega
    · exact Nat.zero_le _
  · rw [nds_un]
    unfold ExPar.parseF
    split
    · rename_i h
      exact fun _ => h.2.2
    · exact fun h => absurd h (by decide)

theorem both_tags {k : Int} {a b : List S52} (ha : tags a) (hb : tags b) : ∀ n ∈ bothN k (nds a) (nds b), n.tag.size ≤ 4611686018427387904 := by
  intro n hn
  unfold bothN at hn
  rcases List.mem_append.1 hn with h | h
  · rcases List.mem_append.1 h with h | h
    · exact tags_mem ha n h
    · obtain ⟨m, hm, rfl⟩ := List.mem_map.1 h
      exact tags_mem hb m hm
  · rw [List.mem_singleton] at h
    subst h
    show (⟨#[]⟩ : ByteArray).size ≤ _
    decide
theorem both_eq (k : Int) {a b : List S52} (ha : a.length ≤ 1000000) (hb : b.length ≤ 1000000) : expr_both.f k a b = some ((bothN k (nds a) (nds b)).map un) := by
  unfold expr_both.f
  rw [if_pos ha, if_pos hb]
  rfl
theorem And_eq {a b : List S52} (ha : a.length ≤ 1000000) (hb : b.length ≤ 1000000) (ga : tags a) (gb : tags b) : ∃ t, expr_And.f a b = some t ∧ nds t = bothN 2 (nds a) (nds b) ∧ tags t ∧ t.length = a.length + b.length + 1 := by
  refine ⟨(bothN 2 (nds a) (nds b)).map un, ?_, nds_un _, tags_nds (by rw [nds_un]; exact both_tags ga gb), ?_⟩
  · unfold expr_And.f
    rw [both_eq 2 ha hb]
    rfl
  · unfold bothN; simp [nds_len]; omega
theorem Or_eq {a b : List S52} (ha : a.length ≤ 1000000) (hb : b.length ≤ 1000000) (ga : tags a) (gb : tags b) : ∃ t, expr_Or.f a b = some t ∧ nds t = bothN 3 (nds a) (nds b) ∧ tags t ∧ t.length = a.length + b.length + 1 := by
  refine ⟨(bothN 3 (nds a) (nds b)).map un, ?_, nds_un _, tags_nds (by rw [nds_un]; exact both_tags ga gb), ?_⟩
  · unfold expr_Or.f
    rw [both_eq 3 ha hb]
    rfl
  · unfold bothN; simp [nds_len]; omega
theorem both_len (k : Int) (a b : List Nd) : (bothN k a b).length = a.length + b.length + 1 := by unfold bothN; simp; omega
theorem not_len (a : List Nd) : (notN a).length = a.length + 1 := by unfold notN; simp
theorem eval_ok {N : List Nd} (h : checkF N = 0) (ts : List ByteArray) : evalF N ts = runF (fun x => Lib.containsS ts x) N := by unfold evalF; rw [decide_eq_true h]; rfl
theorem any_ok {N : List Nd} (h : checkF N = 0) : anyF N = ((vals2 N []).getD (N.length - 1) (false, false)).1 := by unfold anyF; rw [decide_eq_true h]; rfl
/-- Of two expressions: And, Or and Not are expressions just if they are not too long or too deep. -/
theorem two_ex {a b : List Nd} (ha : checkF a = 0) (hb : checkF b = 0) : ∃ da db : Int, Ex a da ∧ Ex b db ∧ da ≤ 40 ∧ db ≤ 40 ∧ a.length ≤ 60 ∧ b.length ≤ 60 := by
  obtain ⟨da, h1, h2, h3⟩ := check_ex ha
  obtain ⟨db, h4, h5, h6⟩ := check_ex hb
  exact ⟨da, db, h1, h4, h2, h5, h3, h6⟩
end Go.Proofs.YtjndccjpjknbkaaDoor.PureEx
