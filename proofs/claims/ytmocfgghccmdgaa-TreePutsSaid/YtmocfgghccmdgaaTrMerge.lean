/- tree.Merge: the walk. -/
import Derived.Test.YtmocfgghccmdgaaTrOps
namespace Go.Proofs.Ytmocfgghccmdgaa.TrMerge
open Go Go.Proofs Go.RowKit Go.Proofs.YtmocfgghccmdgaaW.PrintWords Go.Proofs.Ytmocfgghccmdgaa.RowsLib Go.Proofs.Ytmocfgghccmdgaa.TrLib Go.Proofs.Ytmocfgghccmdgaa.PathBase Go.Proofs.Ytmocfgghccmdgaa.TrAt Go.Proofs.Ytmocfgghccmdgaa.TrCopy Go.Proofs.Ytmocfgghccmdgaa.TrPut Go.Proofs.Ytmocfgghccmdgaa.TrFits Go.Proofs.Ytmocfgghccmdgaa.TrOps
set_option linter.unusedVariables false
set_option linter.unusedSimpArgs false

theorem putF_len (l : List Fl) (x : Fl) : (putF l x).length ≤ l.length + 1 := by
  unfold putF
  have hile := atI_le l x.1
  split
  · rw [List.length_set]; omega
  · simp only [List.length_append, List.length_take, List.length_cons, List.length_drop]
    omega
end Go.Proofs.Ytmocfgghccmdgaa.TrMerge

