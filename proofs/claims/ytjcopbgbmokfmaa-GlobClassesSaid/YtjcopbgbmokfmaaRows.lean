/-
  No cell of these rows narrows 'for every input' (looked for: loops, veiled, ifaces, maps, wideKeys, modest, calm, conditions, laid).
  DERIVED. THE GIVEN ROWS OF THIS SEAT. 5 by the template 'for every input the law returns true; each argument reads behind the call as it read before'; 0 by the template 'total and deterministic' (their statements: YtjcopbgbmokfmaaTotals.lean).
  GIVEN WITH THE SEED: the statements are not yours to turn. If you find one false, say at which input.
  Laid BY PROGRAM, IN A SANDBOX (cutbox-rows.mjs): the forced cells as the released guide's own fill.sh prints them over the translation cfc78dc67f0f4b39… (all of the seat's roots in one cut). By AI agents, Wed Nov 11 2026. No macro, syntax, notation, axiom, sorry.
-/
import Derived.Test.YtjcopbgbmokfmaaChecked
import GoSem.Claim
import GoSem.ClaimJoined
import GoSem.ClaimMapViews
import Derived.JoinedTies
import Derived.KernelRfl
namespace Go.Proofs.Ytjcopbgbmokfmaa
/- THE CELL 'sum', in the pinned program and in every row, IS THE sha256 OF THE DUMP (.gsa) THAT YtjcopbgbmokfmaaProg.lean LOADS. Nothing in Lean hashes anything: it is a label: what it is worth is what the hold of that sum in a sandbox is worth. -/
noncomputable def Try.pinned : Pinned := { name := "ytjcopbgbmokfmaa", sum := "cfc78dc67f0f4b399695f32c2a9008a9bf3e0b189527d5ac4131b56e366ce2d4", checked := Try.checked }
namespace Rows
def none {H : Type} : Left H := { results := [], args := [] }

/-- 'graftbedlaw15.GlobStars': WHATEVER THE INPUT: true; the input reads as it did. -/
def globStarsSpec : ChangeSpec := { name := "globStars", fn := fun _ => fun
  | [d] => { results := [.lit (.bool true)], args := [d] }
  | _ => none }
def globStarsRow : OpenClaim := { program := "ytjcopbgbmokfmaa", sum := "cfc78dc67f0f4b399695f32c2a9008a9bf3e0b189527d5ac4131b56e366ce2d4", func := "graftbed/graftbedlaw15.GlobStars", spec := "globStars", inPlace := ["internal/bytealg.IndexByteString"], unfollowed := true, recurses := true, apart := false }
def GlobStarsSaid : Prop := globStarsRow.holds Try.pinned (OpenSpec.ofChange globStarsSpec)

/-- ITS FALSE NEIGHBOUR: 'it returns false'. Refute it at one input. -/
def globStarsWrong : ChangeSpec := { name := "globStars", fn := fun _ => fun
  | [d] => { results := [.lit (.bool false)], args := [d] }
  | _ => none }
def GlobStarsWrongFalsely : Prop := globStarsRow.holds Try.pinned (OpenSpec.ofChange globStarsWrong)

/-- 'graftbedlaw15.GlobClasses': WHATEVER THE INPUT: true; the input reads as it did. -/
def globClassesSpec : ChangeSpec := { name := "globClasses", fn := fun _ => fun
  | [d1, d2, d3] => { results := [.lit (.bool true)], args := [d1, d2, d3] }
  | _ => none }
def globClassesRow : OpenClaim := { program := "ytjcopbgbmokfmaa", sum := "cfc78dc67f0f4b399695f32c2a9008a9bf3e0b189527d5ac4131b56e366ce2d4", func := "graftbed/graftbedlaw15.GlobClasses", spec := "globClasses", inPlace := ["internal/bytealg.IndexByteString", "internal/bytealg.IndexString"], unfollowed := true, recurses := true, named := ["internal/bytealg.MaxLen"], apart := false }
def GlobClassesSaid : Prop := globClassesRow.holds Try.pinned (OpenSpec.ofChange globClassesSpec)

/-- ITS FALSE NEIGHBOUR: 'it returns false'. Refute it at one input. -/
def globClassesWrong : ChangeSpec := { name := "globClasses", fn := fun _ => fun
  | [d1, d2, d3] => { results := [.lit (.bool false)], args := [d1, d2, d3] }
  | _ => none }
def GlobClassesWrongFalsely : Prop := globClassesRow.holds Try.pinned (OpenSpec.ofChange globClassesWrong)

/-- 'graftbedlaw15.GlobSlashes': WHATEVER THE INPUT: true; the input reads as it did. -/
def globSlashesSpec : ChangeSpec := { name := "globSlashes", fn := fun _ => fun
  | [d1, d2] => { results := [.lit (.bool true)], args := [d1, d2] }
  | _ => none }
def globSlashesRow : OpenClaim := { program := "ytjcopbgbmokfmaa", sum := "cfc78dc67f0f4b399695f32c2a9008a9bf3e0b189527d5ac4131b56e366ce2d4", func := "graftbed/graftbedlaw15.GlobSlashes", spec := "globSlashes", inPlace := ["internal/bytealg.IndexByteString", "internal/bytealg.IndexString"], unfollowed := true, recurses := true, named := ["internal/bytealg.MaxLen"], apart := false }
def GlobSlashesSaid : Prop := globSlashesRow.holds Try.pinned (OpenSpec.ofChange globSlashesSpec)

/-- ITS FALSE NEIGHBOUR: 'it returns false'. Refute it at one input. -/
def globSlashesWrong : ChangeSpec := { name := "globSlashes", fn := fun _ => fun
  | [d1, d2] => { results := [.lit (.bool false)], args := [d1, d2] }
  | _ => none }
def GlobSlashesWrongFalsely : Prop := globSlashesRow.holds Try.pinned (OpenSpec.ofChange globSlashesWrong)

/-- 'graftbedlaw15.GlobParts': WHATEVER THE INPUT: true; the input reads as it did. -/
def globPartsSpec : ChangeSpec := { name := "globParts", fn := fun _ => fun
  | [d1, d2, d3] => { results := [.lit (.bool true)], args := [d1, d2, d3] }
  | _ => none }
def globPartsRow : OpenClaim := { program := "ytjcopbgbmokfmaa", sum := "cfc78dc67f0f4b399695f32c2a9008a9bf3e0b189527d5ac4131b56e366ce2d4", func := "graftbed/graftbedlaw15.GlobParts", spec := "globParts", inPlace := ["internal/bytealg.IndexByteString", "internal/bytealg.IndexString"], unfollowed := true, recurses := true, named := ["internal/bytealg.MaxLen"], apart := false }
def GlobPartsSaid : Prop := globPartsRow.holds Try.pinned (OpenSpec.ofChange globPartsSpec)

/-- ITS FALSE NEIGHBOUR: 'it returns false'. Refute it at one input. -/
def globPartsWrong : ChangeSpec := { name := "globParts", fn := fun _ => fun
  | [d1, d2, d3] => { results := [.lit (.bool false)], args := [d1, d2, d3] }
  | _ => none }
def GlobPartsWrongFalsely : Prop := globPartsRow.holds Try.pinned (OpenSpec.ofChange globPartsWrong)

/-- 'graftbedlaw15.GlobEscapes': WHATEVER THE INPUT: true; the input reads as it did. -/
def globEscapesSpec : ChangeSpec := { name := "globEscapes", fn := fun _ => fun
  | [d1, d2] => { results := [.lit (.bool true)], args := [d1, d2] }
  | _ => none }
def globEscapesRow : OpenClaim := { program := "ytjcopbgbmokfmaa", sum := "cfc78dc67f0f4b399695f32c2a9008a9bf3e0b189527d5ac4131b56e366ce2d4", func := "graftbed/graftbedlaw15.GlobEscapes", spec := "globEscapes", inPlace := ["sync/atomic.LoadUint32", "(*internal/sync.Mutex).Lock", "internal/race.Disable", "sync/atomic.CompareAndSwapInt32", "internal/race.Enable", "internal/race.Acquire", "(*internal/sync.Mutex).lockSlow", "internal/sync.runtime_canSpin", "internal/sync.runtime_doSpin", "internal/sync.throw", "internal/sync.runtime_nanotime", "internal/sync.runtime_SemacquireMutex", "sync/atomic.AddInt32", "(*internal/sync.Mutex).Unlock", "internal/race.ReleaseMerge", "(*internal/sync.Mutex).unlockSlow", "internal/sync.fatal", "internal/sync.runtime_Semrelease", "sync/atomic.StoreUint32", "internal/bytealg.IndexByteString", "internal/bytealg.IndexString"], unfollowed := true, recurses := true, named := ["internal/bytealg.MaxLen"], apart := false }
def GlobEscapesSaid : Prop := globEscapesRow.holds Try.pinned (OpenSpec.ofChange globEscapesSpec)

/-- ITS FALSE NEIGHBOUR: 'it returns false'. Refute it at one input. -/
def globEscapesWrong : ChangeSpec := { name := "globEscapes", fn := fun _ => fun
  | [d1, d2] => { results := [.lit (.bool false)], args := [d1, d2] }
  | _ => none }
def GlobEscapesWrongFalsely : Prop := globEscapesRow.holds Try.pinned (OpenSpec.ofChange globEscapesWrong)

/- THE SECOND FORM. 'bulk': how many values and letters a reading holds, each counted each time it is reached (what is shared counts as often as it is met; a slice's spare places count too). A statement '..UptoSaid' is the law's where the arguments, and the package variables that the reading takes, are together of bulk at most 1048576: NARROWER than '..Said'. Prove '..Said' where nothing that the law and all that it calls make is longer than what came in: it says more and counts as full. Else prove '..UptoSaid'. A law counts once. -/
mutual
def uptoBulk {H : Type} : DataW H → Nat
  | .lit (.string bytes) => bytes.length + 1
  | .lit _ => 1
  | .nil => 1
  | .ptr d => uptoBulk d + 1
  | .slice elems spare => uptoBulkAll elems + uptoBulkAll spare + 1
  | .agg parts => uptoBulkAll parts + 1
  | .iface _ d => uptoBulk d + 1
  | .map entries => uptoBulkEntries entries + 1
  | .held _ => 1
def uptoBulkAll {H : Type} : List (DataW H) → Nat
  | [] => 0
  | d :: r => uptoBulk d + uptoBulkAll r
def uptoBulkEntries {H : Type} : List (Lit × DataW H) → Nat
  | [] => 0
  | x :: r => uptoBulkEntry x + uptoBulkEntries r
def uptoBulkEntry {H : Type} : Lit × DataW H → Nat
  | (.string bytes, d) => bytes.length + uptoBulk d + 1
  | (_, d) => uptoBulk d + 1
 end
def uptoSmall : (H : Type) → List (DataW H) → Bool := fun _ ds => decide (uptoBulkAll ds ≤ 1048576)
def OpenSpec.upto (s : _root_.Go.ChangeSpec) : _root_.Go.OpenSpec := { _root_.Go.OpenSpec.ofChange s with cond := some uptoSmall }

/-- 'graftbedlaw15.GlobStars', WHERE WHAT IT READS IS OF BULK AT MOST 1048576: true; the input reads as it did. -/
def globStarsUptoRow : OpenClaim := { program := "ytjcopbgbmokfmaa", sum := "cfc78dc67f0f4b399695f32c2a9008a9bf3e0b189527d5ac4131b56e366ce2d4", func := "graftbed/graftbedlaw15.GlobStars", spec := "globStars", inPlace := ["internal/bytealg.IndexByteString"], unfollowed := true, recurses := true, apart := false, narrowed := true }
def GlobStarsUptoSaid : Prop := globStarsUptoRow.holds Try.pinned (OpenSpec.upto globStarsSpec)

/-- 'graftbedlaw15.GlobClasses', WHERE WHAT IT READS IS OF BULK AT MOST 1048576: true; the input reads as it did. -/
def globClassesUptoRow : OpenClaim := { program := "ytjcopbgbmokfmaa", sum := "cfc78dc67f0f4b399695f32c2a9008a9bf3e0b189527d5ac4131b56e366ce2d4", func := "graftbed/graftbedlaw15.GlobClasses", spec := "globClasses", inPlace := ["internal/bytealg.IndexByteString", "internal/bytealg.IndexString"], unfollowed := true, recurses := true, named := ["internal/bytealg.MaxLen"], apart := false, narrowed := true }
def GlobClassesUptoSaid : Prop := globClassesUptoRow.holds Try.pinned (OpenSpec.upto globClassesSpec)

/-- 'graftbedlaw15.GlobSlashes', WHERE WHAT IT READS IS OF BULK AT MOST 1048576: true; the input reads as it did. -/
def globSlashesUptoRow : OpenClaim := { program := "ytjcopbgbmokfmaa", sum := "cfc78dc67f0f4b399695f32c2a9008a9bf3e0b189527d5ac4131b56e366ce2d4", func := "graftbed/graftbedlaw15.GlobSlashes", spec := "globSlashes", inPlace := ["internal/bytealg.IndexByteString", "internal/bytealg.IndexString"], unfollowed := true, recurses := true, named := ["internal/bytealg.MaxLen"], apart := false, narrowed := true }
def GlobSlashesUptoSaid : Prop := globSlashesUptoRow.holds Try.pinned (OpenSpec.upto globSlashesSpec)

/-- 'graftbedlaw15.GlobParts', WHERE WHAT IT READS IS OF BULK AT MOST 1048576: true; the input reads as it did. -/
def globPartsUptoRow : OpenClaim := { program := "ytjcopbgbmokfmaa", sum := "cfc78dc67f0f4b399695f32c2a9008a9bf3e0b189527d5ac4131b56e366ce2d4", func := "graftbed/graftbedlaw15.GlobParts", spec := "globParts", inPlace := ["internal/bytealg.IndexByteString", "internal/bytealg.IndexString"], unfollowed := true, recurses := true, named := ["internal/bytealg.MaxLen"], apart := false, narrowed := true }
def GlobPartsUptoSaid : Prop := globPartsUptoRow.holds Try.pinned (OpenSpec.upto globPartsSpec)

/-- 'graftbedlaw15.GlobEscapes', WHERE WHAT IT READS IS OF BULK AT MOST 1048576: true; the input reads as it did. -/
def globEscapesUptoRow : OpenClaim := { program := "ytjcopbgbmokfmaa", sum := "cfc78dc67f0f4b399695f32c2a9008a9bf3e0b189527d5ac4131b56e366ce2d4", func := "graftbed/graftbedlaw15.GlobEscapes", spec := "globEscapes", inPlace := ["sync/atomic.LoadUint32", "(*internal/sync.Mutex).Lock", "internal/race.Disable", "sync/atomic.CompareAndSwapInt32", "internal/race.Enable", "internal/race.Acquire", "(*internal/sync.Mutex).lockSlow", "internal/sync.runtime_canSpin", "internal/sync.runtime_doSpin", "internal/sync.throw", "internal/sync.runtime_nanotime", "internal/sync.runtime_SemacquireMutex", "sync/atomic.AddInt32", "(*internal/sync.Mutex).Unlock", "internal/race.ReleaseMerge", "(*internal/sync.Mutex).unlockSlow", "internal/sync.fatal", "internal/sync.runtime_Semrelease", "sync/atomic.StoreUint32", "internal/bytealg.IndexByteString", "internal/bytealg.IndexString"], unfollowed := true, recurses := true, named := ["internal/bytealg.MaxLen"], apart := false, narrowed := true }
def GlobEscapesUptoSaid : Prop := globEscapesUptoRow.holds Try.pinned (OpenSpec.upto globEscapesSpec)

end Rows
end Go.Proofs.Ytjcopbgbmokfmaa
