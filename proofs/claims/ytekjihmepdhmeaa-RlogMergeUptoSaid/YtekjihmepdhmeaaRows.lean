/-
  No cell of these rows narrows 'for every input' (looked for: loops, veiled, ifaces, maps, wideKeys, modest, calm, conditions, laid).
  DERIVED. THE GIVEN ROWS OF THIS SEAT. 9 by the template 'for every input the law returns true; each argument reads behind the call as it read before'; 0 by the template 'total and deterministic' (their statements: YtekjihmepdhmeaaTotals.lean).
  GIVEN WITH THE SEED: the statements are not yours to turn. If you find one false, say at which input.
  Laid BY PROGRAM, IN A SANDBOX (cutbox-rows.mjs): the forced cells as the released guide's own fill.sh prints them over the translation 192bb13fe32034de… (all of the seat's roots in one cut). By AI agents, Wed Nov 11 2026. No macro, syntax, notation, axiom, sorry.
-/
import Derived.Test.YtekjihmepdhmeaaChecked
import GoSem.Claim
import GoSem.ClaimJoined
import GoSem.ClaimMapViews
import Derived.JoinedTies
import Derived.KernelRfl
namespace Go.Proofs.Ytekjihmepdhmeaa
/- THE CELL 'sum', in the pinned program and in every row, IS THE sha256 OF THE DUMP (.gsa) THAT YtekjihmepdhmeaaProg.lean LOADS. Nothing in Lean hashes anything: it is a label: what it is worth is what the hold of that sum in a sandbox is worth. -/
noncomputable def Try.pinned : Pinned := { name := "ytekjihmepdhmeaa", sum := "192bb13fe32034dec077b9ec6e367a7f484323cd0a0042000a13f9f77263cb5f", checked := Try.checked }
namespace Rows
def none {H : Type} : Left H := { results := [], args := [] }

/-- 'stopcocklaw15.RlogTerm': WHATEVER THE INPUT: true; the input reads as it did. -/
def rlogTermSpec : ChangeSpec := { name := "rlogTerm", fn := fun _ => fun
  | [d1, d2] => { results := [.lit (.bool true)], args := [d1, d2] }
  | _ => none }
def rlogTermRow : OpenClaim := { program := "ytekjihmepdhmeaa", sum := "192bb13fe32034dec077b9ec6e367a7f484323cd0a0042000a13f9f77263cb5f", func := "stopcock/stopcocklaw15.RlogTerm", spec := "rlogTerm", unfollowed := true, recurses := true, apart := false }
def RlogTermSaid : Prop := rlogTermRow.holds Try.pinned (OpenSpec.ofChange rlogTermSpec)

/-- ITS FALSE NEIGHBOUR: 'it returns false'. Refute it at one input. -/
def rlogTermWrong : ChangeSpec := { name := "rlogTerm", fn := fun _ => fun
  | [d1, d2] => { results := [.lit (.bool false)], args := [d1, d2] }
  | _ => none }
def RlogTermWrongFalsely : Prop := rlogTermRow.holds Try.pinned (OpenSpec.ofChange rlogTermWrong)

/-- 'stopcocklaw15.RlogLast': WHATEVER THE INPUT: true; the input reads as it did. -/
def rlogLastSpec : ChangeSpec := { name := "rlogLast", fn := fun _ => fun
  | [d] => { results := [.lit (.bool true)], args := [d] }
  | _ => none }
def rlogLastRow : OpenClaim := { program := "ytekjihmepdhmeaa", sum := "192bb13fe32034dec077b9ec6e367a7f484323cd0a0042000a13f9f77263cb5f", func := "stopcock/stopcocklaw15.RlogLast", spec := "rlogLast", unfollowed := true, recurses := true, apart := false }
def RlogLastSaid : Prop := rlogLastRow.holds Try.pinned (OpenSpec.ofChange rlogLastSpec)

/-- ITS FALSE NEIGHBOUR: 'it returns false'. Refute it at one input. -/
def rlogLastWrong : ChangeSpec := { name := "rlogLast", fn := fun _ => fun
  | [d] => { results := [.lit (.bool false)], args := [d] }
  | _ => none }
def RlogLastWrongFalsely : Prop := rlogLastRow.holds Try.pinned (OpenSpec.ofChange rlogLastWrong)

/-- 'stopcocklaw15.RlogConf': WHATEVER THE INPUT: true; the input reads as it did. -/
def rlogConfSpec : ChangeSpec := { name := "rlogConf", fn := fun _ => fun
  | [d1, d2] => { results := [.lit (.bool true)], args := [d1, d2] }
  | _ => none }
def rlogConfRow : OpenClaim := { program := "ytekjihmepdhmeaa", sum := "192bb13fe32034dec077b9ec6e367a7f484323cd0a0042000a13f9f77263cb5f", func := "stopcock/stopcocklaw15.RlogConf", spec := "rlogConf", unfollowed := true, recurses := true, apart := false }
def RlogConfSaid : Prop := rlogConfRow.holds Try.pinned (OpenSpec.ofChange rlogConfSpec)

/-- ITS FALSE NEIGHBOUR: 'it returns false'. Refute it at one input. -/
def rlogConfWrong : ChangeSpec := { name := "rlogConf", fn := fun _ => fun
  | [d1, d2] => { results := [.lit (.bool false)], args := [d1, d2] }
  | _ => none }
def RlogConfWrongFalsely : Prop := rlogConfRow.holds Try.pinned (OpenSpec.ofChange rlogConfWrong)

/-- 'stopcocklaw15.RlogNewer': WHATEVER THE INPUT: true; the input reads as it did. -/
def rlogNewerSpec : ChangeSpec := { name := "rlogNewer", fn := fun _ => fun
  | [d1, d2, d3] => { results := [.lit (.bool true)], args := [d1, d2, d3] }
  | _ => none }
def rlogNewerRow : OpenClaim := { program := "ytekjihmepdhmeaa", sum := "192bb13fe32034dec077b9ec6e367a7f484323cd0a0042000a13f9f77263cb5f", func := "stopcock/stopcocklaw15.RlogNewer", spec := "rlogNewer", unfollowed := true, recurses := true, apart := false }
def RlogNewerSaid : Prop := rlogNewerRow.holds Try.pinned (OpenSpec.ofChange rlogNewerSpec)

/-- ITS FALSE NEIGHBOUR: 'it returns false'. Refute it at one input. -/
def rlogNewerWrong : ChangeSpec := { name := "rlogNewer", fn := fun _ => fun
  | [d1, d2, d3] => { results := [.lit (.bool false)], args := [d1, d2, d3] }
  | _ => none }
def RlogNewerWrongFalsely : Prop := rlogNewerRow.holds Try.pinned (OpenSpec.ofChange rlogNewerWrong)

/-- 'stopcocklaw15.RlogSlice': WHATEVER THE INPUT: true; the input reads as it did. -/
def rlogSliceSpec : ChangeSpec := { name := "rlogSlice", fn := fun _ => fun
  | [d1, d2, d3] => { results := [.lit (.bool true)], args := [d1, d2, d3] }
  | _ => none }
def rlogSliceRow : OpenClaim := { program := "ytekjihmepdhmeaa", sum := "192bb13fe32034dec077b9ec6e367a7f484323cd0a0042000a13f9f77263cb5f", func := "stopcock/stopcocklaw15.RlogSlice", spec := "rlogSlice", unfollowed := true, recurses := true, apart := false }
def RlogSliceSaid : Prop := rlogSliceRow.holds Try.pinned (OpenSpec.ofChange rlogSliceSpec)

/-- ITS FALSE NEIGHBOUR: 'it returns false'. Refute it at one input. -/
def rlogSliceWrong : ChangeSpec := { name := "rlogSlice", fn := fun _ => fun
  | [d1, d2, d3] => { results := [.lit (.bool false)], args := [d1, d2, d3] }
  | _ => none }
def RlogSliceWrongFalsely : Prop := rlogSliceRow.holds Try.pinned (OpenSpec.ofChange rlogSliceWrong)

/-- 'stopcocklaw15.RlogMerge': WHATEVER THE INPUT: true; the input reads as it did. -/
def rlogMergeSpec : ChangeSpec := { name := "rlogMerge", fn := fun _ => fun
  | [d1, d2] => { results := [.lit (.bool true)], args := [d1, d2] }
  | _ => none }
def rlogMergeRow : OpenClaim := { program := "ytekjihmepdhmeaa", sum := "192bb13fe32034dec077b9ec6e367a7f484323cd0a0042000a13f9f77263cb5f", func := "stopcock/stopcocklaw15.RlogMerge", spec := "rlogMerge", unfollowed := true, recurses := true, apart := false }
def RlogMergeSaid : Prop := rlogMergeRow.holds Try.pinned (OpenSpec.ofChange rlogMergeSpec)

/-- ITS FALSE NEIGHBOUR: 'it returns false'. Refute it at one input. -/
def rlogMergeWrong : ChangeSpec := { name := "rlogMerge", fn := fun _ => fun
  | [d1, d2] => { results := [.lit (.bool false)], args := [d1, d2] }
  | _ => none }
def RlogMergeWrongFalsely : Prop := rlogMergeRow.holds Try.pinned (OpenSpec.ofChange rlogMergeWrong)

/-- 'stopcocklaw15.RlogFits': WHATEVER THE INPUT: true; the input reads as it did. -/
def rlogFitsSpec : ChangeSpec := { name := "rlogFits", fn := fun _ => fun
  | [d1, d2] => { results := [.lit (.bool true)], args := [d1, d2] }
  | _ => none }
def rlogFitsRow : OpenClaim := { program := "ytekjihmepdhmeaa", sum := "192bb13fe32034dec077b9ec6e367a7f484323cd0a0042000a13f9f77263cb5f", func := "stopcock/stopcocklaw15.RlogFits", spec := "rlogFits", unfollowed := true, recurses := true, apart := false }
def RlogFitsSaid : Prop := rlogFitsRow.holds Try.pinned (OpenSpec.ofChange rlogFitsSpec)

/-- ITS FALSE NEIGHBOUR: 'it returns false'. Refute it at one input. -/
def rlogFitsWrong : ChangeSpec := { name := "rlogFits", fn := fun _ => fun
  | [d1, d2] => { results := [.lit (.bool false)], args := [d1, d2] }
  | _ => none }
def RlogFitsWrongFalsely : Prop := rlogFitsRow.holds Try.pinned (OpenSpec.ofChange rlogFitsWrong)

/-- 'stopcocklaw15.RlogAt': WHATEVER THE INPUT: true; the input reads as it did. -/
def rlogAtSpec : ChangeSpec := { name := "rlogAt", fn := fun _ => fun
  | [d1, d2] => { results := [.lit (.bool true)], args := [d1, d2] }
  | _ => none }
def rlogAtRow : OpenClaim := { program := "ytekjihmepdhmeaa", sum := "192bb13fe32034dec077b9ec6e367a7f484323cd0a0042000a13f9f77263cb5f", func := "stopcock/stopcocklaw15.RlogAt", spec := "rlogAt", inPlace := ["slices.overlaps[stopcock/api.Last]", "slices.overlaps[stopcock/api.Held]"], unfollowed := true, recurses := true, apart := false }
def RlogAtSaid : Prop := rlogAtRow.holds Try.pinned (OpenSpec.ofChange rlogAtSpec)

/-- ITS FALSE NEIGHBOUR: 'it returns false'. Refute it at one input. -/
def rlogAtWrong : ChangeSpec := { name := "rlogAt", fn := fun _ => fun
  | [d1, d2] => { results := [.lit (.bool false)], args := [d1, d2] }
  | _ => none }
def RlogAtWrongFalsely : Prop := rlogAtRow.holds Try.pinned (OpenSpec.ofChange rlogAtWrong)

/-- 'stopcocklaw15.RlogShots': WHATEVER THE INPUT: true; the input reads as it did. -/
def rlogShotsSpec : ChangeSpec := { name := "rlogShots", fn := fun _ => fun
  | [d1, d2, d3] => { results := [.lit (.bool true)], args := [d1, d2, d3] }
  | _ => none }
def rlogShotsRow : OpenClaim := { program := "ytekjihmepdhmeaa", sum := "192bb13fe32034dec077b9ec6e367a7f484323cd0a0042000a13f9f77263cb5f", func := "stopcock/stopcocklaw15.RlogShots", spec := "rlogShots", inPlace := ["slices.overlaps[stopcock/api.Last]", "slices.overlaps[stopcock/api.Held]"], unfollowed := true, recurses := true, apart := false }
def RlogShotsSaid : Prop := rlogShotsRow.holds Try.pinned (OpenSpec.ofChange rlogShotsSpec)

/-- ITS FALSE NEIGHBOUR: 'it returns false'. Refute it at one input. -/
def rlogShotsWrong : ChangeSpec := { name := "rlogShots", fn := fun _ => fun
  | [d1, d2, d3] => { results := [.lit (.bool false)], args := [d1, d2, d3] }
  | _ => none }
def RlogShotsWrongFalsely : Prop := rlogShotsRow.holds Try.pinned (OpenSpec.ofChange rlogShotsWrong)

/- THE SECOND FORM. 'bulk': how many values and letters a reading holds, each counted each time it is reached (what is shared counts as often as it is met; a slice's spare places count too). A statement '..UptoSaid' is the law's where the arguments, and the package variables that the reading takes, are together of bulk at most 1048576: NARROWER than '..Said'. Prove '..Said' where nothing that the law and all that it calls make is longer than what came in: it says more and counts as full. Else prove '..UptoSaid'. A law counts once. -/
mutual
def uptoBulk {H : Type} : DataW H → Nat
  | .lit (.string bytes) => bytes.length + 1
  | .lit _ => 1
  | .nil => 1
  | .ptr d => uptoBulk d + 1
  | .slice elems spare => uptoBulkAll elems + uptoBulkAll spare + 1
  | .agg parts => uptoBulkAll parts + 1
  | .iface _ d => uptoBulk d + 1
  | .map entries => uptoBulkEntries entries + 1
  | .held _ => 1
def uptoBulkAll {H : Type} : List (DataW H) → Nat
  | [] => 0
  | d :: r => uptoBulk d + uptoBulkAll r
def uptoBulkEntries {H : Type} : List (Lit × DataW H) → Nat
  | [] => 0
  | x :: r => uptoBulkEntry x + uptoBulkEntries r
def uptoBulkEntry {H : Type} : Lit × DataW H → Nat
  | (.string bytes, d) => bytes.length + uptoBulk d + 1
  | (_, d) => uptoBulk d + 1
 end
def uptoSmall : (H : Type) → List (DataW H) → Bool := fun _ ds => decide (uptoBulkAll ds ≤ 1048576)
def OpenSpec.upto (s : _root_.Go.ChangeSpec) : _root_.Go.OpenSpec := { _root_.Go.OpenSpec.ofChange s with cond := some uptoSmall }

/-- 'stopcocklaw15.RlogTerm', WHERE WHAT IT READS IS OF BULK AT MOST 1048576: true; the input reads as it did. -/
def rlogTermUptoRow : OpenClaim := { program := "ytekjihmepdhmeaa", sum := "192bb13fe32034dec077b9ec6e367a7f484323cd0a0042000a13f9f77263cb5f", func := "stopcock/stopcocklaw15.RlogTerm", spec := "rlogTerm", unfollowed := true, recurses := true, apart := false, narrowed := true }
def RlogTermUptoSaid : Prop := rlogTermUptoRow.holds Try.pinned (OpenSpec.upto rlogTermSpec)

/-- 'stopcocklaw15.RlogLast', WHERE WHAT IT READS IS OF BULK AT MOST 1048576: true; the input reads as it did. -/
def rlogLastUptoRow : OpenClaim := { program := "ytekjihmepdhmeaa", sum := "192bb13fe32034dec077b9ec6e367a7f484323cd0a0042000a13f9f77263cb5f", func := "stopcock/stopcocklaw15.RlogLast", spec := "rlogLast", unfollowed := true, recurses := true, apart := false, narrowed := true }
def RlogLastUptoSaid : Prop := rlogLastUptoRow.holds Try.pinned (OpenSpec.upto rlogLastSpec)

/-- 'stopcocklaw15.RlogConf', WHERE WHAT IT READS IS OF BULK AT MOST 1048576: true; the input reads as it did. -/
def rlogConfUptoRow : OpenClaim := { program := "ytekjihmepdhmeaa", sum := "192bb13fe32034dec077b9ec6e367a7f484323cd0a0042000a13f9f77263cb5f", func := "stopcock/stopcocklaw15.RlogConf", spec := "rlogConf", unfollowed := true, recurses := true, apart := false, narrowed := true }
def RlogConfUptoSaid : Prop := rlogConfUptoRow.holds Try.pinned (OpenSpec.upto rlogConfSpec)

/-- 'stopcocklaw15.RlogNewer', WHERE WHAT IT READS IS OF BULK AT MOST 1048576: true; the input reads as it did. -/
def rlogNewerUptoRow : OpenClaim := { program := "ytekjihmepdhmeaa", sum := "192bb13fe32034dec077b9ec6e367a7f484323cd0a0042000a13f9f77263cb5f", func := "stopcock/stopcocklaw15.RlogNewer", spec := "rlogNewer", unfollowed := true, recurses := true, apart := false, narrowed := true }
def RlogNewerUptoSaid : Prop := rlogNewerUptoRow.holds Try.pinned (OpenSpec.upto rlogNewerSpec)

/-- 'stopcocklaw15.RlogSlice', WHERE WHAT IT READS IS OF BULK AT MOST 1048576: true; the input reads as it did. -/
def rlogSliceUptoRow : OpenClaim := { program := "ytekjihmepdhmeaa", sum := "192bb13fe32034dec077b9ec6e367a7f484323cd0a0042000a13f9f77263cb5f", func := "stopcock/stopcocklaw15.RlogSlice", spec := "rlogSlice", unfollowed := true, recurses := true, apart := false, narrowed := true }
def RlogSliceUptoSaid : Prop := rlogSliceUptoRow.holds Try.pinned (OpenSpec.upto rlogSliceSpec)

/-- 'stopcocklaw15.RlogMerge', WHERE WHAT IT READS IS OF BULK AT MOST 1048576: true; the input reads as it did. -/
def rlogMergeUptoRow : OpenClaim := { program := "ytekjihmepdhmeaa", sum := "192bb13fe32034dec077b9ec6e367a7f484323cd0a0042000a13f9f77263cb5f", func := "stopcock/stopcocklaw15.RlogMerge", spec := "rlogMerge", unfollowed := true, recurses := true, apart := false, narrowed := true }
def RlogMergeUptoSaid : Prop := rlogMergeUptoRow.holds Try.pinned (OpenSpec.upto rlogMergeSpec)

/-- 'stopcocklaw15.RlogFits', WHERE WHAT IT READS IS OF BULK AT MOST 1048576: true; the input reads as it did. -/
def rlogFitsUptoRow : OpenClaim := { program := "ytekjihmepdhmeaa", sum := "192bb13fe32034dec077b9ec6e367a7f484323cd0a0042000a13f9f77263cb5f", func := "stopcock/stopcocklaw15.RlogFits", spec := "rlogFits", unfollowed := true, recurses := true, apart := false, narrowed := true }
def RlogFitsUptoSaid : Prop := rlogFitsUptoRow.holds Try.pinned (OpenSpec.upto rlogFitsSpec)

/-- 'stopcocklaw15.RlogAt', WHERE WHAT IT READS IS OF BULK AT MOST 1048576: true; the input reads as it did. -/
def rlogAtUptoRow : OpenClaim := { program := "ytekjihmepdhmeaa", sum := "192bb13fe32034dec077b9ec6e367a7f484323cd0a0042000a13f9f77263cb5f", func := "stopcock/stopcocklaw15.RlogAt", spec := "rlogAt", inPlace := ["slices.overlaps[stopcock/api.Last]", "slices.overlaps[stopcock/api.Held]"], unfollowed := true, recurses := true, apart := false, narrowed := true }
def RlogAtUptoSaid : Prop := rlogAtUptoRow.holds Try.pinned (OpenSpec.upto rlogAtSpec)

/-- 'stopcocklaw15.RlogShots', WHERE WHAT IT READS IS OF BULK AT MOST 1048576: true; the input reads as it did. -/
def rlogShotsUptoRow : OpenClaim := { program := "ytekjihmepdhmeaa", sum := "192bb13fe32034dec077b9ec6e367a7f484323cd0a0042000a13f9f77263cb5f", func := "stopcock/stopcocklaw15.RlogShots", spec := "rlogShots", inPlace := ["slices.overlaps[stopcock/api.Last]", "slices.overlaps[stopcock/api.Held]"], unfollowed := true, recurses := true, apart := false, narrowed := true }
def RlogShotsUptoSaid : Prop := rlogShotsUptoRow.holds Try.pinned (OpenSpec.upto rlogShotsSpec)

end Rows
end Go.Proofs.Ytekjihmepdhmeaa
