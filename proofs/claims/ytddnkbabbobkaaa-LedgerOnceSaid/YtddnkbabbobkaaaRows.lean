/-
  No cell of these rows narrows 'for every input' (looked for: loops, veiled, ifaces, maps, wideKeys, modest, calm, conditions, laid).
  DERIVED. THE GIVEN ROWS OF THIS SEAT. 8 by the template 'for every input the law returns true; each argument reads behind the call as it read before'; 0 by the template 'total and deterministic' (their statements: YtddnkbabbobkaaaTotals.lean).
  GIVEN WITH THE SEED: the statements are not yours to turn. If you find one false, say at which input.
  Laid BY PROGRAM, IN A SANDBOX (cutbox-rows.mjs): the forced cells as the released guide's own fill.sh prints them over the translation cff9d4c11fa36b28… (all of the seat's roots in one cut). By AI agents, Wed Nov 11 2026. No macro, syntax, notation, axiom, sorry.
-/
import Derived.Test.YtddnkbabbobkaaaChecked
import GoSem.Claim
import GoSem.ClaimJoined
import GoSem.ClaimMapViews
import Derived.JoinedTies
import Derived.KernelRfl
namespace Go.Proofs.Ytddnkbabbobkaaa
/- THE CELL 'sum', in the pinned program and in every row, IS THE sha256 OF THE DUMP (.gsa) THAT YtddnkbabbobkaaaProg.lean LOADS. Nothing in Lean hashes anything: it is a label: what it is worth is what the hold of that sum in a sandbox is worth. -/
noncomputable def Try.pinned : Pinned := { name := "ytddnkbabbobkaaa", sum := "cff9d4c11fa36b28f7f14b60965f44dac995f994ab587f417b35ab1f637613e9", checked := Try.checked }
namespace Rows
def none {H : Type} : Left H := { results := [], args := [] }

/-- 'stopcocklaw05.LedgerMakes': WHATEVER THE INPUT: true; the input reads as it did. -/
def ledgerMakesSpec : ChangeSpec := { name := "ledgerMakes", fn := fun _ => fun
  | [d] => { results := [.lit (.bool true)], args := [d] }
  | _ => none }
def ledgerMakesRow : OpenClaim := { program := "ytddnkbabbobkaaa", sum := "cff9d4c11fa36b28f7f14b60965f44dac995f994ab587f417b35ab1f637613e9", func := "stopcock/stopcocklaw05.LedgerMakes", spec := "ledgerMakes", apart := false }
def LedgerMakesSaid : Prop := ledgerMakesRow.holds Try.pinned (OpenSpec.ofChange ledgerMakesSpec)

/-- ITS FALSE NEIGHBOUR: 'it returns false'. Refute it at one input. -/
def ledgerMakesWrong : ChangeSpec := { name := "ledgerMakes", fn := fun _ => fun
  | [d] => { results := [.lit (.bool false)], args := [d] }
  | _ => none }
def LedgerMakesWrongFalsely : Prop := ledgerMakesRow.holds Try.pinned (OpenSpec.ofChange ledgerMakesWrong)

/-- 'stopcocklaw05.LedgerOf': WHATEVER THE INPUT: true; the input reads as it did. -/
def ledgerOfSpec : ChangeSpec := { name := "ledgerOf", fn := fun _ => fun
  | [d1, d2] => { results := [.lit (.bool true)], args := [d1, d2] }
  | _ => none }
def ledgerOfRow : OpenClaim := { program := "ytddnkbabbobkaaa", sum := "cff9d4c11fa36b28f7f14b60965f44dac995f994ab587f417b35ab1f637613e9", func := "stopcock/stopcocklaw05.LedgerOf", spec := "ledgerOf", apart := false }
def LedgerOfSaid : Prop := ledgerOfRow.holds Try.pinned (OpenSpec.ofChange ledgerOfSpec)

/-- ITS FALSE NEIGHBOUR: 'it returns false'. Refute it at one input. -/
def ledgerOfWrong : ChangeSpec := { name := "ledgerOf", fn := fun _ => fun
  | [d1, d2] => { results := [.lit (.bool false)], args := [d1, d2] }
  | _ => none }
def LedgerOfWrongFalsely : Prop := ledgerOfRow.holds Try.pinned (OpenSpec.ofChange ledgerOfWrong)

/-- 'stopcocklaw05.LedgerChecks': WHATEVER THE INPUT: true; the input reads as it did. -/
def ledgerChecksSpec : ChangeSpec := { name := "ledgerChecks", fn := fun _ => fun
  | [d] => { results := [.lit (.bool true)], args := [d] }
  | _ => none }
def ledgerChecksRow : OpenClaim := { program := "ytddnkbabbobkaaa", sum := "cff9d4c11fa36b28f7f14b60965f44dac995f994ab587f417b35ab1f637613e9", func := "stopcock/stopcocklaw05.LedgerChecks", spec := "ledgerChecks", apart := false }
def LedgerChecksSaid : Prop := ledgerChecksRow.holds Try.pinned (OpenSpec.ofChange ledgerChecksSpec)

/-- ITS FALSE NEIGHBOUR: 'it returns false'. Refute it at one input. -/
def ledgerChecksWrong : ChangeSpec := { name := "ledgerChecks", fn := fun _ => fun
  | [d] => { results := [.lit (.bool false)], args := [d] }
  | _ => none }
def LedgerChecksWrongFalsely : Prop := ledgerChecksRow.holds Try.pinned (OpenSpec.ofChange ledgerChecksWrong)

/-- 'stopcocklaw05.LedgerApplies': WHATEVER THE INPUT: true; the input reads as it did. -/
def ledgerAppliesSpec : ChangeSpec := { name := "ledgerApplies", fn := fun _ => fun
  | [d1, d2, d3] => { results := [.lit (.bool true)], args := [d1, d2, d3] }
  | _ => none }
def ledgerAppliesRow : OpenClaim := { program := "ytddnkbabbobkaaa", sum := "cff9d4c11fa36b28f7f14b60965f44dac995f994ab587f417b35ab1f637613e9", func := "stopcock/stopcocklaw05.LedgerApplies", spec := "ledgerApplies", inPlace := ["slices.overlaps[stopcock/api.Last]", "slices.overlaps[stopcock/api.Held]"], unfollowed := true, recurses := true, apart := false }
def LedgerAppliesSaid : Prop := ledgerAppliesRow.holds Try.pinned (OpenSpec.ofChange ledgerAppliesSpec)

/-- ITS FALSE NEIGHBOUR: 'it returns false'. Refute it at one input. -/
def ledgerAppliesWrong : ChangeSpec := { name := "ledgerApplies", fn := fun _ => fun
  | [d1, d2, d3] => { results := [.lit (.bool false)], args := [d1, d2, d3] }
  | _ => none }
def LedgerAppliesWrongFalsely : Prop := ledgerAppliesRow.holds Try.pinned (OpenSpec.ofChange ledgerAppliesWrong)

/-- 'stopcocklaw05.LedgerKeeps': WHATEVER THE INPUT: true; the input reads as it did. -/
def ledgerKeepsSpec : ChangeSpec := { name := "ledgerKeeps", fn := fun _ => fun
  | [d1, d2] => { results := [.lit (.bool true)], args := [d1, d2] }
  | _ => none }
def ledgerKeepsRow : OpenClaim := { program := "ytddnkbabbobkaaa", sum := "cff9d4c11fa36b28f7f14b60965f44dac995f994ab587f417b35ab1f637613e9", func := "stopcock/stopcocklaw05.LedgerKeeps", spec := "ledgerKeeps", inPlace := ["slices.overlaps[stopcock/api.Last]", "slices.overlaps[stopcock/api.Held]"], unfollowed := true, recurses := true, apart := false }
def LedgerKeepsSaid : Prop := ledgerKeepsRow.holds Try.pinned (OpenSpec.ofChange ledgerKeepsSpec)

/-- ITS FALSE NEIGHBOUR: 'it returns false'. Refute it at one input. -/
def ledgerKeepsWrong : ChangeSpec := { name := "ledgerKeeps", fn := fun _ => fun
  | [d1, d2] => { results := [.lit (.bool false)], args := [d1, d2] }
  | _ => none }
def LedgerKeepsWrongFalsely : Prop := ledgerKeepsRow.holds Try.pinned (OpenSpec.ofChange ledgerKeepsWrong)

/-- 'stopcocklaw05.LedgerOnce': WHATEVER THE INPUT: true; the input reads as it did. -/
def ledgerOnceSpec : ChangeSpec := { name := "ledgerOnce", fn := fun _ => fun
  | [d1, d2, d3, d4, d5] => { results := [.lit (.bool true)], args := [d1, d2, d3, d4, d5] }
  | _ => none }
def ledgerOnceRow : OpenClaim := { program := "ytddnkbabbobkaaa", sum := "cff9d4c11fa36b28f7f14b60965f44dac995f994ab587f417b35ab1f637613e9", func := "stopcock/stopcocklaw05.LedgerOnce", spec := "ledgerOnce", inPlace := ["slices.overlaps[stopcock/api.Last]", "slices.overlaps[stopcock/api.Held]"], unfollowed := true, recurses := true, apart := false }
def LedgerOnceSaid : Prop := ledgerOnceRow.holds Try.pinned (OpenSpec.ofChange ledgerOnceSpec)

/-- ITS FALSE NEIGHBOUR: 'it returns false'. Refute it at one input. -/
def ledgerOnceWrong : ChangeSpec := { name := "ledgerOnce", fn := fun _ => fun
  | [d1, d2, d3, d4, d5] => { results := [.lit (.bool false)], args := [d1, d2, d3, d4, d5] }
  | _ => none }
def LedgerOnceWrongFalsely : Prop := ledgerOnceRow.holds Try.pinned (OpenSpec.ofChange ledgerOnceWrong)

/-- 'stopcocklaw05.LedgerSerials': WHATEVER THE INPUT: true; the input reads as it did. -/
def ledgerSerialsSpec : ChangeSpec := { name := "ledgerSerials", fn := fun _ => fun
  | [d1, d2] => { results := [.lit (.bool true)], args := [d1, d2] }
  | _ => none }
def ledgerSerialsRow : OpenClaim := { program := "ytddnkbabbobkaaa", sum := "cff9d4c11fa36b28f7f14b60965f44dac995f994ab587f417b35ab1f637613e9", func := "stopcock/stopcocklaw05.LedgerSerials", spec := "ledgerSerials", inPlace := ["slices.overlaps[stopcock/api.Last]", "slices.overlaps[stopcock/api.Held]"], unfollowed := true, recurses := true, apart := false }
def LedgerSerialsSaid : Prop := ledgerSerialsRow.holds Try.pinned (OpenSpec.ofChange ledgerSerialsSpec)

/-- ITS FALSE NEIGHBOUR: 'it returns false'. Refute it at one input. -/
def ledgerSerialsWrong : ChangeSpec := { name := "ledgerSerials", fn := fun _ => fun
  | [d1, d2] => { results := [.lit (.bool false)], args := [d1, d2] }
  | _ => none }
def LedgerSerialsWrongFalsely : Prop := ledgerSerialsRow.holds Try.pinned (OpenSpec.ofChange ledgerSerialsWrong)

/-- 'stopcocklaw05.LedgerOthers': WHATEVER THE INPUT: true; the input reads as it did. -/
def ledgerOthersSpec : ChangeSpec := { name := "ledgerOthers", fn := fun _ => fun
  | [d1, d2, d3, d4] => { results := [.lit (.bool true)], args := [d1, d2, d3, d4] }
  | _ => none }
def ledgerOthersRow : OpenClaim := { program := "ytddnkbabbobkaaa", sum := "cff9d4c11fa36b28f7f14b60965f44dac995f994ab587f417b35ab1f637613e9", func := "stopcock/stopcocklaw05.LedgerOthers", spec := "ledgerOthers", inPlace := ["slices.overlaps[stopcock/api.Last]", "slices.overlaps[stopcock/api.Held]"], unfollowed := true, recurses := true, apart := false }
def LedgerOthersSaid : Prop := ledgerOthersRow.holds Try.pinned (OpenSpec.ofChange ledgerOthersSpec)

/-- ITS FALSE NEIGHBOUR: 'it returns false'. Refute it at one input. -/
def ledgerOthersWrong : ChangeSpec := { name := "ledgerOthers", fn := fun _ => fun
  | [d1, d2, d3, d4] => { results := [.lit (.bool false)], args := [d1, d2, d3, d4] }
  | _ => none }
def LedgerOthersWrongFalsely : Prop := ledgerOthersRow.holds Try.pinned (OpenSpec.ofChange ledgerOthersWrong)

/- THE SECOND FORM. 'bulk': how many values and letters a reading holds, each counted each time it is reached (what is shared counts as often as it is met; a slice's spare places count too). A statement '..UptoSaid' is the law's where the arguments, and the package variables that the reading takes, are together of bulk at most 1048576: NARROWER than '..Said'. Prove '..Said' where nothing that the law and all that it calls make is longer than what came in: it says more and counts as full. Else prove '..UptoSaid'. A law counts once. -/
mutual
def uptoBulk {H : Type} : DataW H → Nat
  | .lit (.string bytes) => bytes.length + 1
  | .lit _ => 1
  | .nil => 1
  | .ptr d => uptoBulk d + 1
  | .slice elems spare => uptoBulkAll elems + uptoBulkAll spare + 1
  | .agg parts => uptoBulkAll parts + 1
  | .iface _ d => uptoBulk d + 1
  | .map entries => uptoBulkEntries entries + 1
  | .held _ => 1
def uptoBulkAll {H : Type} : List (DataW H) → Nat
  | [] => 0
  | d :: r => uptoBulk d + uptoBulkAll r
def uptoBulkEntries {H : Type} : List (Lit × DataW H) → Nat
  | [] => 0
  | x :: r => uptoBulkEntry x + uptoBulkEntries r
def uptoBulkEntry {H : Type} : Lit × DataW H → Nat
  | (.string bytes, d) => bytes.length + uptoBulk d + 1
  | (_, d) => uptoBulk d + 1
 end
def uptoSmall : (H : Type) → List (DataW H) → Bool := fun _ ds => decide (uptoBulkAll ds ≤ 1048576)
def OpenSpec.upto (s : _root_.Go.ChangeSpec) : _root_.Go.OpenSpec := { _root_.Go.OpenSpec.ofChange s with cond := some uptoSmall }

/-- 'stopcocklaw05.LedgerMakes', WHERE WHAT IT READS IS OF BULK AT MOST 1048576: true; the input reads as it did. -/
def ledgerMakesUptoRow : OpenClaim := { program := "ytddnkbabbobkaaa", sum := "cff9d4c11fa36b28f7f14b60965f44dac995f994ab587f417b35ab1f637613e9", func := "stopcock/stopcocklaw05.LedgerMakes", spec := "ledgerMakes", apart := false, narrowed := true }
def LedgerMakesUptoSaid : Prop := ledgerMakesUptoRow.holds Try.pinned (OpenSpec.upto ledgerMakesSpec)

/-- 'stopcocklaw05.LedgerOf', WHERE WHAT IT READS IS OF BULK AT MOST 1048576: true; the input reads as it did. -/
def ledgerOfUptoRow : OpenClaim := { program := "ytddnkbabbobkaaa", sum := "cff9d4c11fa36b28f7f14b60965f44dac995f994ab587f417b35ab1f637613e9", func := "stopcock/stopcocklaw05.LedgerOf", spec := "ledgerOf", apart := false, narrowed := true }
def LedgerOfUptoSaid : Prop := ledgerOfUptoRow.holds Try.pinned (OpenSpec.upto ledgerOfSpec)

/-- 'stopcocklaw05.LedgerChecks', WHERE WHAT IT READS IS OF BULK AT MOST 1048576: true; the input reads as it did. -/
def ledgerChecksUptoRow : OpenClaim := { program := "ytddnkbabbobkaaa", sum := "cff9d4c11fa36b28f7f14b60965f44dac995f994ab587f417b35ab1f637613e9", func := "stopcock/stopcocklaw05.LedgerChecks", spec := "ledgerChecks", apart := false, narrowed := true }
def LedgerChecksUptoSaid : Prop := ledgerChecksUptoRow.holds Try.pinned (OpenSpec.upto ledgerChecksSpec)

/-- 'stopcocklaw05.LedgerApplies', WHERE WHAT IT READS IS OF BULK AT MOST 1048576: true; the input reads as it did. -/
def ledgerAppliesUptoRow : OpenClaim := { program := "ytddnkbabbobkaaa", sum := "cff9d4c11fa36b28f7f14b60965f44dac995f994ab587f417b35ab1f637613e9", func := "stopcock/stopcocklaw05.LedgerApplies", spec := "ledgerApplies", inPlace := ["slices.overlaps[stopcock/api.Last]", "slices.overlaps[stopcock/api.Held]"], unfollowed := true, recurses := true, apart := false, narrowed := true }
def LedgerAppliesUptoSaid : Prop := ledgerAppliesUptoRow.holds Try.pinned (OpenSpec.upto ledgerAppliesSpec)

/-- 'stopcocklaw05.LedgerKeeps', WHERE WHAT IT READS IS OF BULK AT MOST 1048576: true; the input reads as it did. -/
def ledgerKeepsUptoRow : OpenClaim := { program := "ytddnkbabbobkaaa", sum := "cff9d4c11fa36b28f7f14b60965f44dac995f994ab587f417b35ab1f637613e9", func := "stopcock/stopcocklaw05.LedgerKeeps", spec := "ledgerKeeps", inPlace := ["slices.overlaps[stopcock/api.Last]", "slices.overlaps[stopcock/api.Held]"], unfollowed := true, recurses := true, apart := false, narrowed := true }
def LedgerKeepsUptoSaid : Prop := ledgerKeepsUptoRow.holds Try.pinned (OpenSpec.upto ledgerKeepsSpec)

/-- 'stopcocklaw05.LedgerOnce', WHERE WHAT IT READS IS OF BULK AT MOST 1048576: true; the input reads as it did. -/
def ledgerOnceUptoRow : OpenClaim := { program := "ytddnkbabbobkaaa", sum := "cff9d4c11fa36b28f7f14b60965f44dac995f994ab587f417b35ab1f637613e9", func := "stopcock/stopcocklaw05.LedgerOnce", spec := "ledgerOnce", inPlace := ["slices.overlaps[stopcock/api.Last]", "slices.overlaps[stopcock/api.Held]"], unfollowed := true, recurses := true, apart := false, narrowed := true }
def LedgerOnceUptoSaid : Prop := ledgerOnceUptoRow.holds Try.pinned (OpenSpec.upto ledgerOnceSpec)

/-- 'stopcocklaw05.LedgerSerials', WHERE WHAT IT READS IS OF BULK AT MOST 1048576: true; the input reads as it did. -/
def ledgerSerialsUptoRow : OpenClaim := { program := "ytddnkbabbobkaaa", sum := "cff9d4c11fa36b28f7f14b60965f44dac995f994ab587f417b35ab1f637613e9", func := "stopcock/stopcocklaw05.LedgerSerials", spec := "ledgerSerials", inPlace := ["slices.overlaps[stopcock/api.Last]", "slices.overlaps[stopcock/api.Held]"], unfollowed := true, recurses := true, apart := false, narrowed := true }
def LedgerSerialsUptoSaid : Prop := ledgerSerialsUptoRow.holds Try.pinned (OpenSpec.upto ledgerSerialsSpec)

/-- 'stopcocklaw05.LedgerOthers', WHERE WHAT IT READS IS OF BULK AT MOST 1048576: true; the input reads as it did. -/
def ledgerOthersUptoRow : OpenClaim := { program := "ytddnkbabbobkaaa", sum := "cff9d4c11fa36b28f7f14b60965f44dac995f994ab587f417b35ab1f637613e9", func := "stopcock/stopcocklaw05.LedgerOthers", spec := "ledgerOthers", inPlace := ["slices.overlaps[stopcock/api.Last]", "slices.overlaps[stopcock/api.Held]"], unfollowed := true, recurses := true, apart := false, narrowed := true }
def LedgerOthersUptoSaid : Prop := ledgerOthersUptoRow.holds Try.pinned (OpenSpec.upto ledgerOthersSpec)

end Rows
end Go.Proofs.Ytddnkbabbobkaaa
