/-
  No cell of these rows narrows 'for every input' (looked for: loops, veiled, ifaces, maps, wideKeys, modest, calm, conditions, laid).
  DERIVED. THE GIVEN ROWS OF THIS SEAT. 10 by the template 'for every input the law returns true; each argument reads behind the call as it read before'; 0 by the template 'total and deterministic' (their statements: YtkfopjonhhldnaaTotals.lean).
  GIVEN WITH THE SEED: the statements are not yours to turn. If you find one false, say at which input.
  Laid BY PROGRAM, IN A SANDBOX (cutbox-rows.mjs): the forced cells as the released guide's own fill.sh prints them over the translation 5ec0f266f516ba01… (all of the seat's roots in one cut). By AI agents, Wed Nov 11 2026. No macro, syntax, notation, axiom, sorry.
-/
import Derived.Test.YtkfopjonhhldnaaChecked
import GoSem.Claim
import GoSem.ClaimJoined
import GoSem.ClaimMapViews
import Derived.JoinedTies
import Derived.KernelRfl
namespace Go.Proofs.Ytkfopjonhhldnaa
/- THE CELL 'sum', in the pinned program and in every row, IS THE sha256 OF THE DUMP (.gsa) THAT YtkfopjonhhldnaaProg.lean LOADS. Nothing in Lean hashes anything: it is a label: what it is worth is what the hold of that sum in a sandbox is worth. -/
noncomputable def Try.pinned : Pinned := { name := "ytkfopjonhhldnaa", sum := "5ec0f266f516ba0196bc3b049dfb1ee522b4423ac7db8796ae919f87ea5ab731", checked := Try.checked }
namespace Rows
def none {H : Type} : Left H := { results := [], args := [] }

/-- 'stopcocklaw03.NodesHas': WHATEVER THE INPUT: true; the input reads as it did. -/
def nodesHasSpec : ChangeSpec := { name := "nodesHas", fn := fun _ => fun
  | [d1, d2] => { results := [.lit (.bool true)], args := [d1, d2] }
  | _ => none }
def nodesHasRow : OpenClaim := { program := "ytkfopjonhhldnaa", sum := "5ec0f266f516ba0196bc3b049dfb1ee522b4423ac7db8796ae919f87ea5ab731", func := "stopcock/stopcocklaw03.NodesHas", spec := "nodesHas", plainKeys := false, apart := false }
def NodesHasSaid : Prop := nodesHasRow.holds Try.pinned (OpenSpec.ofChange nodesHasSpec)

/-- ITS FALSE NEIGHBOUR: 'it returns false'. Refute it at one input. -/
def nodesHasWrong : ChangeSpec := { name := "nodesHas", fn := fun _ => fun
  | [d1, d2] => { results := [.lit (.bool false)], args := [d1, d2] }
  | _ => none }
def NodesHasWrongFalsely : Prop := nodesHasRow.holds Try.pinned (OpenSpec.ofChange nodesHasWrong)

/-- 'stopcocklaw03.NodesCheck': WHATEVER THE INPUT: true; the input reads as it did. -/
def nodesCheckSpec : ChangeSpec := { name := "nodesCheck", fn := fun _ => fun
  | [d] => { results := [.lit (.bool true)], args := [d] }
  | _ => none }
def nodesCheckRow : OpenClaim := { program := "ytkfopjonhhldnaa", sum := "5ec0f266f516ba0196bc3b049dfb1ee522b4423ac7db8796ae919f87ea5ab731", func := "stopcock/stopcocklaw03.NodesCheck", spec := "nodesCheck", plainKeys := false, apart := false }
def NodesCheckSaid : Prop := nodesCheckRow.holds Try.pinned (OpenSpec.ofChange nodesCheckSpec)

/-- ITS FALSE NEIGHBOUR: 'it returns false'. Refute it at one input. -/
def nodesCheckWrong : ChangeSpec := { name := "nodesCheck", fn := fun _ => fun
  | [d] => { results := [.lit (.bool false)], args := [d] }
  | _ => none }
def NodesCheckWrongFalsely : Prop := nodesCheckRow.holds Try.pinned (OpenSpec.ofChange nodesCheckWrong)

/-- 'stopcocklaw03.NodesMajority': WHATEVER THE INPUT: true; the input reads as it did. -/
def nodesMajoritySpec : ChangeSpec := { name := "nodesMajority", fn := fun _ => fun
  | [d1, d2] => { results := [.lit (.bool true)], args := [d1, d2] }
  | _ => none }
def nodesMajorityRow : OpenClaim := { program := "ytkfopjonhhldnaa", sum := "5ec0f266f516ba0196bc3b049dfb1ee522b4423ac7db8796ae919f87ea5ab731", func := "stopcock/stopcocklaw03.NodesMajority", spec := "nodesMajority", plainKeys := false, apart := false }
def NodesMajoritySaid : Prop := nodesMajorityRow.holds Try.pinned (OpenSpec.ofChange nodesMajoritySpec)

/-- ITS FALSE NEIGHBOUR: 'it returns false'. Refute it at one input. -/
def nodesMajorityWrong : ChangeSpec := { name := "nodesMajority", fn := fun _ => fun
  | [d1, d2] => { results := [.lit (.bool false)], args := [d1, d2] }
  | _ => none }
def NodesMajorityWrongFalsely : Prop := nodesMajorityRow.holds Try.pinned (OpenSpec.ofChange nodesMajorityWrong)

/-- 'stopcocklaw03.NodesSteps': WHATEVER THE INPUT: true; the input reads as it did. -/
def nodesStepsSpec : ChangeSpec := { name := "nodesSteps", fn := fun _ => fun
  | [d1, d2] => { results := [.lit (.bool true)], args := [d1, d2] }
  | _ => none }
def nodesStepsRow : OpenClaim := { program := "ytkfopjonhhldnaa", sum := "5ec0f266f516ba0196bc3b049dfb1ee522b4423ac7db8796ae919f87ea5ab731", func := "stopcock/stopcocklaw03.NodesSteps", spec := "nodesSteps", plainKeys := false, apart := false }
def NodesStepsSaid : Prop := nodesStepsRow.holds Try.pinned (OpenSpec.ofChange nodesStepsSpec)

/-- ITS FALSE NEIGHBOUR: 'it returns false'. Refute it at one input. -/
def nodesStepsWrong : ChangeSpec := { name := "nodesSteps", fn := fun _ => fun
  | [d1, d2] => { results := [.lit (.bool false)], args := [d1, d2] }
  | _ => none }
def NodesStepsWrongFalsely : Prop := nodesStepsRow.holds Try.pinned (OpenSpec.ofChange nodesStepsWrong)

/-- 'stopcocklaw03.NodesMore': WHATEVER THE INPUT: true; the input reads as it did. -/
def nodesMoreSpec : ChangeSpec := { name := "nodesMore", fn := fun _ => fun
  | [d1, d2, d3] => { results := [.lit (.bool true)], args := [d1, d2, d3] }
  | _ => none }
def nodesMoreRow : OpenClaim := { program := "ytkfopjonhhldnaa", sum := "5ec0f266f516ba0196bc3b049dfb1ee522b4423ac7db8796ae919f87ea5ab731", func := "stopcock/stopcocklaw03.NodesMore", spec := "nodesMore", plainKeys := false, apart := false }
def NodesMoreSaid : Prop := nodesMoreRow.holds Try.pinned (OpenSpec.ofChange nodesMoreSpec)

/-- ITS FALSE NEIGHBOUR: 'it returns false'. Refute it at one input. -/
def nodesMoreWrong : ChangeSpec := { name := "nodesMore", fn := fun _ => fun
  | [d1, d2, d3] => { results := [.lit (.bool false)], args := [d1, d2, d3] }
  | _ => none }
def NodesMoreWrongFalsely : Prop := nodesMoreRow.holds Try.pinned (OpenSpec.ofChange nodesMoreWrong)

/-- 'stopcocklaw03.NodesBack': WHATEVER THE INPUT: true; the input reads as it did. -/
def nodesBackSpec : ChangeSpec := { name := "nodesBack", fn := fun _ => fun
  | [d1, d2] => { results := [.lit (.bool true)], args := [d1, d2] }
  | _ => none }
def nodesBackRow : OpenClaim := { program := "ytkfopjonhhldnaa", sum := "5ec0f266f516ba0196bc3b049dfb1ee522b4423ac7db8796ae919f87ea5ab731", func := "stopcock/stopcocklaw03.NodesBack", spec := "nodesBack", plainKeys := false, apart := false }
def NodesBackSaid : Prop := nodesBackRow.holds Try.pinned (OpenSpec.ofChange nodesBackSpec)

/-- ITS FALSE NEIGHBOUR: 'it returns false'. Refute it at one input. -/
def nodesBackWrong : ChangeSpec := { name := "nodesBack", fn := fun _ => fun
  | [d1, d2] => { results := [.lit (.bool false)], args := [d1, d2] }
  | _ => none }
def NodesBackWrongFalsely : Prop := nodesBackRow.holds Try.pinned (OpenSpec.ofChange nodesBackWrong)

/-- 'stopcocklaw03.NodesOthers': WHATEVER THE INPUT: true; the input reads as it did. -/
def nodesOthersSpec : ChangeSpec := { name := "nodesOthers", fn := fun _ => fun
  | [d1, d2] => { results := [.lit (.bool true)], args := [d1, d2] }
  | _ => none }
def nodesOthersRow : OpenClaim := { program := "ytkfopjonhhldnaa", sum := "5ec0f266f516ba0196bc3b049dfb1ee522b4423ac7db8796ae919f87ea5ab731", func := "stopcock/stopcocklaw03.NodesOthers", spec := "nodesOthers", unfollowed := true, recurses := true, plainKeys := false, apart := false }
def NodesOthersSaid : Prop := nodesOthersRow.holds Try.pinned (OpenSpec.ofChange nodesOthersSpec)

/-- ITS FALSE NEIGHBOUR: 'it returns false'. Refute it at one input. -/
def nodesOthersWrong : ChangeSpec := { name := "nodesOthers", fn := fun _ => fun
  | [d1, d2] => { results := [.lit (.bool false)], args := [d1, d2] }
  | _ => none }
def NodesOthersWrongFalsely : Prop := nodesOthersRow.holds Try.pinned (OpenSpec.ofChange nodesOthersWrong)

/-- 'stopcocklaw03.NodesMeet': WHATEVER THE INPUT: true; the input reads as it did. -/
def nodesMeetSpec : ChangeSpec := { name := "nodesMeet", fn := fun _ => fun
  | [d1, d2, d3, d4] => { results := [.lit (.bool true)], args := [d1, d2, d3, d4] }
  | _ => none }
def nodesMeetRow : OpenClaim := { program := "ytkfopjonhhldnaa", sum := "5ec0f266f516ba0196bc3b049dfb1ee522b4423ac7db8796ae919f87ea5ab731", func := "stopcock/stopcocklaw03.NodesMeet", spec := "nodesMeet", plainKeys := false, apart := false }
def NodesMeetSaid : Prop := nodesMeetRow.holds Try.pinned (OpenSpec.ofChange nodesMeetSpec)

/-- ITS FALSE NEIGHBOUR: 'it returns false'. Refute it at one input. -/
def nodesMeetWrong : ChangeSpec := { name := "nodesMeet", fn := fun _ => fun
  | [d1, d2, d3, d4] => { results := [.lit (.bool false)], args := [d1, d2, d3, d4] }
  | _ => none }
def NodesMeetWrongFalsely : Prop := nodesMeetRow.holds Try.pinned (OpenSpec.ofChange nodesMeetWrong)

/-- 'stopcocklaw03.NodesMid': WHATEVER THE INPUT: true; the input reads as it did. -/
def nodesMidSpec : ChangeSpec := { name := "nodesMid", fn := fun _ => fun
  | [d1, d2] => { results := [.lit (.bool true)], args := [d1, d2] }
  | _ => none }
def nodesMidRow : OpenClaim := { program := "ytkfopjonhhldnaa", sum := "5ec0f266f516ba0196bc3b049dfb1ee522b4423ac7db8796ae919f87ea5ab731", func := "stopcock/stopcocklaw03.NodesMid", spec := "nodesMid", recurses := true, plainKeys := false, apart := false }
def NodesMidSaid : Prop := nodesMidRow.holds Try.pinned (OpenSpec.ofChange nodesMidSpec)

/-- ITS FALSE NEIGHBOUR: 'it returns false'. Refute it at one input. -/
def nodesMidWrong : ChangeSpec := { name := "nodesMid", fn := fun _ => fun
  | [d1, d2] => { results := [.lit (.bool false)], args := [d1, d2] }
  | _ => none }
def NodesMidWrongFalsely : Prop := nodesMidRow.holds Try.pinned (OpenSpec.ofChange nodesMidWrong)

/-- 'stopcocklaw03.NodesReached': WHATEVER THE INPUT: true; the input reads as it did. -/
def nodesReachedSpec : ChangeSpec := { name := "nodesReached", fn := fun _ => fun
  | [d1, d2] => { results := [.lit (.bool true)], args := [d1, d2] }
  | _ => none }
def nodesReachedRow : OpenClaim := { program := "ytkfopjonhhldnaa", sum := "5ec0f266f516ba0196bc3b049dfb1ee522b4423ac7db8796ae919f87ea5ab731", func := "stopcock/stopcocklaw03.NodesReached", spec := "nodesReached", recurses := true, plainKeys := false, apart := false }
def NodesReachedSaid : Prop := nodesReachedRow.holds Try.pinned (OpenSpec.ofChange nodesReachedSpec)

/-- ITS FALSE NEIGHBOUR: 'it returns false'. Refute it at one input. -/
def nodesReachedWrong : ChangeSpec := { name := "nodesReached", fn := fun _ => fun
  | [d1, d2] => { results := [.lit (.bool false)], args := [d1, d2] }
  | _ => none }
def NodesReachedWrongFalsely : Prop := nodesReachedRow.holds Try.pinned (OpenSpec.ofChange nodesReachedWrong)

/- THE SECOND FORM. 'bulk': how many values and letters a reading holds, each counted each time it is reached (what is shared counts as often as it is met; a slice's spare places count too). A statement '..UptoSaid' is the law's where the arguments, and the package variables that the reading takes, are together of bulk at most 1048576: NARROWER than '..Said'. Prove '..Said' where nothing that the law and all that it calls make is longer than what came in: it says more and counts as full. Else prove '..UptoSaid'. A law counts once. -/
mutual
def uptoBulk {H : Type} : DataW H → Nat
  | .lit (.string bytes) => bytes.length + 1
  | .lit _ => 1
  | .nil => 1
  | .ptr d => uptoBulk d + 1
  | .slice elems spare => uptoBulkAll elems + uptoBulkAll spare + 1
  | .agg parts => uptoBulkAll parts + 1
  | .iface _ d => uptoBulk d + 1
  | .map entries => uptoBulkEntries entries + 1
  | .held _ => 1
def uptoBulkAll {H : Type} : List (DataW H) → Nat
  | [] => 0
  | d :: r => uptoBulk d + uptoBulkAll r
def uptoBulkEntries {H : Type} : List (Lit × DataW H) → Nat
  | [] => 0
  | x :: r => uptoBulkEntry x + uptoBulkEntries r
def uptoBulkEntry {H : Type} : Lit × DataW H → Nat
  | (.string bytes, d) => bytes.length + uptoBulk d + 1
  | (_, d) => uptoBulk d + 1
 end
def uptoSmall : (H : Type) → List (DataW H) → Bool := fun _ ds => decide (uptoBulkAll ds ≤ 1048576)
def OpenSpec.upto (s : _root_.Go.ChangeSpec) : _root_.Go.OpenSpec := { _root_.Go.OpenSpec.ofChange s with cond := some uptoSmall }

/-- 'stopcocklaw03.NodesHas', WHERE WHAT IT READS IS OF BULK AT MOST 1048576: true; the input reads as it did. -/
def nodesHasUptoRow : OpenClaim := { program := "ytkfopjonhhldnaa", sum := "5ec0f266f516ba0196bc3b049dfb1ee522b4423ac7db8796ae919f87ea5ab731", func := "stopcock/stopcocklaw03.NodesHas", spec := "nodesHas", plainKeys := false, apart := false, narrowed := true }
def NodesHasUptoSaid : Prop := nodesHasUptoRow.holds Try.pinned (OpenSpec.upto nodesHasSpec)

/-- 'stopcocklaw03.NodesCheck', WHERE WHAT IT READS IS OF BULK AT MOST 1048576: true; the input reads as it did. -/
def nodesCheckUptoRow : OpenClaim := { program := "ytkfopjonhhldnaa", sum := "5ec0f266f516ba0196bc3b049dfb1ee522b4423ac7db8796ae919f87ea5ab731", func := "stopcock/stopcocklaw03.NodesCheck", spec := "nodesCheck", plainKeys := false, apart := false, narrowed := true }
def NodesCheckUptoSaid : Prop := nodesCheckUptoRow.holds Try.pinned (OpenSpec.upto nodesCheckSpec)

/-- 'stopcocklaw03.NodesMajority', WHERE WHAT IT READS IS OF BULK AT MOST 1048576: true; the input reads as it did. -/
def nodesMajorityUptoRow : OpenClaim := { program := "ytkfopjonhhldnaa", sum := "5ec0f266f516ba0196bc3b049dfb1ee522b4423ac7db8796ae919f87ea5ab731", func := "stopcock/stopcocklaw03.NodesMajority", spec := "nodesMajority", plainKeys := false, apart := false, narrowed := true }
def NodesMajorityUptoSaid : Prop := nodesMajorityUptoRow.holds Try.pinned (OpenSpec.upto nodesMajoritySpec)

/-- 'stopcocklaw03.NodesSteps', WHERE WHAT IT READS IS OF BULK AT MOST 1048576: true; the input reads as it did. -/
def nodesStepsUptoRow : OpenClaim := { program := "ytkfopjonhhldnaa", sum := "5ec0f266f516ba0196bc3b049dfb1ee522b4423ac7db8796ae919f87ea5ab731", func := "stopcock/stopcocklaw03.NodesSteps", spec := "nodesSteps", plainKeys := false, apart := false, narrowed := true }
def NodesStepsUptoSaid : Prop := nodesStepsUptoRow.holds Try.pinned (OpenSpec.upto nodesStepsSpec)

/-- 'stopcocklaw03.NodesMore', WHERE WHAT IT READS IS OF BULK AT MOST 1048576: true; the input reads as it did. -/
def nodesMoreUptoRow : OpenClaim := { program := "ytkfopjonhhldnaa", sum := "5ec0f266f516ba0196bc3b049dfb1ee522b4423ac7db8796ae919f87ea5ab731", func := "stopcock/stopcocklaw03.NodesMore", spec := "nodesMore", plainKeys := false, apart := false, narrowed := true }
def NodesMoreUptoSaid : Prop := nodesMoreUptoRow.holds Try.pinned (OpenSpec.upto nodesMoreSpec)

/-- 'stopcocklaw03.NodesBack', WHERE WHAT IT READS IS OF BULK AT MOST 1048576: true; the input reads as it did. -/
def nodesBackUptoRow : OpenClaim := { program := "ytkfopjonhhldnaa", sum := "5ec0f266f516ba0196bc3b049dfb1ee522b4423ac7db8796ae919f87ea5ab731", func := "stopcock/stopcocklaw03.NodesBack", spec := "nodesBack", plainKeys := false, apart := false, narrowed := true }
def NodesBackUptoSaid : Prop := nodesBackUptoRow.holds Try.pinned (OpenSpec.upto nodesBackSpec)

/-- 'stopcocklaw03.NodesOthers', WHERE WHAT IT READS IS OF BULK AT MOST 1048576: true; the input reads as it did. -/
def nodesOthersUptoRow : OpenClaim := { program := "ytkfopjonhhldnaa", sum := "5ec0f266f516ba0196bc3b049dfb1ee522b4423ac7db8796ae919f87ea5ab731", func := "stopcock/stopcocklaw03.NodesOthers", spec := "nodesOthers", unfollowed := true, recurses := true, plainKeys := false, apart := false, narrowed := true }
def NodesOthersUptoSaid : Prop := nodesOthersUptoRow.holds Try.pinned (OpenSpec.upto nodesOthersSpec)

/-- 'stopcocklaw03.NodesMeet', WHERE WHAT IT READS IS OF BULK AT MOST 1048576: true; the input reads as it did. -/
def nodesMeetUptoRow : OpenClaim := { program := "ytkfopjonhhldnaa", sum := "5ec0f266f516ba0196bc3b049dfb1ee522b4423ac7db8796ae919f87ea5ab731", func := "stopcock/stopcocklaw03.NodesMeet", spec := "nodesMeet", plainKeys := false, apart := false, narrowed := true }
def NodesMeetUptoSaid : Prop := nodesMeetUptoRow.holds Try.pinned (OpenSpec.upto nodesMeetSpec)

/-- 'stopcocklaw03.NodesMid', WHERE WHAT IT READS IS OF BULK AT MOST 1048576: true; the input reads as it did. -/
def nodesMidUptoRow : OpenClaim := { program := "ytkfopjonhhldnaa", sum := "5ec0f266f516ba0196bc3b049dfb1ee522b4423ac7db8796ae919f87ea5ab731", func := "stopcock/stopcocklaw03.NodesMid", spec := "nodesMid", recurses := true, plainKeys := false, apart := false, narrowed := true }
def NodesMidUptoSaid : Prop := nodesMidUptoRow.holds Try.pinned (OpenSpec.upto nodesMidSpec)

/-- 'stopcocklaw03.NodesReached', WHERE WHAT IT READS IS OF BULK AT MOST 1048576: true; the input reads as it did. -/
def nodesReachedUptoRow : OpenClaim := { program := "ytkfopjonhhldnaa", sum := "5ec0f266f516ba0196bc3b049dfb1ee522b4423ac7db8796ae919f87ea5ab731", func := "stopcock/stopcocklaw03.NodesReached", spec := "nodesReached", recurses := true, plainKeys := false, apart := false, narrowed := true }
def NodesReachedUptoSaid : Prop := nodesReachedUptoRow.holds Try.pinned (OpenSpec.upto nodesReachedSpec)

end Rows
end Go.Proofs.Ytkfopjonhhldnaa
