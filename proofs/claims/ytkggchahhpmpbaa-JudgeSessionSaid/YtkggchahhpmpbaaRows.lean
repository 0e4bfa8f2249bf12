/-
  No cell of these rows narrows 'for every input' (looked for: loops, veiled, ifaces, maps, wideKeys, modest, calm, conditions, laid).
  DERIVED. THE GIVEN ROWS OF THIS SEAT. 5 by the template 'for every input the law returns true; each argument reads behind the call as it read before'; 0 by the template 'total and deterministic' (their statements: YtkggchahhpmpbaaTotals.lean).
  GIVEN WITH THE SEED: the statements are not yours to turn. If you find one false, say at which input.
  Laid BY PROGRAM, IN A SANDBOX (cutbox-rows.mjs): the forced cells as the released guide's own fill.sh prints them over the translation 925a7e44aaedf61f… (all of the seat's roots in one cut). By AI agents, Wed Nov 11 2026. No macro, syntax, notation, axiom, sorry.
-/
import Derived.Test.YtkggchahhpmpbaaChecked
import GoSem.Claim
import GoSem.ClaimJoined
import GoSem.ClaimMapViews
import Derived.JoinedTies
import Derived.KernelRfl
namespace Go.Proofs.Ytkggchahhpmpbaa
/- THE CELL 'sum', in the pinned program and in every row, IS THE sha256 OF THE DUMP (.gsa) THAT YtkggchahhpmpbaaProg.lean LOADS. Nothing in Lean hashes anything: it is a label: what it is worth is what the hold of that sum in a sandbox is worth. -/
noncomputable def Try.pinned : Pinned := { name := "ytkggchahhpmpbaa", sum := "925a7e44aaedf61f11b1086f0533d52308247564267e06fc55fbdb9144b07821", checked := Try.checked }
namespace Rows
def none {H : Type} : Left H := { results := [], args := [] }

/-- 'stopcocklaw22.JudgeJudges': WHATEVER THE INPUT: true; the input reads as it did. -/
def judgeJudgesSpec : ChangeSpec := { name := "judgeJudges", fn := fun _ => fun
  | [d1, d2] => { results := [.lit (.bool true)], args := [d1, d2] }
  | _ => none }
def judgeJudgesRow : OpenClaim := { program := "ytkggchahhpmpbaa", sum := "925a7e44aaedf61f11b1086f0533d52308247564267e06fc55fbdb9144b07821", func := "stopcock/stopcocklaw22.JudgeJudges", spec := "judgeJudges", unfollowed := true, recurses := true, plainKeys := false, apart := false }
def JudgeJudgesSaid : Prop := judgeJudgesRow.holds Try.pinned (OpenSpec.ofChange judgeJudgesSpec)

/-- ITS FALSE NEIGHBOUR: 'it returns false'. Refute it at one input. -/
def judgeJudgesWrong : ChangeSpec := { name := "judgeJudges", fn := fun _ => fun
  | [d1, d2] => { results := [.lit (.bool false)], args := [d1, d2] }
  | _ => none }
def JudgeJudgesWrongFalsely : Prop := judgeJudgesRow.holds Try.pinned (OpenSpec.ofChange judgeJudgesWrong)

/-- 'stopcocklaw22.JudgeFits': WHATEVER THE INPUT: true; the input reads as it did. -/
def judgeFitsSpec : ChangeSpec := { name := "judgeFits", fn := fun _ => fun
  | [d1, d2, d3] => { results := [.lit (.bool true)], args := [d1, d2, d3] }
  | _ => none }
def judgeFitsRow : OpenClaim := { program := "ytkggchahhpmpbaa", sum := "925a7e44aaedf61f11b1086f0533d52308247564267e06fc55fbdb9144b07821", func := "stopcock/stopcocklaw22.JudgeFits", spec := "judgeFits", plainKeys := false, apart := false }
def JudgeFitsSaid : Prop := judgeFitsRow.holds Try.pinned (OpenSpec.ofChange judgeFitsSpec)

/-- ITS FALSE NEIGHBOUR: 'it returns false'. Refute it at one input. -/
def judgeFitsWrong : ChangeSpec := { name := "judgeFits", fn := fun _ => fun
  | [d1, d2, d3] => { results := [.lit (.bool false)], args := [d1, d2, d3] }
  | _ => none }
def JudgeFitsWrongFalsely : Prop := judgeFitsRow.holds Try.pinned (OpenSpec.ofChange judgeFitsWrong)

/-- 'stopcocklaw22.JudgeSession': WHATEVER THE INPUT: true; the input reads as it did. -/
def judgeSessionSpec : ChangeSpec := { name := "judgeSession", fn := fun _ => fun
  | [d1, d2, d3] => { results := [.lit (.bool true)], args := [d1, d2, d3] }
  | _ => none }
def judgeSessionRow : OpenClaim := { program := "ytkggchahhpmpbaa", sum := "925a7e44aaedf61f11b1086f0533d52308247564267e06fc55fbdb9144b07821", func := "stopcock/stopcocklaw22.JudgeSession", spec := "judgeSession", plainKeys := false, apart := false }
def JudgeSessionSaid : Prop := judgeSessionRow.holds Try.pinned (OpenSpec.ofChange judgeSessionSpec)

/-- ITS FALSE NEIGHBOUR: 'it returns false'. Refute it at one input. -/
def judgeSessionWrong : ChangeSpec := { name := "judgeSession", fn := fun _ => fun
  | [d1, d2, d3] => { results := [.lit (.bool false)], args := [d1, d2, d3] }
  | _ => none }
def JudgeSessionWrongFalsely : Prop := judgeSessionRow.holds Try.pinned (OpenSpec.ofChange judgeSessionWrong)

/-- 'stopcocklaw22.JudgeReplays': WHATEVER THE INPUT: true; the input reads as it did. -/
def judgeReplaysSpec : ChangeSpec := { name := "judgeReplays", fn := fun _ => fun
  | [d1, d2] => { results := [.lit (.bool true)], args := [d1, d2] }
  | _ => none }
def judgeReplaysRow : OpenClaim := { program := "ytkggchahhpmpbaa", sum := "925a7e44aaedf61f11b1086f0533d52308247564267e06fc55fbdb9144b07821", func := "stopcock/stopcocklaw22.JudgeReplays", spec := "judgeReplays", unfollowed := true, recurses := true, plainKeys := false, apart := false }
def JudgeReplaysSaid : Prop := judgeReplaysRow.holds Try.pinned (OpenSpec.ofChange judgeReplaysSpec)

/-- ITS FALSE NEIGHBOUR: 'it returns false'. Refute it at one input. -/
def judgeReplaysWrong : ChangeSpec := { name := "judgeReplays", fn := fun _ => fun
  | [d1, d2] => { results := [.lit (.bool false)], args := [d1, d2] }
  | _ => none }
def JudgeReplaysWrongFalsely : Prop := judgeReplaysRow.holds Try.pinned (OpenSpec.ofChange judgeReplaysWrong)

/-- 'stopcocklaw22.JudgeBudget': WHATEVER THE INPUT: true; the input reads as it did. -/
def judgeBudgetSpec : ChangeSpec := { name := "judgeBudget", fn := fun _ => fun
  | [d1, d2] => { results := [.lit (.bool true)], args := [d1, d2] }
  | _ => none }
def judgeBudgetRow : OpenClaim := { program := "ytkggchahhpmpbaa", sum := "925a7e44aaedf61f11b1086f0533d52308247564267e06fc55fbdb9144b07821", func := "stopcock/stopcocklaw22.JudgeBudget", spec := "judgeBudget", unfollowed := true, recurses := true, plainKeys := false, apart := false }
def JudgeBudgetSaid : Prop := judgeBudgetRow.holds Try.pinned (OpenSpec.ofChange judgeBudgetSpec)

/-- ITS FALSE NEIGHBOUR: 'it returns false'. Refute it at one input. -/
def judgeBudgetWrong : ChangeSpec := { name := "judgeBudget", fn := fun _ => fun
  | [d1, d2] => { results := [.lit (.bool false)], args := [d1, d2] }
  | _ => none }
def JudgeBudgetWrongFalsely : Prop := judgeBudgetRow.holds Try.pinned (OpenSpec.ofChange judgeBudgetWrong)

/- THE SECOND FORM. 'bulk': how many values and letters a reading holds, each counted each time it is reached (what is shared counts as often as it is met; a slice's spare places count too). A statement '..UptoSaid' is the law's where the arguments, and the package variables that the reading takes, are together of bulk at most 1048576: NARROWER than '..Said'. Prove '..Said' where nothing that the law and all that it calls make is longer than what came in: it says more and counts as full. Else prove '..UptoSaid'. A law counts once. -/
mutual
def uptoBulk {H : Type} : DataW H → Nat
  | .lit (.string bytes) => bytes.length + 1
  | .lit _ => 1
  | .nil => 1
  | .ptr d => uptoBulk d + 1
  | .slice elems spare => uptoBulkAll elems + uptoBulkAll spare + 1
  | .agg parts => uptoBulkAll parts + 1
  | .iface _ d => uptoBulk d + 1
  | .map entries => uptoBulkEntries entries + 1
  | .held _ => 1
def uptoBulkAll {H : Type} : List (DataW H) → Nat
  | [] => 0
  | d :: r => uptoBulk d + uptoBulkAll r
def uptoBulkEntries {H : Type} : List (Lit × DataW H) → Nat
  | [] => 0
  | x :: r => uptoBulkEntry x + uptoBulkEntries r
def uptoBulkEntry {H : Type} : Lit × DataW H → Nat
  | (.string bytes, d) => bytes.length + uptoBulk d + 1
  | (_, d) => uptoBulk d + 1
 end
def uptoSmall : (H : Type) → List (DataW H) → Bool := fun _ ds => decide (uptoBulkAll ds ≤ 1048576)
def OpenSpec.upto (s : _root_.Go.ChangeSpec) : _root_.Go.OpenSpec := { _root_.Go.OpenSpec.ofChange s with cond := some uptoSmall }

/-- 'stopcocklaw22.JudgeJudges', WHERE WHAT IT READS IS OF BULK AT MOST 1048576: true; the input reads as it did. -/
def judgeJudgesUptoRow : OpenClaim := { program := "ytkggchahhpmpbaa", sum := "925a7e44aaedf61f11b1086f0533d52308247564267e06fc55fbdb9144b07821", func := "stopcock/stopcocklaw22.JudgeJudges", spec := "judgeJudges", unfollowed := true, recurses := true, plainKeys := false, apart := false, narrowed := true }
def JudgeJudgesUptoSaid : Prop := judgeJudgesUptoRow.holds Try.pinned (OpenSpec.upto judgeJudgesSpec)

/-- 'stopcocklaw22.JudgeFits', WHERE WHAT IT READS IS OF BULK AT MOST 1048576: true; the input reads as it did. -/
def judgeFitsUptoRow : OpenClaim := { program := "ytkggchahhpmpbaa", sum := "925a7e44aaedf61f11b1086f0533d52308247564267e06fc55fbdb9144b07821", func := "stopcock/stopcocklaw22.JudgeFits", spec := "judgeFits", plainKeys := false, apart := false, narrowed := true }
def JudgeFitsUptoSaid : Prop := judgeFitsUptoRow.holds Try.pinned (OpenSpec.upto judgeFitsSpec)

/-- 'stopcocklaw22.JudgeSession', WHERE WHAT IT READS IS OF BULK AT MOST 1048576: true; the input reads as it did. -/
def judgeSessionUptoRow : OpenClaim := { program := "ytkggchahhpmpbaa", sum := "925a7e44aaedf61f11b1086f0533d52308247564267e06fc55fbdb9144b07821", func := "stopcock/stopcocklaw22.JudgeSession", spec := "judgeSession", plainKeys := false, apart := false, narrowed := true }
def JudgeSessionUptoSaid : Prop := judgeSessionUptoRow.holds Try.pinned (OpenSpec.upto judgeSessionSpec)

/-- 'stopcocklaw22.JudgeReplays', WHERE WHAT IT READS IS OF BULK AT MOST 1048576: true; the input reads as it did. -/
def judgeReplaysUptoRow : OpenClaim := { program := "ytkggchahhpmpbaa", sum := "925a7e44aaedf61f11b1086f0533d52308247564267e06fc55fbdb9144b07821", func := "stopcock/stopcocklaw22.JudgeReplays", spec := "judgeReplays", unfollowed := true, recurses := true, plainKeys := false, apart := false, narrowed := true }
def JudgeReplaysUptoSaid : Prop := judgeReplaysUptoRow.holds Try.pinned (OpenSpec.upto judgeReplaysSpec)

/-- 'stopcocklaw22.JudgeBudget', WHERE WHAT IT READS IS OF BULK AT MOST 1048576: true; the input reads as it did. -/
def judgeBudgetUptoRow : OpenClaim := { program := "ytkggchahhpmpbaa", sum := "925a7e44aaedf61f11b1086f0533d52308247564267e06fc55fbdb9144b07821", func := "stopcock/stopcocklaw22.JudgeBudget", spec := "judgeBudget", unfollowed := true, recurses := true, plainKeys := false, apart := false, narrowed := true }
def JudgeBudgetUptoSaid : Prop := judgeBudgetUptoRow.holds Try.pinned (OpenSpec.upto judgeBudgetSpec)

end Rows
end Go.Proofs.Ytkggchahhpmpbaa
