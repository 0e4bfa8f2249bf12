/- Lemmas towards the law: what of the text RloB it needs. -/
import Derived.Test.YtekjihmepdhmeaaRlo8q
import Derived.Test.YtekjihmepdhmeaaSlXq
import Derived.Test.YtekjihmepdhmeaaNod1q
namespace Go.Proofs.Ytekjihmepdhmeaa.Rlo
open Go.RowKit Go.Proofs.YtekjihmepdhmeaaW.PrintWords Go.Proofs.Ytekjihmepdhmeaa.Sl
set_option linter.unusedVariables false
set_option linter.unusedSimpArgs false
theorem infoInt : (Try.prog.info? 3).map (fun i => (i.zero, i.size, i.bytes)) = some (some (.int .i64 0), 1, 8) := by kernel_rfl
theorem infoEnt : (Try.prog.info? 52).map (fun i => (i.zero, i.size, i.bytes)) = some (some (.agg #[.int .u64 0, .int .i64 0, .int .i64 0, .int .i64 0, .slice none 0 0, .int .u64 0, .int .u64 0, .int .u64 0, .int .u64 0]), 9, 88) := by kernel_rfl
theorem infoHeld : (Try.prog.info? 72).map (fun i => (i.zero, i.size, i.bytes)) = some (some (.agg #[.int .i64 0, .int .i64 0, .int .u64 0, .int .u64 0, .int .u64 0]), 5, 40) := by kernel_rfl
theorem infoLast : (Try.prog.info? 76).map (fun i => (i.zero, i.size, i.bytes)) = some (some (.agg #[.int .i64 0, .int .u64 0, .int .u64 0, .int .i64 0, .int .i64 0, .int .u64 0]), 6, 48) := by kernel_rfl
def entK : Kd Ent := flk Ent.enc 9 Ent.len Ent.one
/-- without the place where its nodes lie -/
def Ent.data (e : Ent) : Ent := { e with A := none, c := 0 }
/-- e with its nodes at another place -/
def Ent.at (e : Ent) (A : Option Addr) (c : Nat) : Ent := { e with A := A, c := c }
/-- the nodes' blocks of some entries -/
def nodesI (l : List Ent) (S : Nat → Prop) : HP where
  fp := S
  ok := fun w => ∀ e ∈ l, e.ok w ∧ inS S e.A
  loc := fun h k e he => ⟨{ (k e he).1 with rd := (k e he).1.rd.loc (fun ad ea => h _ ((k e he).2 ad ea)) }, (k e he).2⟩
end Go.Proofs.Ytekjihmepdhmeaa.Rlo
