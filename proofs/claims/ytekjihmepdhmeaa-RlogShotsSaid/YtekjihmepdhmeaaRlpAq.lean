/- Lemmas towards the law: what of the text RlpA it needs. -/
import Derived.Test.YtekjihmepdhmeaaRloEq
import Derived.Test.YtekjihmepdhmeaaRloF0q
import Derived.Test.YtekjihmepdhmeaaRloG0q
import Derived.Test.YtekjihmepdhmeaaLeM1q
namespace Go.Proofs.Ytekjihmepdhmeaa.Rlo
open Go.RowKit Go.Proofs.YtekjihmepdhmeaaW.PrintWords Go.Proofs.Ytekjihmepdhmeaa.Sl
set_option linter.unusedVariables false
set_option linter.unusedSimpArgs false
abbrev Lg := Led.Lg
/-- the ledger behind the first k entries -/
def ledAt (d : Hrd) : Nat → Lg
  | 0 => ⟨d.s.lim, d.s.nxt, d.s.held, d.s.last⟩
  | k + 1 => (ledAt d k).go (d.s.si + k + 1) (d.log.getD k default)
structure AtR where
  si : Int
  st : Int
  nodes : List Int
  L : Lg
  err : Int
def noAt (e : Int) : AtR := ⟨0, 0, [], ⟨0, 0, [], []⟩, e⟩
def atG (d : Hrd) (i : Int) : AtR :=
  if hardOk d = false then noAt 130
  else if i < d.s.si ∨ lastOf d < i then noAt 4
  else ⟨i, (termOf d i).1, (confG d i).2, ledAt d (i - d.s.si).toNat, 0⟩
theorem led0_ok {d : Hrd} {w : World} (hk : d.ok w) (hg : hardOk d = true) : (ledAt d 0).ok := by
  unfold hardOk headOk shotOk at hg
  simp only [Bool.and_eq_true] at hg
  exact ⟨Led.isLed_iff.1 hg.1.1.1.1.1.1.2.1.2, hk.s.nxt.2⟩
theorem ledAt_ok {d : Hrd} {w : World} (hk : d.ok w) (hg : hardOk d = true) : ∀ k, (ledAt d k).ok
  | 0 => led0_ok hk hg
  | k + 1 => (ledAt_ok hk hg k).go (by have := hk.s.si.1; omega) _
def AtPost (w : World) (z : AtR) (e : Ending) (w' : World) : Prop := ∃ (A B C : Option Addr) (c1 c2 c3 : Nat) (S1 S2 S3 : Nat → Prop),
  e = .returned (.tuple #[.agg #[.int .u64 z.si, .int .u64 z.st, .slice A z.nodes.length c1, .int .i64 z.L.lim, .int .u64 z.L.nxt, .slice B z.L.held.length c2, .slice C z.L.last.length c3], .int .i64 z.err]) ∧
  SH w w' [row (intK .i64) 3 (.slice A z.nodes.length c1) z.nodes S1, row Led.heldK 72 (.slice B z.L.held.length c2) z.L.held S2, row Led.lastK 76 (.slice C z.L.last.length c3) z.L.last S3]
theorem atPost_mk {w : World} {z : AtR} {e : Ending} {w' : World} (h : ∃ (A B C : Option Addr) (c1 c2 c3 : Nat) (S1 S2 S3 : Nat → Prop),
  e = .returned (.tuple #[.agg #[.int .u64 z.si, .int .u64 z.st, .slice A z.nodes.length c1, .int .i64 z.L.lim, .int .u64 z.L.nxt, .slice B z.L.held.length c2, .slice C z.L.last.length c3], .int .i64 z.err]) ∧
  SH w w' [row (intK .i64) 3 (.slice A z.nodes.length c1) z.nodes S1, row Led.heldK 72 (.slice B z.L.held.length c2) z.L.held S2, row Led.lastK 76 (.slice C z.L.last.length c3) z.L.last S3]) : AtPost w z e w' := h
end Go.Proofs.Ytekjihmepdhmeaa.Rlo
