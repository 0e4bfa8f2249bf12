/- Lemmas towards the law: what of the text LeK1 it needs. -/
import Derived.Test.YtekjihmepdhmeaaLeFq
import Derived.Test.YtekjihmepdhmeaaLeG0q
import Derived.Test.YtekjihmepdhmeaaSlXq
import Derived.Test.YtekjihmepdhmeaaLec5q
import Derived.Test.YtekjihmepdhmeaaRlc1q
import Derived.Deep.DeepCutAuto
namespace Go.Proofs.Ytekjihmepdhmeaa.Led
open Go.RowKit Go.Proofs.YtekjihmepdhmeaaW.PrintWords Go.Proofs.Ytekjihmepdhmeaa.Sl
set_option linter.unusedVariables false
set_option linter.unusedSimpArgs false
def RowPost (w : World) (r : Ap) (e : Ending) (w' : World) : Prop := ∃ A' N c' B' M d' S' S'', N = r.held.length ∧ M = r.last.length ∧
  e = .returned (.tuple #[.agg #[.int .i64 r.lim, .int .u64 r.nxt, .slice A' N c', .slice B' M d'], .agg #[.int .i64 r.ans.code, .int .i64 r.ans.token, .int .u64 r.ans.serial], .int .i64 r.err]) ∧
  SH w w' [row heldK 72 (.slice A' N c') r.held S', row lastK 76 (.slice B' M d') r.last S'']
theorem codeApply (A B : Option Addr) (c d n m : Nat) (lim nxt ix : Int) (l : List Held) (ml : List Last) (x : Rlo.Ent) (w : World) (r : Ap) (hr' : applyC lim nxt l ml ix x = r)
    (hr : Rd Held.enc 5 w A n l) (hrl : Rd Last.enc 6 w B m ml) (hx : x.ok w) (hnx0 : 0 ≤ nxt) (hnx : nxt < 18446744073709551616) (hs : ∀ y ∈ ml, 0 ≤ y.ans.serial ∧ y.ans.serial < 18446744073709551616) :
    Calls Try.prog 59 #[.agg #[.int .i64 lim, .int .u64 nxt, .slice A n c, .slice B m d], .int .u64 ix, .agg #[.int .i64 x.kind, .int .i64 x.node, .int .i64 x.token, .slice x.A x.nodes.length x.c, .int .u64 x.boot, .int .u64 x.seq, .int .u64 x.serial, .int .u64 x.stamp]] w (RowPost w r) := by
  subst hr'
  exact apply_any A B c d n m lim nxt ix l ml x w hr hrl hx hnx0 hnx hs
end Go.Proofs.Ytekjihmepdhmeaa.Led
