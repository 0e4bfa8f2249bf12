import Derived.Test.YtekjihmepdhmeaaLeLj
import Derived.Test.YtekjihmepdhmeaaLeF0j
import Derived.Test.YtekjihmepdhmeaaLeG0j
import Derived.Test.YtekjihmepdhmeaaSlXq
import Derived.Test.YtekjihmepdhmeaaRloDj
import Derived.Test.YtekjihmepdhmeaaRlc1q
import Derived.Deep.DeepCutAuto
import Derived.Test.YtekjihmepdhmeaaRloEj
import Derived.Test.YtekjihmepdhmeaaRloG0j
section
/- Lemmas towards the law: what of the text LeM it needs. -/
namespace Go.Proofs.Ytekjihmepdhmeaa.Led
open Go.RowKit Go.Proofs.YtekjihmepdhmeaaW.PrintWords Go.Proofs.Ytekjihmepdhmeaa.Sl
set_option linter.unusedVariables false
set_option linter.unusedSimpArgs false
/-- what a node's last request came to -/
def lastOf (m : List Last) (n : Int) : Option Last := m.find? (fun y => y.node == n)
end Go.Proofs.Ytekjihmepdhmeaa.Led

end
section
/- Lemmas towards the law: what of the text LeM1 it needs. -/
namespace Go.Proofs.Ytekjihmepdhmeaa.Led
open Go.RowKit Go.Proofs.YtekjihmepdhmeaaW.PrintWords Go.Proofs.Ytekjihmepdhmeaa.Sl
set_option linter.unusedVariables false
set_option linter.unusedSimpArgs false
structure Lg where
  lim : Int
  nxt : Int
  held : List Held
  last : List Last
def Ap.lg (r : Ap) : Lg := ⟨r.lim, r.nxt, r.held, r.last⟩
def Lg.at (L : Lg) (ix : Int) (x : Rlo.Ent) : Ap := applyC L.lim L.nxt L.held L.last ix x
/-- the ledger goes on, if the command may come -/
def Lg.go (L : Lg) (ix : Int) (x : Rlo.Ent) : Lg := if (L.at ix x).err = 0 then (L.at ix x).lg else L
end Go.Proofs.Ytekjihmepdhmeaa.Led

end
section
/- Lemmas towards the law: what of the text RlpA it needs. -/
namespace Go.Proofs.Ytekjihmepdhmeaa.Rlo
open Go.RowKit Go.Proofs.YtekjihmepdhmeaaW.PrintWords Go.Proofs.Ytekjihmepdhmeaa.Sl
set_option linter.unusedVariables false
set_option linter.unusedSimpArgs false
abbrev Lg := Led.Lg
/-- the ledger behind the first k entries -/
def ledAt (d : Hrd) : Nat → Lg
  | 0 => ⟨d.s.lim, d.s.nxt, d.s.held, d.s.last⟩
  | k + 1 => (ledAt d k).go (d.s.si + k + 1) (d.log.getD k default)
end Go.Proofs.Ytekjihmepdhmeaa.Rlo

end
section
/- Lemmas towards the law: what of the text RlpB it needs. -/
namespace Go.Proofs.Ytekjihmepdhmeaa.Rlo
open Go.RowKit Go.Proofs.YtekjihmepdhmeaaW.PrintWords Go.Proofs.Ytekjihmepdhmeaa.Sl
set_option linter.unusedVariables false
set_option linter.unusedSimpArgs false
theorem lastLen {lim nxt : Int} {l : List Held} {m : List Last} (h : Led.LedOk lim nxt l m) : m.length ≤ 7 := by
  have := Led.isLed_iff.2 h
  exact Led.nodes_room (Led.isLed_parts this).2.2
end Go.Proofs.Ytekjihmepdhmeaa.Rlo

end
