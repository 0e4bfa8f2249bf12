import Derived.Test.YtekjihmepdhmeaaLec1q
import Derived.Test.YtekjihmepdhmeaaSlXq
import Derived.Deep.DeepCutAuto
import Derived.IntWalk
import Derived.Test.YtekjihmepdhmeaaLeBj
import Derived.Test.YtekjihmepdhmeaaRlc1q
section
/- Lemmas towards the law: what of the text LeA it needs. -/
namespace Go.Proofs.Ytekjihmepdhmeaa.Led
open Go.RowKit Go.Proofs.YtekjihmepdhmeaaW.PrintWords Go.Proofs.Ytekjihmepdhmeaa.Sl
set_option linter.unusedVariables false
set_option linter.unusedSimpArgs false
def cmpI (x y : Int) : Int := if x < y then -1 else if y < x then 1 else 0
/-- where it stands, or would stand -/
def posHeld (l : List Held) (t : Int) : Nat := (l.takeWhile (fun h => decide (h.token < t))).length
def isHeld (l : List Held) (t : Int) : Bool := decide (posHeld l t < l.length) && decide ((l.getD (posHeld l t) default).token = t)
def srtHeld (l : List Held) : Prop := ∀ p q, p < q → q < l.length → (l.getD p default).token < (l.getD q default).token
/-- where it stands, or would stand -/
def posLast (l : List Last) (t : Int) : Nat := (l.takeWhile (fun h => decide (h.node < t))).length
def isLast (l : List Last) (t : Int) : Bool := decide (posLast l t < l.length) && decide ((l.getD (posLast l t) default).node = t)
def srtLast (l : List Last) : Prop := ∀ p q, p < q → q < l.length → (l.getD p default).node < (l.getD q default).node
end Go.Proofs.Ytekjihmepdhmeaa.Led

end
section
/- Lemmas towards the law: what of the text LeD it needs. -/
namespace Go.Proofs.Ytekjihmepdhmeaa.Led
open Go.RowKit Go.Proofs.YtekjihmepdhmeaaW.PrintWords Go.Proofs.Ytekjihmepdhmeaa.Sl
set_option linter.unusedVariables false
set_option linter.unusedSimpArgs false
/-- what is to be done -/
structure Cmd where
  kind : Int
  node : Int
  token : Int
  nodes : Value
  boot : Int
  seq : Int
  serial : Int
  stamp : Int
def freeI (lim : Int) (n : Nat) : Int := max (min (max lim 0) 64 - n) 0
/-- the first place whose token is not its number -/
def gapGo : List Held → Nat → Nat
  | [], i => i
  | h :: t, i => if h.token = (i : Int) + 1 then gapGo t (i + 1) else i
def gap (l : List Held) : Nat := gapGo l 0
structure Gr where
  nxt : Int
  held : List Held
  ans : Ans
def grantC (lim nxt : Int) (l : List Held) (ix node boot : Int) : Gr :=
  if freeI lim l.length = 0 ∨ nxt = 18446744073709551615 then ⟨nxt, l, ⟨2, 0, 0⟩⟩
  else ⟨nxt + 1, l.take (gap l) ++ ⟨(gap l : Int) + 1, node, boot, nxt, ix⟩ :: l.drop (gap l), ⟨1, (gap l : Int) + 1, nxt⟩⟩
end Go.Proofs.Ytekjihmepdhmeaa.Led

end
