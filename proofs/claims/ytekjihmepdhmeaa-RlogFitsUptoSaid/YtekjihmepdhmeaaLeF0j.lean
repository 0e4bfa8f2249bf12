import Derived.Test.YtekjihmepdhmeaaLeEj
import Derived.Test.YtekjihmepdhmeaaRlc1q
/- Lemmas towards the law: what of the text LeF0 it needs. -/
namespace Go.Proofs.Ytekjihmepdhmeaa.Led
open Go.RowKit Go.Proofs.YtekjihmepdhmeaaW.PrintWords Go.Proofs.Ytekjihmepdhmeaa.Sl
set_option linter.unusedVariables false
set_option linter.unusedSimpArgs false
abbrev toCmd (x : Rlo.Ent) : Cmd := ⟨x.kind, x.node, x.token, .slice x.A x.nodes.length x.c, x.boot, x.seq, x.serial, x.stamp⟩
structure Ap where
  lim : Int
  nxt : Int
  held : List Held
  last : List Last
  ans : Ans
  err : Int
/-- which of two requests is the later: by boot, then by number -/
def ordS (x : Rlo.Ent) (y : Last) : Int := if cmpI x.boot y.boot = 0 then cmpI x.seq y.seq else cmpI x.boot y.boot
/-- a row for the node, if there is none -/
def roomC (m : List Last) (node : Int) : List Last := if isLast m node = true then m else m.take (posLast m node) ++ (⟨0, 0, 0, ⟨0, 0, 0⟩⟩ : Last) :: m.drop (posLast m node)
def doneC (lim nxt : Int) (l : List Held) (m : List Last) (ix : Int) (x : Rlo.Ent) : Ap :=
  ⟨lim, (requestC lim nxt l ix (toCmd x)).nxt, (requestC lim nxt l ix (toCmd x)).held, (roomC m x.node).set (posLast m x.node) ⟨x.node, x.boot, x.seq, (requestC lim nxt l ix (toCmd x)).ans⟩, (requestC lim nxt l ix (toCmd x)).ans, 0⟩
def reclB (l : List Held) (x : Rlo.Ent) : Bool := isHeld l x.token && ((l.getD (posHeld l x.token) default).serial == x.serial) && ((l.getD (posHeld l x.token) default).stamp == x.stamp)
def applyC (lim nxt : Int) (l : List Held) (m : List Last) (ix : Int) (x : Rlo.Ent) : Ap :=
  if isLed lim nxt l m = false then ⟨0, 0, [], [], ⟨0, 0, 0⟩, 50⟩
  else if Rlo.cmdOk x = false then ⟨0, 0, [], [], ⟨0, 0, 0⟩, 40⟩
  else if ix = 0 then ⟨0, 0, [], [], ⟨0, 0, 0⟩, 1⟩
  else if x.kind = 1 ∨ x.kind = 2 then ⟨lim, nxt, l, m, ⟨0, 0, 0⟩, 0⟩
  else if x.kind = 6 then (if reclB l x = true then ⟨lim, nxt, l.eraseIdx (posHeld l x.token), m, ⟨5, 0, 0⟩, 0⟩ else ⟨lim, nxt, l, m, ⟨4, 0, 0⟩, 0⟩)
  else if isLast m x.node = true then
    (if ordS x (m.getD (posLast m x.node) default) = -1 then ⟨lim, nxt, l, m, ⟨6, 0, 0⟩, 0⟩
     else if ordS x (m.getD (posLast m x.node) default) = 0 then ⟨lim, nxt, l, m, (m.getD (posLast m x.node) default).ans, 0⟩
     else doneC lim nxt l m ix x)
  else doneC lim nxt l m ix x
theorem srt_of {l : List Held} {lim nxt : Int} (h : hAll lim nxt l l.length = true) : srtHeld l := by
  have step : ∀ q, q + 1 < l.length → (l.getD q default).token < (l.getD (q + 1) default).token := fun q hq => by
    have := (of_decide_eq_true h) (q + 1) hq
    unfold hOk hOk0 at this
    simp only [Nat.add_sub_cancel] at this
    grind
  intro p q hpq hq
  induction q with
  | zero => omega
  | succ q ih =>
    have h1 := step q hq
    rcases Nat.lt_or_ge p q with h2 | h2
    · have := ih h2 (by omega)
      omega
    · obtain rfl : p = q := by omega
      exact h1
theorem srtL_of {m : List Last} {lim nxt : Int} (h : lAll lim nxt m m.length = true) : srtLast m := by
  have step : ∀ q, q + 1 < m.length → (m.getD q default).node < (m.getD (q + 1) default).node := fun q hq => by
    have := (of_decide_eq_true h) (q + 1) hq
    unfold lOk at this
    simp only [Nat.add_sub_cancel] at this
    grind
  intro p q hpq hq
  induction q with
  | zero => omega
  | succ q ih =>
    have h1 := step q hq
    rcases Nat.lt_or_ge p q with h2 | h2
    · have := ih h2 (by omega)
      omega
    · obtain rfl : p = q := by omega
      exact h1
theorem isLed_parts {lim nxt : Int} {l : List Held} {m : List Last} (h : isLed lim nxt l m = true) : (1 ≤ lim ∧ lim ≤ 65535 ∧ 1 ≤ nxt ∧ l.length ≤ 64) ∧ hAll lim nxt l l.length = true ∧ lAll lim nxt m m.length = true := by
  unfold isLed good0 at h
  simp only [Bool.and_eq_true, decide_eq_true_eq] at h
  exact ⟨⟨h.1.1.1.1.1, h.1.1.1.1.2, h.1.1.1.2, h.1.1.2⟩, h.1.2, h.2⟩
theorem nodes_room {m : List Last} {lim nxt : Int} (h : lAll lim nxt m m.length = true) : m.length ≤ 7 := by
  have step : ∀ q, q < m.length → (q : Int) + 1 ≤ (m.getD q default).node := fun q hq => by
    have hs := srtL_of h
    have h1 : ∀ q, q < m.length → 1 ≤ (m.getD q default).node ∧ (m.getD q default).node ≤ 7 := fun q hq => by
      have := (of_decide_eq_true h) q hq
      unfold lOk at this
      grind
    induction q with
    | zero => have := (h1 0 hq).1; omega
    | succ q ih =>
      have := ih (by omega)
      have := hs q (q + 1) (by omega) hq
      omega
  rcases Nat.lt_or_ge 7 m.length with h7 | h7
  · have h2 := step 7 h7
    have h3 := (of_decide_eq_true h) 7 h7
    unfold lOk at h3
    grind
  · exact h7
end Go.Proofs.Ytekjihmepdhmeaa.Led

