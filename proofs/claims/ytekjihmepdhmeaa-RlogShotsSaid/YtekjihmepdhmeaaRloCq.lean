/- Lemmas towards the law: what of the text RloC it needs. -/
import Derived.Test.YtekjihmepdhmeaaRloBq
namespace Go.Proofs.Ytekjihmepdhmeaa.Rlo
open Go.RowKit Go.Proofs.YtekjihmepdhmeaaW.PrintWords Go.Proofs.Ytekjihmepdhmeaa.Sl
set_option linter.unusedVariables false
set_option linter.unusedSimpArgs false
theorem row_hi {α : Type} {enc : α → List Value} {sz : Nat} {hl : ∀ x, (enc x).length = sz} {h1 : ∀ x, (enc x).all (·.oneCell') = true} {w0 w : World} {is : List HP} (HS : SH w0 w is) (n : Nat) {e : TypeId} {A : Option Addr} {m c : Nat} {xs : List α} {S : Nat → Prop} (hn : is[n]? = some (row (flk enc sz hl h1) e (.slice A m c) xs S)) : m = xs.length ∧ m ≤ c := by
  obtain ⟨A', c', he, hc, _⟩ := row_rd HS n hn
  injection he with e1 e2 e3
  subst e2 e3
  exact ⟨rfl, hc⟩
/-- how much memory it takes -/
structure Sht.szd (s : Sht) : Prop where
  n : s.nodes.length * 8 ≤ 140737488351232
  h : s.held.length * 40 ≤ 140737488351232
  l : s.last.length * 48 ≤ 140737488351232
structure Hrd.szd (d : Hrd) : Prop where
  s : d.s.szd
  g : d.log.length * 88 ≤ 140737488351232
  e : ∀ e ∈ d.log, e.nodes.length * 8 ≤ 140737488351232
/-- the same data, at another place -/
structure Sht.same (s s' : Sht) : Prop where
  si : s'.si = s.si
  st : s'.st = s.st
  nodes : s'.nodes = s.nodes
  lim : s'.lim = s.lim
  nxt : s'.nxt = s.nxt
  held : s'.held = s.held
  last : s'.last = s.last
structure Hrd.same (d d' : Hrd) : Prop where
  boot : d'.boot = d.boot
  term : d'.term = d.term
  vote : d'.vote = d.vote
  s : d.s.same d'.s
  log : d'.log.map Ent.data = d.log.map Ent.data
/-- where all of it lies -/
def hrdI (d : Hrd) (S1 S2 S3 S4 S5 : Nat → Prop) : List HP := [rdI (ints .i64) 1 d.s.nA d.s.nodes.length d.s.nodes S1, rdI Led.Held.enc 5 d.s.hA d.s.held.length d.s.held S2, rdI Led.Last.enc 6 d.s.lA d.s.last.length d.s.last S3, rdI Ent.enc 9 d.gA d.log.length d.log S4, nodesI d.log S5]
theorem same_len {d d' : Hrd} (h : d.same d') : d'.log.length = d.log.length := by
  have := congrArg List.length h.log
  rwa [List.length_map, List.length_map] at this
end Go.Proofs.Ytekjihmepdhmeaa.Rlo
