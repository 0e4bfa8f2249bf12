import Derived.Test.YtekjihmepdhmeaaRlo8j
import Derived.Test.YtekjihmepdhmeaaSlXq
import Derived.Test.YtekjihmepdhmeaaNod1q
section
/- Lemmas towards the law: what of the text RloB it needs. -/
namespace Go.Proofs.Ytekjihmepdhmeaa.Rlo
open Go.RowKit Go.Proofs.YtekjihmepdhmeaaW.PrintWords Go.Proofs.Ytekjihmepdhmeaa.Sl
set_option linter.unusedVariables false
set_option linter.unusedSimpArgs false
theorem infoInt : (Try.prog.info? 3).map (fun i => (i.zero, i.size, i.bytes)) = some (some (.int .i64 0), 1, 8) := by kernel_rfl
theorem infoEnt : (Try.prog.info? 52).map (fun i => (i.zero, i.size, i.bytes)) = some (some (.agg #[.int .u64 0, .int .i64 0, .int .i64 0, .int .i64 0, .slice none 0 0, .int .u64 0, .int .u64 0, .int .u64 0, .int .u64 0]), 9, 88) := by kernel_rfl
def entK : Kd Ent := flk Ent.enc 9 Ent.len Ent.one
/-- without the place where its nodes lie -/
def Ent.data (e : Ent) : Ent := { e with A := none, c := 0 }
/-- e with its nodes at another place -/
def Ent.at (e : Ent) (A : Option Addr) (c : Nat) : Ent := { e with A := A, c := c }
/-- the nodes' blocks of some entries -/
def nodesI (l : List Ent) (S : Nat → Prop) : HP where
  fp := S
  ok := fun w => ∀ e ∈ l, e.ok w ∧ inS S e.A
  loc := fun h k e he => ⟨{ (k e he).1 with rd := (k e he).1.rd.loc (fun ad ea => h _ ((k e he).2 ad ea)) }, (k e he).2⟩
end Go.Proofs.Ytekjihmepdhmeaa.Rlo

end
section
/- Lemmas towards the law: what of the text RloC it needs. -/
namespace Go.Proofs.Ytekjihmepdhmeaa.Rlo
open Go.RowKit Go.Proofs.YtekjihmepdhmeaaW.PrintWords Go.Proofs.Ytekjihmepdhmeaa.Sl
set_option linter.unusedVariables false
set_option linter.unusedSimpArgs false
theorem row_hi {α : Type} {enc : α → List Value} {sz : Nat} {hl : ∀ x, (enc x).length = sz} {h1 : ∀ x, (enc x).all (·.oneCell') = true} {w0 w : World} {is : List HP} (HS : SH w0 w is) (n : Nat) {e : TypeId} {A : Option Addr} {m c : Nat} {xs : List α} {S : Nat → Prop} (hn : is[n]? = some (row (flk enc sz hl h1) e (.slice A m c) xs S)) : m = xs.length ∧ m ≤ c := by
  obtain ⟨A', c', he, hc, _⟩ := row_rd HS n hn
  injection he with e1 e2 e3
  subst e2 e3
  exact ⟨rfl, hc⟩
/-- how much memory it takes -/
structure Sht.szd (s : Sht) : Prop where
  n : s.nodes.length * 8 ≤ 140737488351232
  h : s.held.length * 40 ≤ 140737488351232
  l : s.last.length * 48 ≤ 140737488351232
structure Hrd.szd (d : Hrd) : Prop where
  s : d.s.szd
  g : d.log.length * 88 ≤ 140737488351232
  e : ∀ e ∈ d.log, e.nodes.length * 8 ≤ 140737488351232
/-- the same data, at another place -/
structure Sht.same (s s' : Sht) : Prop where
  si : s'.si = s.si
  st : s'.st = s.st
  nodes : s'.nodes = s.nodes
  lim : s'.lim = s.lim
  nxt : s'.nxt = s.nxt
  held : s'.held = s.held
  last : s'.last = s.last
structure Hrd.same (d d' : Hrd) : Prop where
  boot : d'.boot = d.boot
  term : d'.term = d.term
  vote : d'.vote = d.vote
  s : d.s.same d'.s
  log : d'.log.map Ent.data = d.log.map Ent.data
/-- where all of it lies -/
def hrdI (d : Hrd) (S1 S2 S3 S4 S5 : Nat → Prop) : List HP := [rdI (ints .i64) 1 d.s.nA d.s.nodes.length d.s.nodes S1, rdI Led.Held.enc 5 d.s.hA d.s.held.length d.s.held S2, rdI Led.Last.enc 6 d.s.lA d.s.last.length d.s.last S3, rdI Ent.enc 9 d.gA d.log.length d.log S4, nodesI d.log S5]
theorem same_len {d d' : Hrd} (h : d.same d') : d'.log.length = d.log.length := by
  have := congrArg List.length h.log
  rwa [List.length_map, List.length_map] at this
theorem same_mem {l l' : List Ent} (h : l'.map Ent.data = l.map Ent.data) {e : Ent} (he : e ∈ l') : ∃ e0 ∈ l, e.data = e0.data := by
  have : e.data ∈ l.map Ent.data := by rw [← h]; exact List.mem_map.2 ⟨e, he, rfl⟩
  obtain ⟨e0, h0, h1⟩ := List.mem_map.1 this
  exact ⟨e0, h0, h1.symm⟩
theorem same_szd {d d' : Hrd} (h : d.same d') (hz : d.szd) : d'.szd where
  s := { n := by rw [h.s.nodes]; exact hz.s.n, h := by rw [h.s.held]; exact hz.s.h, l := by rw [h.s.last]; exact hz.s.l }
  g := by rw [same_len h]; exact hz.g
  e := fun e he => by
    obtain ⟨e0, h0, h1⟩ := same_mem h.log he
    have h2 : e.nodes = e0.nodes := show e.data.nodes = e0.data.nodes from congrArg Ent.nodes h1
    rw [h2]
    exact hz.e e0 h0
end Go.Proofs.Ytekjihmepdhmeaa.Rlo

end
