import Derived.Test.YtekjihmepdhmeaaLec2j
import Derived.Test.YtekjihmepdhmeaaNod1j
import Derived.Test.YtekjihmepdhmeaaNod0j
import Derived.Test.YtekjihmepdhmeaaOpq
import Derived.IntWalk
section
/- Lemmas towards the law: what of the text Lec3 it needs. -/
namespace Go.Proofs.Ytekjihmepdhmeaa.Led
open Go.RowKit Go.Proofs.YtekjihmepdhmeaaW.PrintWords Go.Proofs.Ytekjihmepdhmeaa.Sl
set_option linter.unusedVariables false
set_option linter.unusedSimpArgs false
def hOk0 (lim nxt : Int) (l : List Held) (i : Nat) : Bool :=
  let h := l.getD i default
  !((decide (0 < i) && decide (h.token ≤ (l.getD (i - 1) default).token)) || decide (h.token < 1) || decide (lim < h.token) || decide (h.node < 1) || decide (7 < h.node) || decide (h.boot < 1) || decide (h.stamp < 1) || decide (h.serial < 1) || decide (nxt ≤ h.serial))
def hOk (lim nxt : Int) (l : List Held) (i : Nat) : Bool := hOk0 lim nxt l i && !((l.take i).any (fun g => g.serial == (l.getD i default).serial))
def lOk (lim nxt : Int) (m : List Last) (i : Nat) : Bool :=
  let x := m.getD i default
  !((decide (0 < i) && decide (x.node ≤ (m.getD (i - 1) default).node)) || decide (x.node < 1) || decide (7 < x.node) || decide (x.boot < 1) || decide (x.seq < 1) || !okAns lim nxt x.ans)
def hAll (lim nxt : Int) (l : List Held) (k : Nat) : Bool := decide (∀ i, i < k → hOk lim nxt l i = true)
def lAll (lim nxt : Int) (m : List Last) (k : Nat) : Bool := decide (∀ i, i < k → lOk lim nxt m i = true)
/-- The document's answer. -/
def isLed (lim nxt : Int) (l : List Held) (m : List Last) : Bool := good0 lim nxt l.length && hAll lim nxt l l.length && lAll lim nxt m m.length
theorem all_succ (f : Nat → Bool) (k : Nat) : decide (∀ i, i < k + 1 → f i = true) = (decide (∀ i, i < k → f i = true) && f k) := by
  rw [Bool.eq_iff_iff, decide_eq_true_eq, Bool.and_eq_true, decide_eq_true_eq]
  constructor
  · exact fun h => ⟨fun i hi => h i (by omega), h k (by omega)⟩
  · rintro ⟨h1, h2⟩ i hi
    rcases Nat.lt_or_ge i k with h | h
    · exact h1 i h
    · obtain rfl : i = k := by omega
      exact h2
def tokAt (l : List Held) (k : Nat) : Int := if k = 0 then 0 else (l.getD (k - 1) default).token
def nodAt (m : List Last) (k : Nat) : Int := if k = 0 then 0 else (m.getD (k - 1) default).node
theorem any_count (l : List Held) (s : Int) : l.any (fun g => g.serial == s) = decide (0 < l.countP (fun g => g.serial == s)) := by
  rw [Bool.eq_iff_iff, decide_eq_true_eq, List.countP_pos_iff, List.any_eq_true]
theorem hOk_step {lim nxt : Int} {l : List Held} {k : Nat} {mm : Cnt} (hc : ∀ s, cntOf mm s = ((l.take k).countP (fun h => h.serial == s) : Nat)) (hp : 0 < k → hAll lim nxt l k = true → 1 ≤ (l.getD (k - 1) default).token) :
    (hAll lim nxt l k && okHeld lim nxt (tokAt l k) mm (l.getD k default)) = (hAll lim nxt l k && hOk lim nxt l k) := by
  cases ha : hAll lim nxt l k with
  | false => rfl
  | true =>
    have hp := fun h => hp h ha
    simp only [Bool.true_and]
    unfold hOk hOk0 okHeld isNode
    rw [any_count, hc]
    generalize (l.take k).countP (fun h => h.serial == (l.getD k default).serial) = n
    unfold tokAt
    generalize (l.getD (k - 1) default).token = p at hp ⊢
    generalize l.getD k default = h
    by_cases h0 : k = 0
    · subst h0
      rw [if_pos rfl]
      grind
    · rw [if_neg h0]
      have := hp (by omega)
      have h0' : 0 < k := by omega
      grind
theorem lOk_step {lim nxt : Int} {m : List Last} {k : Nat} (hp : 0 < k → lAll lim nxt m k = true → 1 ≤ (m.getD (k - 1) default).node) :
    (lAll lim nxt m k && okLast lim nxt (nodAt m k) (m.getD k default)) = (lAll lim nxt m k && lOk lim nxt m k) := by
  cases ha : lAll lim nxt m k with
  | false => rfl
  | true =>
    have hp := fun h => hp h ha
    simp only [Bool.true_and]
    unfold lOk okLast isNode
    unfold nodAt
    generalize (m.getD (k - 1) default).node = p at hp ⊢
    generalize m.getD k default = h
    by_cases h0 : k = 0
    · subst h0
      rw [if_pos rfl]
      grind
    · rw [if_neg h0]
      have := hp (by omega)
      have h0' : 0 < k := by omega
      grind
theorem hAll_tok {lim nxt : Int} {l : List Held} {k : Nat} (h0 : 0 < k) (h : hAll lim nxt l k = true) : 1 ≤ (l.getD (k - 1) default).token := by
  have := (of_decide_eq_true h) (k - 1) (by omega)
  unfold hOk hOk0 at this
  grind
theorem lAll_nod {lim nxt : Int} {m : List Last} {k : Nat} (h0 : 0 < k) (h : lAll lim nxt m k = true) : 1 ≤ (m.getD (k - 1) default).node := by
  have := (of_decide_eq_true h) (k - 1) (by omega)
  unfold lOk at this
  grind
theorem held_fold (lim nxt : Int) (l : List Held) (g0 : Bool) : ∀ k, k ≤ l.length → ∃ mm, (l.take k).foldl (hstep lim nxt) (g0, 0, []) = (g0 && hAll lim nxt l k, tokAt l k, mm) ∧ ∀ s, cntOf mm s = ((l.take k).countP (fun h => h.serial == s) : Nat)
  | 0, _ => ⟨[], by simp [hAll, tokAt], fun s => by simp [cntOf, mget]⟩
  | k + 1, hk => by
    obtain ⟨mm, h1, h2⟩ := held_fold lim nxt l g0 k (by omega)
    refine ⟨mput mm (l.getD k default).serial (cntOf mm (l.getD k default).serial + 1), (foldl_take_succ (z := default) (by omega) rfl h1).trans ?_, ?_⟩
    · unfold hstep
      have := hOk_step (lim := lim) (nxt := nxt) h2 hAll_tok
      simp only [Prod.mk.injEq]
      refine ⟨?_, by simp [tokAt], trivial⟩
      rw [Bool.and_assoc, this]
      unfold hAll
      rw [all_succ]
    · intro s
      rw [cntOf_put, take_succ_getD default (by omega), List.countP_append, h2, h2]
      by_cases e : (l.getD k default).serial = s
      · subst e; simp
      · have : ((l.getD k default).serial == s) = false := beq_eq_false_iff_ne.2 e
        rw [if_neg e, List.countP_cons, this]
        simp
theorem last_fold (lim nxt : Int) (m : List Last) (g0 : Bool) : ∀ k, k ≤ m.length → (m.take k).foldl (lstep lim nxt) (g0, 0) = (g0 && lAll lim nxt m k, nodAt m k)
  | 0, _ => by simp [lAll, nodAt]
  | k + 1, hk => by
    have h1 := last_fold lim nxt m g0 k (by omega)
    refine (foldl_take_succ (z := default) (by omega) rfl h1).trans ?_
    unfold lstep
    have := lOk_step (lim := lim) (nxt := nxt) (m := m) (k := k) lAll_nod
    simp only [Prod.mk.injEq]
    refine ⟨?_, by simp [nodAt]⟩
    rw [Bool.and_assoc, this]
    unfold lAll
    rw [all_succ]
/-- The plain law of Check. -/
theorem ck_isLed (lim nxt : Int) (l : List Held) (m : List Last) : ckLed lim nxt l m = isLed lim nxt l m := by
  unfold ckLed isLed
  obtain ⟨mm, h1, _⟩ := held_fold lim nxt l (good0 lim nxt l.length) l.length (Nat.le_refl _)
  rw [List.take_length] at h1
  have h2 := last_fold lim nxt m (good0 lim nxt l.length && hAll lim nxt l l.length) m.length (Nat.le_refl _)
  rw [List.take_length] at h2
  rw [h1, h2]
end Go.Proofs.Ytekjihmepdhmeaa.Led

end
section
/- Lemmas towards the law: what of the text Rlc0 it needs. -/
namespace Go.Proofs.Ytekjihmepdhmeaa.Rlo
open Go.RowKit Go.Proofs.YtekjihmepdhmeaaW.PrintWords Go.Proofs.Ytekjihmepdhmeaa.Sl
set_option linter.unusedVariables false
set_option linter.unusedSimpArgs false
abbrev Held := Led.Held
abbrev Last := Led.Last
def ln (n : Int) : Prop := 0 ≤ n ∧ n < 18446744073709551616
/-- an entry of the log; its list of nodes lies elsewhere -/
structure Ent where
  term : Int
  kind : Int
  node : Int
  token : Int
  A : Option Addr
  c : Nat
  nodes : List Int
  boot : Int
  seq : Int
  serial : Int
  stamp : Int
  deriving Inhabited
def Ent.cmd (e : Ent) : List Value := [.int .i64 e.kind, .int .i64 e.node, .int .i64 e.token, .slice e.A e.nodes.length e.c, .int .u64 e.boot, .int .u64 e.seq, .int .u64 e.serial, .int .u64 e.stamp]
def Ent.enc (e : Ent) : List Value := [.int .u64 e.term, .int .i64 e.kind, .int .i64 e.node, .int .i64 e.token, .slice e.A e.nodes.length e.c, .int .u64 e.boot, .int .u64 e.seq, .int .u64 e.serial, .int .u64 e.stamp]
theorem Ent.len (e : Ent) : e.enc.length = 9 := rfl
theorem Ent.one (e : Ent) : e.enc.all (·.oneCell') = true := rfl
structure Ent.ok (w : World) (e : Ent) : Prop where
  rd : Rd (ints .i64) 1 w e.A e.nodes.length e.nodes
  term : ln e.term
  boot : ln e.boot
  seq : ln e.seq
  serial : ln e.serial
  stamp : ln e.stamp
  nodeHi : e.node ≤ 9223372036854775807
  tokHi : e.token ≤ 9223372036854775807
theorem Ent.ok.below {w w1 : World} {e : Ent} (h : e.ok w) (hb : Below w.heap.size w w1) : e.ok w1 := { h with rd := h.rd.below hb }
theorem Ent.ok.sh {w0 w : World} {is : List HP} {e : Ent} (h : e.ok w0) (HS : SH w0 w is) : e.ok w := h.below HS.below
/-- a snapshot -/
structure Sht where
  si : Int
  st : Int
  nA : Option Addr
  nc : Nat
  nodes : List Int
  lim : Int
  nxt : Int
  hA : Option Addr
  hc : Nat
  held : List Held
  lA : Option Addr
  lc : Nat
  last : List Last
  deriving Inhabited
def Sht.enc (s : Sht) : List Value := [.int .u64 s.si, .int .u64 s.st, .slice s.nA s.nodes.length s.nc, .int .i64 s.lim, .int .u64 s.nxt, .slice s.hA s.held.length s.hc, .slice s.lA s.last.length s.lc]
structure Sht.ok (w : World) (s : Sht) : Prop where
  rn : Rd (ints .i64) 1 w s.nA s.nodes.length s.nodes
  rh : Rd Led.Held.enc 5 w s.hA s.held.length s.held
  rl : Rd Led.Last.enc 6 w s.lA s.last.length s.last
  hc : s.held.length ≤ s.hc
  si : ln s.si
  st : ln s.st
  nxt : ln s.nxt
  ser : ∀ x ∈ s.last, 0 ≤ x.ans.serial ∧ x.ans.serial < 18446744073709551616
theorem Sht.ok.below {w w1 : World} {s : Sht} (h : s.ok w) (hb : Below w.heap.size w w1) : s.ok w1 := { h with rn := h.rn.below hb, rh := h.rh.below hb, rl := h.rl.below hb }
theorem Sht.ok.sh {w0 w : World} {is : List HP} {s : Sht} (h : s.ok w0) (HS : SH w0 w is) : s.ok w := h.below HS.below
structure Hrd where
  boot : Int
  term : Int
  vote : Int
  s : Sht
  gA : Option Addr
  gc : Nat
  log : List Ent
  deriving Inhabited
def Hrd.enc (h : Hrd) : List Value := [.int .u64 h.boot, .int .u64 h.term, .int .i64 h.vote, .int .u64 h.s.si, .int .u64 h.s.st, .slice h.s.nA h.s.nodes.length h.s.nc, .int .i64 h.s.lim, .int .u64 h.s.nxt, .slice h.s.hA h.s.held.length h.s.hc, .slice h.s.lA h.s.last.length h.s.lc, .slice h.gA h.log.length h.gc]
structure Hrd.ok (w : World) (h : Hrd) : Prop where
  s : h.s.ok w
  rg : Rd Ent.enc 9 w h.gA h.log.length h.log
  re : ∀ e ∈ h.log, e.ok w
  boot : ln h.boot
  term : ln h.term
theorem Hrd.ok.below {w w1 : World} {h : Hrd} (k : h.ok w) (hb : Below w.heap.size w w1) : h.ok w1 := { k with s := k.s.below hb, rg := k.rg.below hb, re := fun e he => (k.re e he).below hb }
theorem Hrd.ok.sh {w0 w : World} {is : List HP} {h : Hrd} (k : h.ok w0) (HS : SH w0 w is) : h.ok w := k.below HS.below
def kN (k : Int) : Bool := k == 2
def kR (k : Int) : Bool := (k == 3) || (k == 4) || (k == 5)
def kT (k : Int) : Bool := (k == 4) || (k == 5) || (k == 6)
def kS (k : Int) : Bool := k == 6
def kI (k : Int) : Bool := decide (1 ≤ k) && decide (k ≤ 6)
def cmdOk (e : Ent) : Bool :=
  kI e.kind && (if kN e.kind then Nod.good e.nodes else e.nodes.length == 0) &&
  (if kR e.kind then decide (1 ≤ e.node) && decide (e.node ≤ 7) && decide (0 < e.boot) && decide (0 < e.seq) else (e.node == 0) && (e.boot == 0) && (e.seq == 0)) &&
  (if kT e.kind then decide (1 ≤ e.token) && decide (e.token ≤ 65535) && decide (0 < e.serial) else (e.token == 0) && (e.serial == 0)) &&
  (decide (0 < e.stamp) == kS e.kind)
def shotOk (s : Sht) : Bool := s.held.all (fun h => decide (h.stamp ≤ s.si)) && Nod.good s.nodes && Led.isLed s.lim s.nxt s.held s.last && ((s.si == 0) == (s.st == 0))
/-- the last index -/
def lastOf (h : Hrd) : Int := IntKind.u64.wrap (h.s.si + h.log.length)
def headOk (h : Hrd) : Bool := decide (h.boot ≤ 4611686018427387904) && shotOk h.s && decide (h.s.si ≤ 4611686018427387904) && decide (lastOf h ≤ 4611686018427387904) && decide (0 ≤ h.vote) && decide (h.vote ≤ 7) && (decide (0 < h.term) || (h.vote == 0))
/-- entries behind one of a term -/
def logGo (t : Int) : List Ent → Int → Bool
  | [], p => decide (p ≤ t)
  | x :: xs, p => decide (1 ≤ x.term) && decide (p ≤ x.term) && cmdOk x && logGo t xs x.term
def hardOk (h : Hrd) : Bool := headOk h && logGo h.term h.log h.s.st
/-- the term at an index -/
def termOf (h : Hrd) (i : Int) : Int × Bool := if i = h.s.si then (h.s.st, true) else if i < h.s.si ∨ lastOf h < i then (0, false) else ((h.log.getD (i - h.s.si - 1).toNat default).term, true)
theorem hardOk_last {h : Hrd} {w : World} (k : h.ok w) (hk : hardOk h = true) : lastOf h = h.s.si + h.log.length ∧ h.s.si + h.log.length < 18446744073709551616 := by
  unfold hardOk headOk at hk
  simp only [Bool.and_eq_true, decide_eq_true_eq] at hk
  have h1 := hk.1.1.1.1.1.2
  have h2 := k.rg.len.2
  have h3 := k.s.si.1
  have : h.s.si + h.log.length < 18446744073709551616 := by omega
  refine ⟨?_, this⟩
  unfold lastOf
  exact IntWalk.u64_in _ (by omega)
end Go.Proofs.Ytekjihmepdhmeaa.Rlo

end
