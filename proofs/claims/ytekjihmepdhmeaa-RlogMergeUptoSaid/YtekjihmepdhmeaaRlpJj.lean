import Derived.Test.YtekjihmepdhmeaaRlpIj
import Derived.Test.YtekjihmepdhmeaaRloF0j
import Derived.Test.YtekjihmepdhmeaaRlpFj
import Derived.Test.YtekjihmepdhmeaaRlc1j
section
/- Lemmas towards the law: what of the text RlpJ it needs. -/
namespace Go.Proofs.Ytekjihmepdhmeaa.Rlo
open Go.RowKit Go.Proofs.YtekjihmepdhmeaaW.PrintWords Go.Proofs.Ytekjihmepdhmeaa.Sl
set_option linter.unusedVariables false
set_option linter.unusedSimpArgs false
def cutA (A : Option Addr) (c k : Nat) : Option Addr := if c = k then A else A.map (·.add (k * 9))
theorem cutA_rd {w : World} {A : Option Addr} {n c k : Nat} {xs : List Ent} (h : Rd Ent.enc 9 w A n xs) (hk : k ≤ n) (hn : n ≤ c) : Rd Ent.enc 9 w (cutA A c k) (n - k) (xs.drop k) := by
  have hl := h.len
  rcases Nat.lt_or_ge k n with h1 | h1
  · obtain ⟨ad, rfl⟩ := h.addr (by omega)
    unfold cutA
    rw [if_neg (by omega)]
    exact rd_drop h hk
  · refine ⟨by rw [List.length_drop]; omega, by omega, fun h0 => absurd h0 (by omega)⟩
theorem cutA_in {S : Nat → Prop} {A : Option Addr} {c k : Nat} (h : inS S A) : inS S (cutA A c k) := by
  unfold cutA
  split
  · exact h
  · intro ad e
    cases A with
    | none => cases e
    | some a =>
      injection e with e
      subst e
      rw [Sl.add_block]
      exact h a rfl
end Go.Proofs.Ytekjihmepdhmeaa.Rlo

end
section
/- Lemmas towards the law: what of the text RloG0 it needs. -/
namespace Go.Proofs.Ytekjihmepdhmeaa.Rlo
open Go.RowKit Go.Proofs.YtekjihmepdhmeaaW.PrintWords Go.Proofs.Ytekjihmepdhmeaa.Sl
set_option linter.unusedVariables false
set_option linter.unusedSimpArgs false
theorem ints_szd {x : intsS.D} (h : intsS.sized Try.prog x) : x.length * 8 ≤ 140737488351232 := by
  have e : Try.prog.bytesOf 3 = 8 := by kernel_rfl
  have := h.1
  rw [e] at this
  exact this
theorem entS_open' {w : World} {x : entS.D} {cs : List Value} (h : entS.kd.K w x cs) (hw : entS.wf x) (hz : entS.sized Try.prog x) : ∃ e : Ent, cs = e.enc ∧ e.ok w ∧ e.nodes.length * 8 ≤ 140737488351232 := by
  obtain ⟨_, _, rfl, rfl, _, _, rfl, ⟨_, _, rfl, rfl, _, _, rfl, rfl, _, _, rfl, rfl, _, _, rfl, hI, _, _, rfl, rfl, _, _, rfl, rfl, _, _, rfl, rfl, _, _, rfl, rfl, rfl⟩, rfl⟩ := h
  obtain ⟨A, c, rfl, _, hr⟩ := ints_open (e := 3) (k := .i64) hI
  obtain ⟨w1, ⟨w2, w3, w4, w5, w6, w7, w8, w9, _⟩, _⟩ := hw
  obtain ⟨_, ⟨_, _, _, z5, _⟩, _⟩ := hz
  exact ⟨⟨x.1, x.2.1.1, x.2.1.2.1, x.2.1.2.2.1, A, c, x.2.1.2.2.2.1, x.2.1.2.2.2.2.1, x.2.1.2.2.2.2.2.1, x.2.1.2.2.2.2.2.2.1, x.2.1.2.2.2.2.2.2.2.1⟩, rfl, ⟨hr, ln_of w1, ln_of w6, ln_of w7, ln_of w8, ln_of w9, i64_hi w3, i64_hi w4⟩, ints_szd z5⟩
theorem shotS_open' {w : World} {x : shotS.D} {cs : List Value} (h : shotS.kd.K w x cs) (hw : shotS.wf x) (hz : shotS.sized Try.prog x) : ∃ s : Sht, cs = s.enc ∧ s.ok w ∧ s.szd := by
  obtain ⟨_, _, rfl, rfl, _, _, rfl, rfl, _, _, rfl, hI, _, _, rfl, ⟨_, _, rfl, rfl, _, _, rfl, rfl, _, _, rfl, ⟨A, c, rfl, hl, hC⟩, _, _, rfl, ⟨B, c', rfl, hl', hC'⟩, rfl⟩, rfl⟩ := h
  obtain ⟨A1, c1, rfl, _, hr⟩ := ints_open (e := 3) (k := .i64) hI
  obtain ⟨w1, w2, w3, ⟨w4, w5, w6, w7, _⟩, _⟩ := hw
  obtain ⟨_, _, z3, ⟨_, _, z6, z7, _⟩, _⟩ := hz
  have hr1 := C_map hC toHeld (sz := 5) rfl (fun y cs hy => heldS_K y cs hy)
  have hr2 := C_map hC' toLast (sz := 6) rfl (fun y cs hy => lastS_K y cs hy)
  refine ⟨⟨x.1, x.2.1, A1, c1, x.2.2.1, x.2.2.2.1.1, x.2.2.2.1.2.1, A, c, x.2.2.2.1.2.2.1.map toHeld, B, c', x.2.2.2.1.2.2.2.1.map toLast⟩, ?_, ⟨hr, by rw [List.length_map]; exact hr1, by rw [List.length_map]; exact hr2, by rw [List.length_map]; exact hl, ln_of w1, ln_of w2, ln_of w5, ?_⟩, ⟨ints_szd z3, ?_, ?_⟩⟩
  · simp [Sht.enc, List.length_map]
  · intro y hy
    obtain ⟨z, hz, rfl⟩ := List.mem_map.1 hy
    obtain ⟨_, _, _, ⟨_, _, h4, _⟩, _⟩ := w7.2 z hz
    exact ln_of h4
  · have e : Try.prog.bytesOf 72 = 40 := by kernel_rfl
    have := z6.1
    rw [e] at this
    rw [List.length_map]
    exact this
  · have e : Try.prog.bytesOf 76 = 48 := by kernel_rfl
    have := z7.1
    rw [e] at this
    rw [List.length_map]
    exact this
theorem hardS_open' {w : World} {x : hardS.D} {cs : List Value} (h : hardS.kd.K w x cs) (hw : hardS.wf x) (hz : hardS.sized Try.prog x) : ∃ d : Hrd, cs = d.enc ∧ d.ok w ∧ d.szd := by
  obtain ⟨_, _, rfl, rfl, _, _, rfl, rfl, _, _, rfl, rfl, _, _, rfl, hs, _, _, rfl, ⟨A, c, rfl, hl, hC⟩, rfl⟩ := h
  obtain ⟨w1, w2, w3, w4, w5, _⟩ := hw
  obtain ⟨_, _, _, z4, z5, _⟩ := hz
  obtain ⟨s, rfl, hsk, hsz⟩ := shotS_open' hs w4 z4
  obtain ⟨ys, hys, hR, hE⟩ := C_mapR hC default (enc := Ent.enc) (sz := 9) rfl (R := fun e => e.ok w ∧ e.nodes.length * 8 ≤ 140737488351232) (fun y hy cs hcs => entS_open' hcs (w5.2 y hy) (z5.2 y hy))
  refine ⟨⟨x.1, x.2.1, x.2.2.1, s, A, c, ys⟩, ?_, ⟨hsk, by rw [hys]; exact hR, fun e he => (hE e he).1, ln_of w1, ln_of w2⟩, ⟨hsz, ?_, fun e he => (hE e he).2⟩⟩
  · simp [Hrd.enc, Sht.enc, hys]
  · have e : Try.prog.bytesOf 52 = 88 := by kernel_rfl
    have := z5.1
    rw [e] at this
    rw [hys]
    exact this
end Go.Proofs.Ytekjihmepdhmeaa.Rlo

end
section
/- Lemmas towards the law: what of the text LeF0 it needs. -/
namespace Go.Proofs.Ytekjihmepdhmeaa.Led
open Go.RowKit Go.Proofs.YtekjihmepdhmeaaW.PrintWords Go.Proofs.Ytekjihmepdhmeaa.Sl
set_option linter.unusedVariables false
set_option linter.unusedSimpArgs false
abbrev toCmd (x : Rlo.Ent) : Cmd := ⟨x.kind, x.node, x.token, .slice x.A x.nodes.length x.c, x.boot, x.seq, x.serial, x.stamp⟩
structure Ap where
  lim : Int
  nxt : Int
  held : List Held
  last : List Last
  ans : Ans
  err : Int
/-- which of two requests is the later: by boot, then by number -/
def ordS (x : Rlo.Ent) (y : Last) : Int := if cmpI x.boot y.boot = 0 then cmpI x.seq y.seq else cmpI x.boot y.boot
/-- a row for the node, if there is none -/
def roomC (m : List Last) (node : Int) : List Last := if isLast m node = true then m else m.take (posLast m node) ++ (⟨0, 0, 0, ⟨0, 0, 0⟩⟩ : Last) :: m.drop (posLast m node)
def doneC (lim nxt : Int) (l : List Held) (m : List Last) (ix : Int) (x : Rlo.Ent) : Ap :=
  ⟨lim, (requestC lim nxt l ix (toCmd x)).nxt, (requestC lim nxt l ix (toCmd x)).held, (roomC m x.node).set (posLast m x.node) ⟨x.node, x.boot, x.seq, (requestC lim nxt l ix (toCmd x)).ans⟩, (requestC lim nxt l ix (toCmd x)).ans, 0⟩
def reclB (l : List Held) (x : Rlo.Ent) : Bool := isHeld l x.token && ((l.getD (posHeld l x.token) default).serial == x.serial) && ((l.getD (posHeld l x.token) default).stamp == x.stamp)
def applyC (lim nxt : Int) (l : List Held) (m : List Last) (ix : Int) (x : Rlo.Ent) : Ap :=
  if isLed lim nxt l m = false then ⟨0, 0, [], [], ⟨0, 0, 0⟩, 50⟩
  else if Rlo.cmdOk x = false then ⟨0, 0, [], [], ⟨0, 0, 0⟩, 40⟩
  else if ix = 0 then ⟨0, 0, [], [], ⟨0, 0, 0⟩, 1⟩
  else if x.kind = 1 ∨ x.kind = 2 then ⟨lim, nxt, l, m, ⟨0, 0, 0⟩, 0⟩
  else if x.kind = 6 then (if reclB l x = true then ⟨lim, nxt, l.eraseIdx (posHeld l x.token), m, ⟨5, 0, 0⟩, 0⟩ else ⟨lim, nxt, l, m, ⟨4, 0, 0⟩, 0⟩)
  else if isLast m x.node = true then
    (if ordS x (m.getD (posLast m x.node) default) = -1 then ⟨lim, nxt, l, m, ⟨6, 0, 0⟩, 0⟩
     else if ordS x (m.getD (posLast m x.node) default) = 0 then ⟨lim, nxt, l, m, (m.getD (posLast m x.node) default).ans, 0⟩
     else doneC lim nxt l m ix x)
  else doneC lim nxt l m ix x
theorem srt_of {l : List Held} {lim nxt : Int} (h : hAll lim nxt l l.length = true) : srtHeld l := by
  have step : ∀ q, q + 1 < l.length → (l.getD q default).token < (l.getD (q + 1) default).token := fun q hq => by
    have := (of_decide_eq_true h) (q + 1) hq
    unfold hOk hOk0 at this
    simp only [Nat.add_sub_cancel] at this
    grind
  intro p q hpq hq
  induction q with
  | zero => omega
  | succ q ih =>
    have h1 := step q hq
    rcases Nat.lt_or_ge p q with h2 | h2
    · have := ih h2 (by omega)
      omega
    · obtain rfl : p = q := by omega
      exact h1
theorem srtL_of {m : List Last} {lim nxt : Int} (h : lAll lim nxt m m.length = true) : srtLast m := by
  have step : ∀ q, q + 1 < m.length → (m.getD q default).node < (m.getD (q + 1) default).node := fun q hq => by
    have := (of_decide_eq_true h) (q + 1) hq
    unfold lOk at this
    simp only [Nat.add_sub_cancel] at this
    grind
  intro p q hpq hq
  induction q with
  | zero => omega
  | succ q ih =>
    have h1 := step q hq
    rcases Nat.lt_or_ge p q with h2 | h2
    · have := ih h2 (by omega)
      omega
    · obtain rfl : p = q := by omega
      exact h1
theorem isLed_parts {lim nxt : Int} {l : List Held} {m : List Last} (h : isLed lim nxt l m = true) : (1 ≤ lim ∧ lim ≤ 65535 ∧ 1 ≤ nxt ∧ l.length ≤ 64) ∧ hAll lim nxt l l.length = true ∧ lAll lim nxt m m.length = true := by
  unfold isLed good0 at h
  simp only [Bool.and_eq_true, decide_eq_true_eq] at h
  exact ⟨⟨h.1.1.1.1.1, h.1.1.1.1.2, h.1.1.1.2, h.1.1.2⟩, h.1.2, h.2⟩
theorem nodes_room {m : List Last} {lim nxt : Int} (h : lAll lim nxt m m.length = true) : m.length ≤ 7 := by
  have step : ∀ q, q < m.length → (q : Int) + 1 ≤ (m.getD q default).node := fun q hq => by
    have hs := srtL_of h
    have h1 : ∀ q, q < m.length → 1 ≤ (m.getD q default).node ∧ (m.getD q default).node ≤ 7 := fun q hq => by
      have := (of_decide_eq_true h) q hq
      unfold lOk at this
      grind
    induction q with
    | zero => have := (h1 0 hq).1; omega
    | succ q ih =>
      have := ih (by omega)
      have := hs q (q + 1) (by omega) hq
      omega
  rcases Nat.lt_or_ge 7 m.length with h7 | h7
  · have h2 := step 7 h7
    have h3 := (of_decide_eq_true h) 7 h7
    unfold lOk at h3
    grind
  · exact h7
end Go.Proofs.Ytekjihmepdhmeaa.Led

end
