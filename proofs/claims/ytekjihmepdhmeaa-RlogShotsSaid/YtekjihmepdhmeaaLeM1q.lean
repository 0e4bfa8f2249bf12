/- Lemmas towards the law: what of the text LeM1 it needs. -/
import Derived.Test.YtekjihmepdhmeaaLeMq
import Derived.Test.YtekjihmepdhmeaaLeK1q
namespace Go.Proofs.Ytekjihmepdhmeaa.Led
open Go.RowKit Go.Proofs.YtekjihmepdhmeaaW.PrintWords Go.Proofs.Ytekjihmepdhmeaa.Sl
set_option linter.unusedVariables false
set_option linter.unusedSimpArgs false
structure Lg where
  lim : Int
  nxt : Int
  held : List Held
  last : List Last
structure Lg.ok (L : Lg) : Prop where
  led : LedOk L.lim L.nxt L.held L.last
  hi : L.nxt < 18446744073709551616
theorem Lg.ok.ser {L : Lg} (h : L.ok) : ∀ y ∈ L.last, 0 ≤ y.ans.serial ∧ y.ans.serial < 18446744073709551616 := by
  intro y hy
  have h1 := (h.led.last y hy).2.2.2.2
  have h2 := h.hi
  unfold okAns at h1
  split at h1
  · simp only [Bool.and_eq_true, decide_eq_true_eq] at h1
    omega
  · simp only [Bool.and_eq_true, decide_eq_true_eq] at h1
    omega
def Ap.lg (r : Ap) : Lg := ⟨r.lim, r.nxt, r.held, r.last⟩
def Lg.at (L : Lg) (ix : Int) (x : Rlo.Ent) : Ap := applyC L.lim L.nxt L.held L.last ix x
theorem Lg.ok.stepAt {L : Lg} (h : L.ok) {ix : Int} (hx : 0 ≤ ix) {x : Rlo.Ent} (he : (L.at ix x).err = 0) : (L.at ix x).lg.ok := by
  obtain ⟨h1, _, _, h4⟩ := apply_keeps h.led hx x he
  exact ⟨h1, h4 h.hi⟩
/-- the ledger goes on, if the command may come -/
def Lg.go (L : Lg) (ix : Int) (x : Rlo.Ent) : Lg := if (L.at ix x).err = 0 then (L.at ix x).lg else L
theorem Lg.ok.go {L : Lg} (h : L.ok) {ix : Int} (hx : 0 ≤ ix) (x : Rlo.Ent) : (L.go ix x).ok := by
  unfold Lg.go
  split
  · rename_i he
    exact h.stepAt hx he
  · exact h
theorem codeAt (A B : Option Addr) (c d : Nat) (L : Lg) (h : L.ok) (ix : Int) (x : Rlo.Ent) (w : World) (r : Ap) (hr' : L.at ix x = r)
    (hr : Rd Held.enc 5 w A L.held.length L.held) (hrl : Rd Last.enc 6 w B L.last.length L.last) (hx : x.ok w) :
    Calls Try.prog 59 #[.agg #[.int .i64 L.lim, .int .u64 L.nxt, .slice A L.held.length c, .slice B L.last.length d], .int .u64 ix, .agg #[.int .i64 x.kind, .int .i64 x.node, .int .i64 x.token, .slice x.A x.nodes.length x.c, .int .u64 x.boot, .int .u64 x.seq, .int .u64 x.serial, .int .u64 x.stamp]] w (RowPost w r) :=
  codeApply A B c d L.held.length L.last.length L.lim L.nxt ix L.held L.last x w r hr' hr hrl hx (by have := h.led.nxt1; omega) h.hi h.ser
end Go.Proofs.Ytekjihmepdhmeaa.Led
