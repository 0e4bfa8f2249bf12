import Derived.Test.YtekjihmepdhmeaaLeF
import Derived.Test.YtekjihmepdhmeaaLeJ
-- U5
namespace Go.Proofs.Ytekjihmepdhmeaa.Led
open Go.RowKit Go.Proofs.YtekjihmepdhmeaaW.PrintWords Go.Proofs.Ytekjihmepdhmeaa.Sl
set_option linter.unusedVariables false
set_option linter.unusedSimpArgs false
/-! Both answers with what they hand back behind a name. -/
def RowPost (w : World) (r : Ap) (e : Ending) (w' : World) : Prop := ∃ A' N c' B' M d' S' S'', N = r.held.length ∧ M = r.last.length ∧
  e = .returned (.tuple #[.agg #[.int .i64 r.lim, .int .u64 r.nxt, .slice A' N c', .slice B' M d'], .agg #[.int .i64 r.ans.code, .int .i64 r.ans.token, .int .u64 r.ans.serial], .int .i64 r.err]) ∧
  SH w w' [row heldK 72 (.slice A' N c') r.held S', row lastK 76 (.slice B' M d') r.last S'']
/-- rows that are turned in place: what they hold is forgotten -/
def arrI (sz : Nat) (e : TypeId) (A : Option Addr) (n : Nat) (S : Nat → Prop) : HP where
  fp := S
  ok := fun w => 0 < n → ∃ (g : Nat) (cs : List Value), A = some ⟨g, 0, none⟩ ∧ S g ∧ n * sz ≤ cs.length ∧ w.heap[g]? = some (.cells cs.toArray e (0, 0))
  loc := by
    intro w w' h k hn
    obtain ⟨g, cs, ha, hg, hl, hh⟩ := k hn
    exact ⟨g, cs, ha, hg, hl, (h g hg).trans hh⟩
theorem SH.toArr {α : Type} {enc : α → List Value} {sz : Nat} {hl : ∀ x, (enc x).length = sz} {h1 : ∀ x, (enc x).all (·.oneCell') = true} {w0 w : World} {is : List HP} (HS : SH w0 w is) (n : Nat) {e : TypeId} {A : Option Addr} {m c : Nat} {xs : List α} {S : Nat → Prop} (hn : is[n]? = some (row (flk enc sz hl h1) e (.slice A m c) xs S)) :
    SH w0 w (is.set n (arrI sz e A m S)) := by
  refine HS.say n hn (fun k hm => ?_) (fun b hb => hb)
  obtain ⟨g, tl, rfl, h2, h3, h4, h5, HS2⟩ := HS.rowBlkF n hn hm
  have hnl := (List.getElem?_eq_some_iff.1 hn).1
  have hh := HS2.blk n (by rw [List.getElem?_set_self hnl])
  refine ⟨g, _, rfl, k.1 g rfl, ?_, hh⟩
  rw [h5]
  exact Nat.mul_le_mul_right _ h3
theorem arr_addr {sz : Nat} {e : TypeId} {w0 w : World} {is : List HP} (HS : SH w0 w is) (n : Nat) {A : Option Addr} {m : Nat} {S : Nat → Prop} (hn : is[n]? = some (arrI sz e A m S)) (hm : 0 < m) : ∃ g, A = some ⟨g, 0, none⟩ := by
  obtain ⟨g, cs, ha, _⟩ := (HS.at n hn) hm
  exact ⟨g, ha⟩
section
variable {P : Program} {ops : Array Oper} {rest : List Oper} {o : Oper} {a : Act} {Q : Exit → Act → World → Prop}
theorem sh_storeArr {w0 W : World} {is : List HP} (HS : SH w0 W is) (hw : Region.wanted o (yielded ops a.tmps) = true) (hN : o.dst = none) {t : TypeId} {p x : Operand} (ho : o.op = .store t p x)
    {g i : Nat} (haddr : a.eval p = .pointer (some ⟨g, i, none⟩)) (n : Nat) {sz m : Nat} {e : TypeId} {S : Nat → Prop} (hn : is[n]? = some (arrI sz e (some ⟨g, 0, none⟩) m S)) {u : Value} (hx : a.eval x = u) (h0 : segOf u = [u])
    (ht : (P.info? t).map (·.size) = some 1) (h1 : u.oneCell' = true) (hfit : i < m * sz)
    (h : ∀ w1, SH w0 w1 is → wpList P ops Q rest a w1) : WP P ops Q (o :: rest) a W := by
  have hm : 0 < m := Nat.pos_of_ne_zero (fun h => by subst h; omega)
  obtain ⟨g', cs, ha, hg, hl, hh⟩ := (HS.at n hn) hm
  have e1 : g = g' := by
    injection ha with ha
    injection ha
  subst e1
  have hset : is.set n (arrI sz e (some ⟨g, 0, none⟩) m S) = is := by
    apply List.ext_getElem?
    intro j
    rw [List.getElem?_set]
    by_cases hjn : n = j
    · subst hjn
      rw [if_pos rfl, if_pos (List.getElem?_eq_some_iff.1 hn).1, hn]
    · rw [if_neg hjn]
  refine sh_storeG HS hw hN ho haddr n hn (I' := arrI sz e (some ⟨g, 0, none⟩) m S) hh hg hx (by rw [h0]; exact ht) (by rw [h0]; simp [h1]) (by rw [h0]; simp; omega) (fun w1 hh1 _ _ => ?_) (fun b hb => hb) (fun w1 HS1 => h w1 (by rw [hset] at HS1; exact HS1))
  rw [h0] at hh1
  exact ⟨g, _, rfl, hg, by rw [length_putSeg _ _ _ (by simp; omega)]; exact hl, hh1⟩
end
theorem codeApply (A B : Option Addr) (c d n m : Nat) (lim nxt ix : Int) (l : List Held) (ml : List Last) (x : Rlo.Ent) (w : World) (r : Ap) (hr' : applyC lim nxt l ml ix x = r)
    (hr : Rd Held.enc 5 w A n l) (hrl : Rd Last.enc 6 w B m ml) (hx : x.ok w) (hnx0 : 0 ≤ nxt) (hnx : nxt < 18446744073709551616) (hs : ∀ y ∈ ml, 0 ≤ y.ans.serial ∧ y.ans.serial < 18446744073709551616) :
    Calls Try.prog 59 #[.agg #[.int .i64 lim, .int .u64 nxt, .slice A n c, .slice B m d], .int .u64 ix, .agg #[.int .i64 x.kind, .int .i64 x.node, .int .i64 x.token, .slice x.A x.nodes.length x.c, .int .u64 x.boot, .int .u64 x.seq, .int .u64 x.serial, .int .u64 x.stamp]] w (RowPost w r) := by
  subst hr'
  exact apply_any A B c d n m lim nxt ix l ml x w hr hrl hx hnx0 hnx hs
theorem docApply (A B : Option Addr) (c d n m : Nat) (lim nxt ix : Int) (l : List Held) (ml : List Last) (x : Rlo.Ent) (w : World) (r : Ap) (hr' : applyC lim nxt l ml ix x = r)
    (hr : Rd Held.enc 5 w A n l) (hrl : Rd Last.enc 6 w B m ml) (hx : x.ok w) (hc : n ≤ c) (hnx0 : 0 ≤ nxt) (hnx : nxt < 18446744073709551616) (hs : ∀ y ∈ ml, 0 ≤ y.ans.serial) :
    Calls Try.prog 61 #[.agg #[.int .i64 lim, .int .u64 nxt, .slice A n c, .slice B m d], .int .u64 ix, .agg #[.int .i64 x.kind, .int .i64 x.node, .int .i64 x.token, .slice x.A x.nodes.length x.c, .int .u64 x.boot, .int .u64 x.seq, .int .u64 x.serial, .int .u64 x.stamp]] w (ApPost w r) := by
  rw [← apply_eq] at hr'
  subst hr'
  exact refApply_any A B c d n m lim nxt ix l ml x w hr hrl hx hc hnx0 hnx hs
end Go.Proofs.Ytekjihmepdhmeaa.Led
