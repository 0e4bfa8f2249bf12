import Derived.Test.YtekjihmepdhmeaaRlo6j
import Derived.Test.YtekjihmepdhmeaaOpq
section
/- Lemmas towards the law: what of the text Rlo7 it needs. -/
namespace Go.Proofs.Ytekjihmepdhmeaa.Rlo
open Go.RowKit Go.Proofs.YtekjihmepdhmeaaW.PrintWords Go.Proofs.Ytekjihmepdhmeaa.Sl
set_option linter.unusedVariables false
set_option linter.unusedSimpArgs false
def exE (t : Int) : Ent := ⟨t, 1, 0, 0, none, 0, [], 0, 0, 0, 0⟩
def exD (gn gl : Nat) : Hrd := ⟨0, 3, 0, ⟨5, 2, some ⟨gn, 0, none⟩, 1, [1], 2, 1, none, 0, [], none, 0, []⟩, some ⟨gl, 0, none⟩, 2, [exE 2, exE 3]⟩
theorem ln0 : ln 0 := ⟨by decide, by decide⟩
theorem ln1 : ln 1 := ⟨by decide, by decide⟩
theorem ln2 : ln 2 := ⟨by decide, by decide⟩
theorem ln3 : ln 3 := ⟨by decide, by decide⟩
theorem ln5 : ln 5 := ⟨by decide, by decide⟩
theorem ln6 : ln 6 := ⟨by decide, by decide⟩
theorem exE_ok (w : World) (t : Int) (ht : ln t) : (exE t).ok w := ⟨Rd.nil _ _ _ _, ht, ln0, ln0, ln0, ln0, (by decide : (0 : Int) ≤ 9223372036854775807), (by decide : (0 : Int) ≤ 9223372036854775807)⟩
theorem exD_ok {w : World} {gn gl : Nat} {t t' : TypeId} (h1 : w.heap[gn]? = some (.cells ([.int .i64 1] : List Value).toArray t (0, 0))) (h2 : w.heap[gl]? = some (.cells ([.int .u64 2, .int .i64 1, .int .i64 0, .int .i64 0, .slice none 0 0, .int .u64 0, .int .u64 0, .int .u64 0, .int .u64 0, .int .u64 3, .int .i64 1, .int .i64 0, .int .i64 0, .slice none 0 0, .int .u64 0, .int .u64 0, .int .u64 0, .int .u64 0] : List Value).toArray t' (0, 0))) : (exD gn gl).ok w where
  s := { rn := Rd.lit (ints_len .i64) h1 rfl rfl (by show (1 : Nat) ≤ _; decide), rh := Rd.nil _ _ _ _, rl := Rd.nil _ _ _ _, hc := Nat.le_refl _, si := ln5, st := ln2, nxt := ln1, ser := fun x hx => absurd hx (by simp [exD]) }
  rg := Rd.lit Ent.len h2 rfl rfl (by show (2 : Nat) ≤ _; decide)
  re := fun e he => by
    have : e = exE 2 ∨ e = exE 3 := by simpa [exD] using he
    rcases this with rfl | rfl
    · exact exE_ok w 2 ln2
    · exact exE_ok w 3 ln3
  boot := ln0
  term := ln3
end Go.Proofs.Ytekjihmepdhmeaa.Rlo

end
section
/- Lemmas towards the law: what of the text OpI it needs. -/
namespace Go.Proofs.Ytekjihmepdhmeaa.Sl
open Go.RowKit Go.Proofs.YtekjihmepdhmeaaW.PrintWords
set_option linter.unusedVariables false
theorem ints_open {e : TypeId} {k : IntKind} {w : World} {x : (Sh.slice e (.int k)).D} {cs : List Value} (h : (Sh.slice e (.int k)).kd.K w x cs) :
    ∃ (A : Option Addr) (c : Nat), cs = [.slice A x.length c] ∧ x.length ≤ c ∧ Rd (ints k) 1 w A x.length x := by
  obtain ⟨A, c, rfl, hl, hC⟩ := h
  refine ⟨A, c, rfl, hl, ?_⟩
  have := C_map hC id (sz := 1) (enc := ints k) rfl (fun y cs hy => hy)
  rwa [List.map_id] at this
end Go.Proofs.Ytekjihmepdhmeaa.Sl

end
section
/- Lemmas towards the law: what of the text Rlo8 it needs. -/
namespace Go.Proofs.Ytekjihmepdhmeaa.Rlo
open Go.RowKit Go.Proofs.YtekjihmepdhmeaaW.PrintWords Go.Proofs.Ytekjihmepdhmeaa.Sl
set_option linter.unusedVariables false
set_option linter.unusedSimpArgs false
def heldS : Sh := .st (.cons (.int .i64) (.cons (.int .i64) (.cons (.int .u64) (.cons (.int .u64) (.cons (.int .u64) .nil)))))
def ansS : Sh := .st (.cons (.int .i64) (.cons (.int .i64) (.cons (.int .u64) .nil)))
def lastS : Sh := .st (.cons (.int .i64) (.cons (.int .u64) (.cons (.int .u64) (.cons ansS .nil))))
def ledS : Sh := .st (.cons (.int .i64) (.cons (.int .u64) (.cons (.slice 72 heldS) (.cons (.slice 76 lastS) .nil))))
def intsS : Sh := .slice 3 (.int .i64)
def cmdS : Sh := .st (.cons (.int .i64) (.cons (.int .i64) (.cons (.int .i64) (.cons intsS (.cons (.int .u64) (.cons (.int .u64) (.cons (.int .u64) (.cons (.int .u64) .nil))))))))
def entS : Sh := .st (.cons (.int .u64) (.cons cmdS .nil))
def shotS : Sh := .st (.cons (.int .u64) (.cons (.int .u64) (.cons intsS (.cons ledS .nil))))
def hardS : Sh := .st (.cons (.int .u64) (.cons (.int .u64) (.cons (.int .i64) (.cons shotS (.cons (.slice 52 entS) .nil)))))
def toHeld (x : heldS.D) : Held := ⟨x.1, x.2.1, x.2.2.1, x.2.2.2.1, x.2.2.2.2.1⟩
def toAns (x : ansS.D) : Led.Ans := ⟨x.1, x.2.1, x.2.2.1⟩
def toLast (x : lastS.D) : Last := ⟨x.1, x.2.1, x.2.2.1, toAns x.2.2.2.1⟩
theorem heldS_K {w : World} (x : heldS.D) (cs : List Value) (h : heldS.kd.K w x cs) : cs = (toHeld x).enc := by
  obtain ⟨_, _, rfl, rfl, _, _, rfl, rfl, _, _, rfl, rfl, _, _, rfl, rfl, _, _, rfl, rfl, rfl⟩ := h
  rfl
theorem lastS_K {w : World} (x : lastS.D) (cs : List Value) (h : lastS.kd.K w x cs) : cs = (toLast x).enc := by
  obtain ⟨_, _, rfl, rfl, _, _, rfl, rfl, _, _, rfl, rfl, _, _, rfl, ⟨_, _, rfl, rfl, _, _, rfl, rfl, _, _, rfl, rfl, rfl⟩, rfl⟩ := h
  rfl
theorem C_mapR {α β : Type} {d : Kd α} {w : World} {A : Option Addr} {n : Nat} {xs : List α} (h : d.C w A n xs) (z : β) {enc : β → List Value} {sz : Nat} (hsz : d.sz = sz) {R : β → Prop} (hk : ∀ x ∈ xs, ∀ cs, d.K w x cs → ∃ y, cs = enc y ∧ R y) : ∃ ys : List β, ys.length = n ∧ Rd enc sz w A n ys ∧ ∀ y ∈ ys, R y := by
  subst hsz
  by_cases hn : n = 0
  · subst hn
    exact ⟨[], rfl, Rd.nil _ _ _ _, fun y hy => by cases hy⟩
  · obtain ⟨ad, e, hc⟩ := h.2.2 (by omega)
    have hx : ∀ i, i < n → ∃ y : β, (∃ c : List Value, c.length = d.sz ∧ c = enc y ∧ ∀ j u, c[j]? = some u → w.cell? (ad.add (i * d.sz + j)) = some u) ∧ R y := by
      intro i hi
      have hi' : i < xs.length := by rw [h.1]; exact hi
      obtain ⟨c, hs, hr, hcell⟩ := hc i xs[i] (List.getElem?_eq_getElem hi')
      obtain ⟨y, hy, hR⟩ := hk _ (List.getElem_mem hi') c hr
      exact ⟨y, ⟨c, hs, hy, hcell⟩, hR⟩
    obtain ⟨l, hl, hp⟩ := list_of_lt z hx
    refine ⟨l, hl, ⟨hl, h.2.1, fun _ => ⟨ad, e, fun j p hj => ?_⟩⟩, fun y hy => ?_⟩
    · have hjl := (List.getElem?_eq_some_iff.1 hj).1
      obtain ⟨⟨c, h1, h2, h3⟩, _⟩ := hp j (by omega)
      rw [List.getD_eq_getElem?_getD, hj, Option.getD_some] at h2
      exact ⟨c, h1, h2, h3⟩
    · obtain ⟨j, hj, rfl⟩ := List.getElem_of_mem hy
      have := (hp j (by omega)).2
      rwa [List.getD_eq_getElem?_getD, List.getElem?_eq_getElem hj, Option.getD_some] at this
theorem ln_of {n : Int} (h : (Lit.int .u64 n).wf = true) : ln n := by
  simp only [Lit.wf, IntKind.min, IntKind.max, IntKind.signed, IntKind.bits, Bool.and_eq_true, decide_eq_true_eq, Bool.false_eq_true, if_false] at h
  unfold ln
  omega
theorem i64_hi {n : Int} (h : (Lit.int .i64 n).wf = true) : n ≤ 9223372036854775807 := by
  simp only [Lit.wf, IntKind.min, IntKind.max, IntKind.signed, IntKind.bits, Bool.and_eq_true, decide_eq_true_eq, if_true] at h
  omega
theorem shotS_open {w : World} {x : shotS.D} {cs : List Value} (h : shotS.kd.K w x cs) (hw : shotS.wf x) : ∃ s : Sht, cs = s.enc ∧ s.ok w := by
  obtain ⟨_, _, rfl, rfl, _, _, rfl, rfl, _, _, rfl, hI, _, _, rfl, ⟨_, _, rfl, rfl, _, _, rfl, rfl, _, _, rfl, ⟨A, c, rfl, hl, hC⟩, _, _, rfl, ⟨B, c', rfl, hl', hC'⟩, rfl⟩, rfl⟩ := h
  obtain ⟨A1, c1, rfl, _, hr⟩ := ints_open (e := 3) (k := .i64) hI
  obtain ⟨w1, w2, w3, ⟨w4, w5, w6, w7, _⟩, _⟩ := hw
  have hr1 := C_map hC toHeld (sz := 5) rfl (fun y cs hy => heldS_K y cs hy)
  have hr2 := C_map hC' toLast (sz := 6) rfl (fun y cs hy => lastS_K y cs hy)
  refine ⟨⟨x.1, x.2.1, A1, c1, x.2.2.1, x.2.2.2.1.1, x.2.2.2.1.2.1, A, c, x.2.2.2.1.2.2.1.map toHeld, B, c', x.2.2.2.1.2.2.2.1.map toLast⟩, ?_, ⟨hr, by rw [List.length_map]; exact hr1, by rw [List.length_map]; exact hr2, by rw [List.length_map]; exact hl, ln_of w1, ln_of w2, ln_of w5, ?_⟩⟩
  · simp [Sht.enc, List.length_map]
  · intro y hy
    obtain ⟨z, hz, rfl⟩ := List.mem_map.1 hy
    obtain ⟨_, _, _, ⟨_, _, h4, _⟩, _⟩ := w7.2 z hz
    exact ln_of h4
end Go.Proofs.Ytekjihmepdhmeaa.Rlo

end
