/- Lemmas towards the law: what of the text Jur1 it needs. -/
import Derived.Test.YtkggchahhpmpbaaMapRq
import Derived.Test.YtkggchahhpmpbaaTyq
import Derived.Sort.Grow
import Derived.Deep.Draws
namespace Go.Proofs.Ytkggchahhpmpbaa.Jue
open Go.RowKit Go.Proofs.YtkggchahhpmpbaaW.PrintWords Go.Proofs.Ytkggchahhpmpbaa.Sl Go.Sort
set_option linter.unusedVariables false
set_option linter.unusedSimpArgs false
def cmpI (x y : Int) : Int := if x < y then -1 else if y < x then 1 else 0
def cmpC (x y : Int × Int) : Int := if cmpI x.1 y.1 = 0 then cmpI x.2 y.2 else cmpI x.1 y.1
theorem isNaN_int (x : Int) (w : World) : Calls Try.prog 47 #[.int .i64 x] w (fun e w' => e = .returned (.bool false) ∧ w' = w) := by
  have h : (x != x) = false := bne_self_eq_false x
  go_enter Try.func47, Try.ntmps47
  go_wp2
  go_ret
  exact ⟨rfl, rfl⟩
theorem compare_int (x y : Int) (w : World) : Calls Try.prog 39 #[.int .i64 x, .int .i64 y] w (fun e w' => e = .returned (.int .i64 (cmpI x y)) ∧ w' = w) := by
  by_cases h1 : x < y
  · have e1 : decide (x < y) = true := decide_eq_true h1
    have HE := Aside0.mk (show cmpI x y = -1 by unfold cmpI; rw [if_pos h1])
    clear h1
    go_enter Try.func39, Try.ntmps39
    go_wp2_with (go_at_call 47; (with_reducible refine (isNaN_int _ _).mono ?_); rintro e w2 ⟨rfl, rfl⟩)
    go_ret
    exact ⟨by rw [HE.out]; rfl, rfl⟩
  · have e1 : decide (x < y) = false := decide_eq_false h1
    by_cases h2 : y < x
    · have e2 : decide (y < x) = true := decide_eq_true h2
      have HE := Aside0.mk (show cmpI x y = 1 by unfold cmpI; rw [if_neg h1, if_pos h2])
      clear h1 h2
      go_enter Try.func39, Try.ntmps39
      go_wp2_with (go_at_call 47; (with_reducible refine (isNaN_int _ _).mono ?_); rintro e w2 ⟨rfl, rfl⟩)
      go_ret
      exact ⟨by rw [HE.out]; rfl, rfl⟩
    · have e2 : decide (y < x) = false := decide_eq_false h2
      have HE := Aside0.mk (show cmpI x y = 0 by unfold cmpI; rw [if_neg h1, if_neg h2])
      clear h1 h2
      go_enter Try.func39, Try.ntmps39
      go_wp2_with (go_at_call 47; (with_reducible refine (isNaN_int _ _).mono ?_); rintro e w2 ⟨rfl, rfl⟩)
      go_ret
      exact ⟨by rw [HE.out]; rfl, rfl⟩
set_option maxHeartbeats 1600000 in
theorem or_int (g c : Nat) (a b : Int) (w : World) (h0 : w.cell? ⟨g, 0, none⟩ = some (.int .i64 a)) (h1 : w.cell? ⟨g, 1, none⟩ = some (.int .i64 b)) :
    Calls Try.prog 38 #[.slice (some ⟨g, 0, none⟩) 2 c] w (fun e w' => e = .returned (.int .i64 (if a = 0 then b else a)) ∧ w' = w) := by
  obtain ⟨r, hr⟩ : ∃ r, (if a = 0 then b else a) = r := ⟨_, rfl⟩
  rw [hr]
  have HR := Aside0.mk hr
  clear hr
  go_enter Try.func38, Try.ntmps38
  go_wp2
  go_loopw [5, 8] (fun _ v8 wr => wr = w ∧ ∃ k : Nat, k ≤ 2 ∧ v8 = .int .i64 k ∧ Aside0 (1 ≤ k → a = 0) ∧ Aside0 (2 ≤ k → b = 0)) (fun _ v8 _ => 2 - (intOf v8).toNat)
  case atStart => exact ⟨rfl, 0, by omega, rfl, ⟨fun h => by omega⟩, ⟨fun h => by omega⟩⟩
  case round =>
    obtain ⟨rfl, k, hk, rfl, HA, HB⟩ := hrel
    rcases (show k = 0 ∨ k = 1 ∨ k = 2 by omega) with rfl | rfl | rfl
    · by_cases ha : a = 0
      · have e1 : (a != 0) = false := by rw [ha]; rfl
        have HA0 := Aside0.mk ha
        clear ha
        go_wp2
        go_roundw
        case rel => exact ⟨by trivial, 1, by omega, by go_num, ⟨fun _ => HA0.out⟩, ⟨fun h => by omega⟩⟩
        case measure => simp [intOf]
      · have e1 : (a != 0) = true := by rw [bne_iff_ne]; exact ha
        have HA0 := Aside0.mk ha
        clear ha
        go_wp2
        go_ret
        have h := HR.out
        rw [if_neg HA0.out] at h
        subst h
        exact ⟨rfl, rfl⟩
    · have HA0 := Aside0.mk (HA.out (by omega))
      by_cases hb : b = 0
      · have e1 : (b != 0) = false := by rw [hb]; rfl
        have HB0 := Aside0.mk hb
        clear hb
        go_wp2
        go_roundw
        case rel => exact ⟨by trivial, 2, by omega, by go_num, ⟨fun _ => HA0.out⟩, ⟨fun _ => HB0.out⟩⟩
        case measure => simp [intOf]
      · have e1 : (b != 0) = true := by rw [bne_iff_ne]; exact hb
        clear hb
        go_wp2
        go_ret
        have h := HR.out
        rw [if_pos HA0.out] at h
        subst h
        exact ⟨rfl, rfl⟩
    · have HA0 := Aside0.mk (HA.out (by omega))
      have HB0 := Aside0.mk (HB.out (by omega))
      go_wp2
      go_ret
      have h := HR.out
      rw [if_pos HA0.out, HB0.out] at h
      subst h
      exact ⟨rfl, rfl⟩
section
variable {P : Program} {o : Oper} {a : Act} {Q : Exit → Act → World → Prop} {w : World} {fuel i : Nat} {listed : Array Bool} {ops : Array Oper} {S : World → Prop}
theorem s_val (i : Nat) {v : Value} (hi : ops[i]? = some o) (hs : Region.noSelect ops = true) (hf : Region.free .any ops listed i = true) (hr : (Region.ready .any ops listed).contains i = true)
    (hQ : ∀ c a w, Q (.panic c) (a.put o.dst v) w → Q (.panic c) a w) (hS : S w) (hw : Region.wanted o (yielded ops a.tmps) = true) (hrun : ∀ w, S w → (execOp a.eval o).run P w = .ok (.value v) w)
    (h : wpAnyH P .any ops Q S fuel (listed.setIfInBounds i true) (a.put o.dst v) w) : wpAnyH P .any ops Q S (fuel + 1) listed a w :=
  wpAnyH_take hi hs hf hr hQ (.inl ⟨hw, hrun⟩) hS h
theorem s_load (i : Nat) (hi : ops[i]? = some o) (hs : Region.noSelect ops = true) (hf : Region.free .any ops listed i = true) (hr : (Region.ready .any ops listed).contains i = true)
    {v : Value} (hQ : ∀ c a w, Q (.panic c) (a.put o.dst v) w → Q (.panic c) a w) (hS : S w) (hw : Region.wanted o (yielded ops a.tmps) = true) {t : TypeId} {p : Operand} (ho : o.op = .load t p)
    {g j : Nat} (haddr : a.eval p = .pointer (some ⟨g, j, none⟩)) (hd : (P.underlying t).map aggD = some false) (hv : ∀ w, S w → w.cell? ⟨g, j, none⟩ = some v)
    (h : wpAnyH P .any ops Q S fuel (listed.setIfInBounds i true) (a.put o.dst v) w) : wpAnyH P .any ops Q S (fuel + 1) listed a w := by
  obtain ⟨d, hd, hd1⟩ := Option.map_eq_some_iff.1 hd
  refine s_val i hi hs hf hr hQ hS hw (fun w hs => ?_) h
  have hc := hv w hs
  unfold execOp
  simp only [ho, haddr]
  cases d <;> first | (simp [aggD] at hd1; done) | simp [Instr.loadAt, Instr.sureAddr, loadVar, isAgg, underlying, go_sem, hd, hc]
theorem s_call (i : Nat) (hi : ops[i]? = some o) (hr : Region.ready .any ops listed = [i]) (hw : Region.wanted o (yielded ops a.tmps) = true)
    {f : FuncId} {xs : Array Operand} {ts : Array TypeId} (ho : o.op = .call { callee := .value (.func f), args := xs, argTypes := ts }) {vs : Array Value} (hvs : xs.map a.eval = vs) (hf : callable P f = true)
    {R : Ending → World → Prop} (hc : Calls P f vs w R)
    (h : ∀ e w', R e w' → ∃ v, e = .returned v ∧ S w' ∧ wpAnyH P .any ops Q S fuel (listed.setIfInBounds i true) (a.put o.dst v) w') : wpAnyH P .any ops Q S (fuel + 1) listed a w := by
  refine wpAnyH_ready hr (by simp) (AllReadyH.cons hi (fun K hK => ?_) AllReadyH.nil)
  rw [if_pos hw]
  have he : (execOp a.eval o).run P w = .ok (.enter f vs) w := by
    subst hvs
    unfold execOp
    simp [ho, Act.eval, go_sem, run_callable hf]
  unfold Oper.wp
  rw [he]
  refine hc.mono fun e w' hR => ?_
  obtain ⟨v, rfl, hS, hrest⟩ := h e w' hR
  exact hK.out _ _ hS (fun _ => hrest)
theorem s_run (i : Nat) (hi : ops[i]? = some o) (hr : Region.ready .any ops listed = [i]) (hw : Region.wanted o (yielded ops a.tmps) = true) {v : Value} {w1 : World} (hrun : (execOp a.eval o).run P w = .ok (.value v) w1) (hS : S w1)
    (h : wpAnyH P .any ops Q S fuel (listed.setIfInBounds i true) (a.put o.dst v) w1) : wpAnyH P .any ops Q S (fuel + 1) listed a w := by
  refine wpAnyH_ready hr (by simp) (AllReadyH.cons hi (fun K hK => ?_) AllReadyH.nil)
  rw [if_pos hw]
  unfold Oper.wp
  rw [hrun]
  exact hK.out _ _ hS (fun _ => h)
end
/-- worlds behind w by draws and new blocks; two boxes stand -/
structure Gw (W : World) (ga gb : Nat) (x y : Int × Int) (w : World) : Prop where
  g : ∃ q os, w = grow (W.drewN q) os
  a0 : w.cell? ⟨ga, 0, none⟩ = some (.int .i64 x.1)
  a1 : w.cell? ⟨ga, 1, none⟩ = some (.int .i64 x.2)
  b0 : w.cell? ⟨gb, 0, none⟩ = some (.int .i64 y.1)
  b1 : w.cell? ⟨gb, 1, none⟩ = some (.int .i64 y.2)
  la : ga < w.heap.size
  lb : gb < w.heap.size
theorem Gw.drew {W : World} {ga gb : Nat} {x y : Int × Int} {w : World} (h : Gw W ga gb x y w) : Gw W ga gb x y w.drew := by
  obtain ⟨q, os, hq⟩ := h.g
  exact ⟨⟨q + 1, os, by rw [hq]; rfl⟩, h.a0, h.a1, h.b0, h.b1, h.la, h.lb⟩
theorem cell_alloc_old {w : World} {g j : Nat} {v : Value} (h : w.cell? ⟨g, j, none⟩ = some v) (hg : g < w.heap.size) (o : Obj) : (w.alloc o).cell? ⟨g, j, none⟩ = some v := by
  have hb := (MapKept.heap_alloc w o).2 g hg
  unfold World.cell? at h ⊢
  simp only at h ⊢
  rw [hb]; exact h
theorem Gw.alloc {W : World} {ga gb : Nat} {x y : Int × Int} {w : World} (h : Gw W ga gb x y w) (o : Obj) : Gw W ga gb x y (w.alloc o) := by
  obtain ⟨q, os, hq⟩ := h.g
  refine ⟨⟨q, os ++ #[o], by rw [hq, alloc_eq_grow, grow_grow]⟩, cell_alloc_old h.a0 h.la o, cell_alloc_old h.a1 h.la o, cell_alloc_old h.b0 h.lb o, cell_alloc_old h.b1 h.lb o, by have := h.la; simp; omega, by have := h.lb; simp; omega⟩
end Go.Proofs.Ytkggchahhpmpbaa.Jue
