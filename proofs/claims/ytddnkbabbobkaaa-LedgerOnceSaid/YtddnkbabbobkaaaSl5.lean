/- Regions that draw their order and hold calls that make memory: the class of worlds is told by the items; loads, values and operations that are not wanted are taken first, calls one by one. -/
import Derived.Test.YtddnkbabbobkaaaSl3
import Derived.Deep.RegionHeld
namespace Go.Proofs.Ytddnkbabbobkaaa.Sl
open Go.RowKit Go.Proofs.YtddnkbabbobkaaaW.PrintWords
set_option linter.unusedVariables false
set_option linter.unusedSimpArgs false
section
variable {P : Program} {o : Oper} {a : Act} {Q : Exit → Act → World → Prop} {w0 w : World} {is : List HP} {fuel i : Nat} {listed : Array Bool}
theorem held_start {id : Nat} {W : World} {l : List Oper} {a : Act} (hm : P.follows .mixedOrders = true) (HS : SH w0 W is)
    (h : SH w0 W.drew is → wpAnyH P .any l.toArray Q (fun w => SH w0 w is) l.toArray.size (Array.replicate l.toArray.size false) a W.drew) : (Code.region id l.toArray true).wp P Q a W :=
  wp_region_held_drew (S := fun w => SH w0 w is) hm HS.drew h
variable {ops : Array Oper}
theorem h_skip (i : Nat) (hi : ops[i]? = some o) (hs : Region.noSelect ops = true) (hf : Region.free .any ops listed i = true) (hr : (Region.ready .any ops listed).contains i = true)
    (hQ : ∀ c a w, Q (.panic c) (a.put o.dst undef) w → Q (.panic c) a w) (hS : SH w0 w is) (hw : Region.wanted o (yielded ops a.tmps) = false)
    (h : wpAnyH P .any ops Q (fun w => SH w0 w is) fuel (listed.setIfInBounds i true) (a.put o.dst undef) w) : wpAnyH P .any ops Q (fun w => SH w0 w is) (fuel + 1) listed a w :=
  wpAnyH_take hi hs hf hr hQ (.inr ⟨hw, rfl⟩) hS h
theorem h_val (i : Nat) {v : Value} (hi : ops[i]? = some o) (hs : Region.noSelect ops = true) (hf : Region.free .any ops listed i = true) (hr : (Region.ready .any ops listed).contains i = true)
    (hQ : ∀ c a w, Q (.panic c) (a.put o.dst v) w → Q (.panic c) a w) (hS : SH w0 w is) (hw : Region.wanted o (yielded ops a.tmps) = true) (hrun : ∀ w, SH w0 w is → (execOp a.eval o).run P w = .ok (.value v) w)
    (h : wpAnyH P .any ops Q (fun w => SH w0 w is) fuel (listed.setIfInBounds i true) (a.put o.dst v) w) : wpAnyH P .any ops Q (fun w => SH w0 w is) (fuel + 1) listed a w :=
  wpAnyH_take hi hs hf hr hQ (.inl ⟨hw, hrun⟩) hS h
theorem h_load (i : Nat) (hi : ops[i]? = some o) (hs : Region.noSelect ops = true) (hf : Region.free .any ops listed i = true) (hr : (Region.ready .any ops listed).contains i = true)
    {v : Value} (hQ : ∀ c a w, Q (.panic c) (a.put o.dst v) w → Q (.panic c) a w) (hS : SH w0 w is) (hw : Region.wanted o (yielded ops a.tmps) = true) {t : TypeId} {p : Operand} (ho : o.op = .load t p)
    {g j : Nat} (haddr : a.eval p = .pointer (some ⟨g, j, none⟩)) (n : Nat) {cs : List Value} {e : TypeId} (hn : is[n]? = some (blk g cs e)) (hd : (P.underlying t).map aggD = some false) (hv : cs[j]? = some v)
    (h : wpAnyH P .any ops Q (fun w => SH w0 w is) fuel (listed.setIfInBounds i true) (a.put o.dst v) w) : wpAnyH P .any ops Q (fun w => SH w0 w is) (fuel + 1) listed a w := by
  obtain ⟨d, hd, hd1⟩ := Option.map_eq_some_iff.1 hd
  refine h_val i hi hs hf hr hQ hS hw (fun w hs => ?_) h
  have hc := (hs.cells n hn).1 j
  rw [hv] at hc
  unfold execOp
  simp only [ho, haddr]
  cases d <;> first | (simp [aggD] at hd1; done) | simp [Instr.loadAt, Instr.sureAddr, loadVar, isAgg, underlying, go_sem, hd, hc]
theorem h_loads (i : Nat) (hi : ops[i]? = some o) (hs : Region.noSelect ops = true) (hf : Region.free .any ops listed i = true) (hr : (Region.ready .any ops listed).contains i = true)
    {v : Value} (hQ : ∀ c a w, Q (.panic c) (a.put o.dst v) w → Q (.panic c) a w) (hS : SH w0 w is) (hw : Region.wanted o (yielded ops a.tmps) = true) {t : TypeId} {p : Operand} (ho : o.op = .load t p)
    {g j : Nat} (haddr : a.eval p = .pointer (some ⟨g, j, none⟩)) (n : Nat) {cs : List Value} {e : TypeId} (hn : is[n]? = some (blk g cs e)) (hd : (P.underlying t).map aggD = some true) {k : Nat} (hk : (P.info? t).map (·.size) = some k) (hfit : j + k ≤ cs.length) (hv : v = .agg ((cs.drop j).take k).toArray)
    (h : wpAnyH P .any ops Q (fun w => SH w0 w is) fuel (listed.setIfInBounds i true) (a.put o.dst v) w) : wpAnyH P .any ops Q (fun w => SH w0 w is) (fuel + 1) listed a w := by
  subst hv
  obtain ⟨d, hd, hd1⟩ := Option.map_eq_some_iff.1 hd
  obtain ⟨inf, hinf, hsz⟩ := Option.map_eq_some_iff.1 hk
  refine h_val i hi hs hf hr hQ hS hw (fun w hs => ?_) h
  have hc := (hs.cells n hn).1
  have hl : ((cs.drop j).take k).length = k := by simp; omega
  have hr := run_loadCells_at (P := P) (w := w) g j ((cs.drop j).take k) (fun m v hj => by
    rw [hc]
    rw [List.getElem?_take] at hj
    split at hj
    · rw [List.getElem?_drop] at hj; exact hj
    · cases hj)
  rw [hl] at hr
  unfold loadCells at hr
  unfold execOp
  simp only [ho, haddr]
  cases d <;> first | (simp [aggD] at hd1; done) | simp [Instr.loadAt, Instr.sureAddr, loadVar, isAgg, sizeOf, typeInfo, underlying, go_sem, hd, hinf, hsz, hr]
theorem h_call (i : Nat) (hi : ops[i]? = some o) (hr : Region.ready .any ops listed = [i]) (hw : Region.wanted o (yielded ops a.tmps) = true)
    {f : FuncId} {xs : Array Operand} {ts : Array TypeId} (ho : o.op = .call { callee := .value (.func f), args := xs, argTypes := ts }) {vs : Array Value} (hvs : xs.map a.eval = vs) (hf : callable P f = true)
    {R : Ending → World → Prop} (hc : Calls P f vs w R)
    (h : ∀ e w', R e w' → ∃ v, e = .returned v ∧ SH w0 w' is ∧ wpAnyH P .any ops Q (fun w => SH w0 w is) fuel (listed.setIfInBounds i true) (a.put o.dst v) w') : wpAnyH P .any ops Q (fun w => SH w0 w is) (fuel + 1) listed a w := by
  refine wpAnyH_ready hr (by simp) (AllReadyH.cons hi (fun K hK => ?_) AllReadyH.nil)
  rw [if_pos hw]
  have he : (execOp a.eval o).run P w = .ok (.enter f vs) w := by
    subst hvs
    unfold execOp
    simp [ho, Act.eval, go_sem, run_callable hf]
  unfold Oper.wp
  rw [he]
  refine hc.mono fun e w' hR => ?_
  obtain ⟨v, rfl, hS, hrest⟩ := h e w' hR
  exact hK.out _ _ hS (fun _ => hrest)
/-- One event of a chain: by the laws of a plain walk. -/
def onlyN (K : Act → World → Prop) : Exit → Act → World → Prop
  | .normal, a, w => K a w
  | _, _, _ => False
theorem upon_only {K : Act → World → Prop} : ∀ r, o.upon P a K (onlyN K) r → o.upon P a K Q r
  | .ok (.value _) _, h => h
  | .ok .skip _, h => h
  | .ok (.defer _) _, h => h
  | .ok (.enter f args) w', h => by
    rw [Oper.upon_enter] at h ⊢
    refine Calls.mono h fun e w'' he => ?_
    cases e with
    | returned v => exact he
    | panicked c => exact he.elim
    | outgrown => obtain ⟨_, _, h⟩ := he; exact h.elim
  | .ok (.row _ _) _, h => h
  | .halt (.panic _) _, h => h.elim
theorem h_one (i : Nat) (hi : ops[i]? = some o) (hr : Region.ready .any ops listed = [i])
    (h : wpList P ops (onlyN fun a' w' => SH w0 w' is ∧ wpAnyH P .any ops Q (fun w => SH w0 w is) fuel (listed.setIfInBounds i true) a' w') [o] a w) : wpAnyH P .any ops Q (fun w => SH w0 w is) (fuel + 1) listed a w := by
  refine wpAnyH_all hr (by simp) (fun j hj => ?_)
  obtain rfl : j = i := by simpa using hj
  unfold wpOp
  rw [hi]
  unfold wpList at h
  split at h
  · rename_i hw
    show if _ then _ else _
    rw [if_pos hw]
    rcases h with h | ⟨_, _, _, h⟩
    · exact .inl (upon_only _ h)
    · exact h.elim
  · rename_i hw
    show if _ then _ else _
    rw [if_neg hw]
    exact h
theorem only_nil {i : Nat} (hS : SH w0 w is) (h : wpAnyH P .any ops Q (fun w => SH w0 w is) fuel (listed.setIfInBounds i true) a w) : wpList P ops (onlyN fun a' w' => SH w0 w' is ∧ wpAnyH P .any ops Q (fun w => SH w0 w is) fuel (listed.setIfInBounds i true) a' w') [] a w := ⟨hS, h⟩
end
end Go.Proofs.Ytddnkbabbobkaaa.Sl
