/- Lemmas towards the law: what of the text SlX it needs. -/
import Derived.Test.YtkggchahhpmpbaaSlq
import Derived.Deep.QuietTactic
import Derived.BigQuiet
import Derived.WalkKit
import Derived.Test.YtkggchahhpmpbaaTyq
import Derived.BigGuard
import Derived.Lib.SliceRun
import Derived.Deep.RegionHeld
import Derived.Lib.AppendZerosOnto
import Derived.Laws.IdiomCopy
import Derived.Lib.Overlaps
namespace Go.Proofs.Ytkggchahhpmpbaa.Sl
open Go.RowKit Go.Proofs.YtkggchahhpmpbaaW.PrintWords
set_option linter.unusedVariables false
set_option linter.unusedSimpArgs false
theorem SH.drew {w0 w : World} {is : List HP} (h : SH w0 w is) : SH w0 w.drew is := h.quiet (below_drew (Below.refl _ _))
section
variable {P : Program} {ops : Array Oper} {rest : List Oper} {o : Oper} {a : Act} {Q : Exit → Act → World → Prop} {Qa : Act → Prop} {w0 : World} {is : List HP}
/-- A region that draws its order, whose operations hand back one value each in every world in which the items hold, and leave such a world. -/
theorem wp_region_sh {id : Nat} {W : World} {l : List Oper} (hm : P.follows .mixedOrders = true) (hB : Region.lexB .any l.toArray = true) (HS : SH w0 W is)
    (h : wpQuiet P l.toArray (fun w => SH w0 w is) (fun a' => ∀ w', SH w0 w' is → Q .normal a' w') l a) : (Code.region id l.toArray true).wp P Q a W :=
  wp_region_quiet (C := fun w => SH w0 w is) hm hB HS.drew (by simpa using h)
/-- the same in a region that draws -/
structure WQ (P : Program) (ops : Array Oper) (C : World → Prop) (Qa : Act → Prop) (l : List Oper) (a : Act) : Prop where
  out : wpQuiet P ops C Qa l a
theorem q_val (hw : Region.wanted o (yielded ops a.tmps) = true) {v : Value} (hrun : ∀ w, SH w0 w is → (execOp a.eval o).run P w = .ok (.value v) w) (h : wpQuiet P ops (fun w => SH w0 w is) Qa rest (a.put o.dst v)) :
    WQ P ops (fun w => SH w0 w is) Qa (o :: rest) a := by
  refine ⟨?_⟩
  refine wpQuiet_step fun K hK => ?_
  rw [if_pos hw]
  refine ⟨v, fun w hc => ?_, hK _ h⟩
  unfold Oper.quietAt
  rw [hrun w hc]
  exact ⟨rfl, rfl⟩
theorem qAny {C : World → Prop} {Qa : Act → Prop} (h : WQ P ops C Qa (o :: rest) a) : wpQuiet P ops C Qa (o :: rest) a := h.out
theorem qMv {C : World → Prop} {x : Operand} (_ho : o.op = .move x) (h : wpQuiet P ops C Qa (o :: rest) a) : wpQuiet P ops C Qa (o :: rest) a := h
theorem qAs {C : World → Prop} {x : Operand} (_ho : o.op = .assign x) (h : wpQuiet P ops C Qa (o :: rest) a) : wpQuiet P ops C Qa (o :: rest) a := h
theorem qLd {C : World → Prop} {ty : TypeId} {x : Operand} (_ho : o.op = .load ty x) (h : WQ P ops C Qa (o :: rest) a) : wpQuiet P ops C Qa (o :: rest) a := h.out
theorem q_load (hw : Region.wanted o (yielded ops a.tmps) = true) {t : TypeId} {p : Operand} (ho : o.op = .load t p)
    {g i : Nat} (haddr : a.eval p = .pointer (some ⟨g, i, none⟩)) (n : Nat) {cs : List Value} {e : TypeId} (hn : is[n]? = some (blk g cs e)) (hd : (P.underlying t).map aggD = some false) {v : Value} (hv : cs[i]? = some v)
    (h : wpQuiet P ops (fun w => SH w0 w is) Qa rest (a.put o.dst v)) : WQ P ops (fun w => SH w0 w is) Qa (o :: rest) a := by
  obtain ⟨d, hd, hd1⟩ := Option.map_eq_some_iff.1 hd
  refine q_val hw (fun w hs => ?_) h
  have hc := (hs.cells n hn).1 i
  rw [hv] at hc
  unfold execOp
  simp only [ho, haddr]
  cases d <;> first | (simp [aggD] at hd1; done) | simp [Instr.loadAt, Instr.sureAddr, loadVar, isAgg, underlying, go_sem, hd, hc]
/-- A one-cell element of what is read in every world of the class. -/
theorem q_rd1 {α : Type} {enc : α → Value} {ad : Addr} {n : Nat} {xs : List α} (HR : ∀ w, SH w0 w is → Rd (fun x => [enc x]) 1 w (some ad) n xs) (hw : Region.wanted o (yielded ops a.tmps) = true) {t : TypeId} {p : Operand} (ho : o.op = .load t p)
    {i : Nat} (haddr : a.eval p = .pointer (some (ad.add i))) (hi : i < n) (z : α) (hd : (P.underlying t).map aggD = some false)
    (h : ∀ x, xs.getD i z = x → wpQuiet P ops (fun w => SH w0 w is) Qa rest (a.put o.dst (enc x))) : WQ P ops (fun w => SH w0 w is) Qa (o :: rest) a :=
  q_val hw (fun w hs => run_rd1 (HR w hs) ho haddr hi z hd) (h _ rfl)
end
/-- What came in is read, in every world of the class. -/
theorem Rd.rds {α : Type} {enc : α → List Value} {sz : Nat} {w0 : World} {A : Option Addr} {n : Nat} {xs : List α} (h : Rd enc sz w0 A n xs) (is : List HP) : ∀ w, SH w0 w is → Rd enc sz w A n xs := fun _ hs => h.sh hs
/-- What a row holds is read, in every world of the class. -/
theorem row_rds {α : Type} {enc : α → List Value} {sz : Nat} {hl : ∀ x, (enc x).length = sz} {h1 : ∀ x, (enc x).all (·.oneCell') = true} {w0 : World} {is : List HP} (n : Nat) {e : TypeId} {A : Option Addr} {m c : Nat} {xs : List α} {S : Nat → Prop}
    (hn : is[n]? = some (row (flk enc sz hl h1) e (.slice A m c) xs S)) : ∀ w, SH w0 w is → Rd enc sz w A m xs := by
  intro w hs
  obtain ⟨A', c', he, _, hr⟩ := row_rd hs n hn
  injection he with ha hm hc
  subst ha hm hc
  exact hr
end Go.Proofs.Ytkggchahhpmpbaa.Sl
namespace Go.Proofs.Ytkggchahhpmpbaa.Sl
open Go.RowKit Go.Proofs.YtkggchahhpmpbaaW.PrintWords
set_option linter.unusedVariables false
set_option linter.unusedSimpArgs false
section
variable {P : Program} {ops : Array Oper} {rest : List Oper} {o : Oper} {a : Act} {Q : Exit → Act → World → Prop}
/-- what the slot of operation j holds -/
def slotOf (ops : Array Oper) (a : Act) (j : Nat) : Value :=
  match ops[j]? with
  | some o => match o.dst with
    | some d => a.tmps.getD d undef
    | none => undef
  | none => undef
theorem gGd {W : World} {j : Nat} {want : Bool} (_hg : o.guard = some (j, want)) (h : WP P ops Q (o :: rest) a W) : wpList P ops Q (o :: rest) a W := h.out
/-- An operation whose guard is a Bool not yet known: both ways. -/
theorem gsplit {W : World} {j : Nat} {want b : Bool} (_hg : o.guard = some (j, want)) (_hv : slotOf ops a j = .bool b)
    (ht : b = true → WP P ops Q (o :: rest) a W) (hf : b = false → WP P ops Q (o :: rest) a W) : WP P ops Q (o :: rest) a W := by
  cases b
  · exact hf rfl
  · exact ht rfl
end
end Go.Proofs.Ytkggchahhpmpbaa.Sl
namespace Go.Proofs.Ytkggchahhpmpbaa.Sl
open Go.RowKit Go.Proofs.YtkggchahhpmpbaaW.PrintWords
set_option linter.unusedVariables false
set_option linter.unusedSimpArgs false
section
variable {P : Program} {o : Oper} {a : Act} {Q : Exit → Act → World → Prop} {w0 w : World} {is : List HP} {fuel i : Nat} {listed : Array Bool}
theorem held_start {id : Nat} {W : World} {l : List Oper} {a : Act} (hm : P.follows .mixedOrders = true) (HS : SH w0 W is)
    (h : SH w0 W.drew is → wpAnyH P .any l.toArray Q (fun w => SH w0 w is) l.toArray.size (Array.replicate l.toArray.size false) a W.drew) : (Code.region id l.toArray true).wp P Q a W :=
  wp_region_held_drew (S := fun w => SH w0 w is) hm HS.drew h
variable {ops : Array Oper}
theorem h_skip (i : Nat) (hi : ops[i]? = some o) (hs : Region.noSelect ops = true) (hf : Region.free .any ops listed i = true) (hr : (Region.ready .any ops listed).contains i = true)
    (hQ : ∀ c a w, Q (.panic c) (a.put o.dst undef) w → Q (.panic c) a w) (hS : SH w0 w is) (hw : Region.wanted o (yielded ops a.tmps) = false)
    (h : wpAnyH P .any ops Q (fun w => SH w0 w is) fuel (listed.setIfInBounds i true) (a.put o.dst undef) w) : wpAnyH P .any ops Q (fun w => SH w0 w is) (fuel + 1) listed a w :=
  wpAnyH_take hi hs hf hr hQ (.inr ⟨hw, rfl⟩) hS h
theorem h_val (i : Nat) {v : Value} (hi : ops[i]? = some o) (hs : Region.noSelect ops = true) (hf : Region.free .any ops listed i = true) (hr : (Region.ready .any ops listed).contains i = true)
    (hQ : ∀ c a w, Q (.panic c) (a.put o.dst v) w → Q (.panic c) a w) (hS : SH w0 w is) (hw : Region.wanted o (yielded ops a.tmps) = true) (hrun : ∀ w, SH w0 w is → (execOp a.eval o).run P w = .ok (.value v) w)
    (h : wpAnyH P .any ops Q (fun w => SH w0 w is) fuel (listed.setIfInBounds i true) (a.put o.dst v) w) : wpAnyH P .any ops Q (fun w => SH w0 w is) (fuel + 1) listed a w :=
  wpAnyH_take hi hs hf hr hQ (.inl ⟨hw, hrun⟩) hS h
theorem h_load (i : Nat) (hi : ops[i]? = some o) (hs : Region.noSelect ops = true) (hf : Region.free .any ops listed i = true) (hr : (Region.ready .any ops listed).contains i = true)
    {v : Value} (hQ : ∀ c a w, Q (.panic c) (a.put o.dst v) w → Q (.panic c) a w) (hS : SH w0 w is) (hw : Region.wanted o (yielded ops a.tmps) = true) {t : TypeId} {p : Operand} (ho : o.op = .load t p)
    {g j : Nat} (haddr : a.eval p = .pointer (some ⟨g, j, none⟩)) (n : Nat) {cs : List Value} {e : TypeId} (hn : is[n]? = some (blk g cs e)) (hd : (P.underlying t).map aggD = some false) (hv : cs[j]? = some v)
    (h : wpAnyH P .any ops Q (fun w => SH w0 w is) fuel (listed.setIfInBounds i true) (a.put o.dst v) w) : wpAnyH P .any ops Q (fun w => SH w0 w is) (fuel + 1) listed a w := by
  obtain ⟨d, hd, hd1⟩ := Option.map_eq_some_iff.1 hd
  refine h_val i hi hs hf hr hQ hS hw (fun w hs => ?_) h
  have hc := (hs.cells n hn).1 j
  rw [hv] at hc
  unfold execOp
  simp only [ho, haddr]
  cases d <;> first | (simp [aggD] at hd1; done) | simp [Instr.loadAt, Instr.sureAddr, loadVar, isAgg, underlying, go_sem, hd, hc]
theorem h_call (i : Nat) (hi : ops[i]? = some o) (hr : Region.ready .any ops listed = [i]) (hw : Region.wanted o (yielded ops a.tmps) = true)
    {f : FuncId} {xs : Array Operand} {ts : Array TypeId} (ho : o.op = .call { callee := .value (.func f), args := xs, argTypes := ts }) {vs : Array Value} (hvs : xs.map a.eval = vs) (hf : callable P f = true)
    {R : Ending → World → Prop} (hc : Calls P f vs w R)
    (h : ∀ e w', R e w' → ∃ v, e = .returned v ∧ SH w0 w' is ∧ wpAnyH P .any ops Q (fun w => SH w0 w is) fuel (listed.setIfInBounds i true) (a.put o.dst v) w') : wpAnyH P .any ops Q (fun w => SH w0 w is) (fuel + 1) listed a w := by
  refine wpAnyH_ready hr (by simp) (AllReadyH.cons hi (fun K hK => ?_) AllReadyH.nil)
  rw [if_pos hw]
  have he : (execOp a.eval o).run P w = .ok (.enter f vs) w := by
    subst hvs
    unfold execOp
    simp [ho, Act.eval, go_sem, run_callable hf]
  unfold Oper.wp
  rw [he]
  refine hc.mono fun e w' hR => ?_
  obtain ⟨v, rfl, hS, hrest⟩ := h e w' hR
  exact hK.out _ _ hS (fun _ => hrest)
/-- One event of a chain: by the laws of a plain walk. -/
def onlyN (K : Act → World → Prop) : Exit → Act → World → Prop
  | .normal, a, w => K a w
  | _, _, _ => False
theorem upon_only {K : Act → World → Prop} : ∀ r, o.upon P a K (onlyN K) r → o.upon P a K Q r
  | .ok (.value _) _, h => h
  | .ok .skip _, h => h
  | .ok (.defer _) _, h => h
  | .ok (.enter f args) w', h => by
    rw [Oper.upon_enter] at h ⊢
    refine Calls.mono h fun e w'' he => ?_
    cases e with
    | returned v => exact he
    | panicked c => exact he.elim
    | outgrown => obtain ⟨_, _, h⟩ := he; exact h.elim
  | .ok (.row _ _) _, h => h
  | .halt (.panic _) _, h => h.elim
end
end Go.Proofs.Ytkggchahhpmpbaa.Sl
namespace Go.Proofs.Ytkggchahhpmpbaa.Sl
open Go.RowKit Go.Proofs.YtkggchahhpmpbaaW.PrintWords
set_option linter.unusedVariables false
set_option linter.unusedSimpArgs false
def allI (is : List HP) : HP where
  fp := fun b => ∃ i, i ∈ is ∧ i.fp b
  ok := fun w => (∀ i, i ∈ is → i.ok w) ∧ ∀ (n m : Nat) (i j : HP), n ≠ m → is[n]? = some i → is[m]? = some j → ∀ b, i.fp b → ¬ j.fp b
  loc := fun h k => ⟨fun i hi => i.loc (fun b hb => h b ⟨i, hi, hb⟩) (k.1 i hi), k.2⟩
theorem SH.pack {w0 w : World} {is : List HP} (js : List HP) (h : SH w0 w (is ++ js)) : SH w0 w (is ++ [allI js]) := by
  have hj : ∀ m j, js[m]? = some j → (is ++ js)[is.length + m]? = some j := fun m j hm => by
    rw [List.getElem?_append_right (by omega), Nat.add_sub_cancel_left]; exact hm
  have hi : ∀ m j, m < is.length → is[m]? = some j → (is ++ js)[m]? = some j := fun m j hl hm => by
    rw [List.getElem?_append_left hl]; exact hm
  have key : ∀ n i, (is ++ [allI js])[n]? = some i → (n < is.length ∧ is[n]? = some i) ∨ (n = is.length ∧ i = allI js) := fun n i hn => by
    rcases Nat.lt_or_ge n is.length with hl | hl
    · rw [List.getElem?_append_left hl] at hn
      exact .inl ⟨hl, hn⟩
    · rw [List.getElem?_append_right hl] at hn
      have h0 := (List.getElem?_eq_some_iff.1 hn).1
      simp only [List.length_singleton] at h0
      have h1 : n - is.length = 0 := by omega
      rw [h1] at hn
      exact .inr ⟨by omega, by simpa using hn.symm⟩
  refine ⟨h.below, fun n i hn => ?_, fun n m i j hne hn hm b hb hb' => ?_⟩
  · rcases key n i hn with ⟨hl, h1⟩ | ⟨rfl, rfl⟩
    · exact h.each n i (hi n i hl h1)
    · refine ⟨⟨fun i hi => ?_, fun n m i j hne hn hm => h.apart _ _ i j (by omega) (hj n i hn) (hj m j hm)⟩, fun b hb => ?_⟩
      · obtain ⟨m, hm⟩ := List.getElem?_of_mem hi
        exact (h.each _ _ (hj m i hm)).1
      · obtain ⟨i, hi, hb⟩ := hb
        obtain ⟨m, hm⟩ := List.getElem?_of_mem hi
        exact (h.each _ _ (hj m i hm)).2 b hb
  · rcases key n i hn with ⟨hl, h1⟩ | ⟨rfl, rfl⟩ <;> rcases key m j hm with ⟨hl', h1'⟩ | ⟨rfl, rfl⟩
    · exact h.apart n m i j hne (hi n i hl h1) (hi m j hl' h1') b hb hb'
    · obtain ⟨k, hk, hb'⟩ := hb'
      obtain ⟨q, hq⟩ := List.getElem?_of_mem hk
      exact h.apart n (is.length + q) i k (by omega) (hi n i hl h1) (hj q k hq) b hb hb'
    · obtain ⟨k, hk, hb⟩ := hb
      obtain ⟨q, hq⟩ := List.getElem?_of_mem hk
      exact h.apart (is.length + q) m k j (by omega) (hj q k hq) (hi m j hl' h1') b hb hb'
    · exact hne rfl
theorem SH.unpack {w0 w : World} {is : List HP} (js : List HP) (h : SH w0 w (is ++ [allI js])) : SH w0 w (is ++ js) := by
  have hA : (is ++ [allI js])[is.length]? = some (allI js) := by rw [List.getElem?_append_right (Nat.le_refl _), Nat.sub_self]; rfl
  have hi : ∀ m j, m < is.length → is[m]? = some j → (is ++ [allI js])[m]? = some j := fun m j hl hm => by
    rw [List.getElem?_append_left hl]; exact hm
  have key : ∀ n i, (is ++ js)[n]? = some i → (n < is.length ∧ is[n]? = some i) ∨ (is.length ≤ n ∧ js[n - is.length]? = some i) := fun n i hn => by
    rcases Nat.lt_or_ge n is.length with hl | hl
    · rw [List.getElem?_append_left hl] at hn
      exact .inl ⟨hl, hn⟩
    · rw [List.getElem?_append_right hl] at hn
      exact .inr ⟨hl, hn⟩
  have hk := h.each _ _ hA
  refine ⟨h.below, fun n i hn => ?_, fun n m i j hne hn hm b hb hb' => ?_⟩
  · rcases key n i hn with ⟨hl, h1⟩ | ⟨hl, h1⟩
    · exact h.each n i (hi n i hl h1)
    · have hm := List.mem_of_getElem? h1
      exact ⟨hk.1.1 i hm, fun b hb => hk.2 b ⟨i, hm, hb⟩⟩
  · rcases key n i hn with ⟨hl, h1⟩ | ⟨hl, h1⟩ <;> rcases key m j hm with ⟨hl', h1'⟩ | ⟨hl', h1'⟩
    · exact h.apart n m i j hne (hi n i hl h1) (hi m j hl' h1') b hb hb'
    · exact h.apart n is.length i _ (by omega) (hi n i hl h1) hA b hb ⟨j, List.mem_of_getElem? h1', hb'⟩
    · exact h.apart is.length m _ j (by omega) hA (hi m j hl' h1') b ⟨i, List.mem_of_getElem? h1, hb⟩ hb'
    · exact hk.1.2 _ _ i j (by omega) h1 h1' b hb hb'
end Go.Proofs.Ytkggchahhpmpbaa.Sl
namespace Go.Proofs.Ytkggchahhpmpbaa.Sl
open Go.RowKit Go.Proofs.YtkggchahhpmpbaaW.PrintWords
set_option linter.unusedVariables false
set_option linter.unusedSimpArgs false
section
variable {P : Program} {ops : Array Oper} {Q : Exit → Act → World → Prop}
/-- one of ks has come up -/
def kDone (ks : List Nat) (listed : Array Bool) : Bool := ks.any fun k => listed.getD k false
/-- each of ks waits for number i -/
def kWait (ops : Array Oper) (ks : List Nat) (i : Nat) : Bool := ks.all fun k => (k != i) && match ops[k]? with
  | some ok => ok.after.any fun e => Region.binds .any e && e.on == i
  | none => false
/-- In whatever order: what is left goes well, and S holds till one of ks comes up. -/
def wpAnyK (P : Program) (ops : Array Oper) (Q : Exit → Act → World → Prop) (S : World → Prop) (ks : List Nat) : Nat → Array Bool → Act → World → Prop
  | 0, listed, a, w => Region.ready .any ops listed = [] ∧ Q .normal a w
  | fuel + 1, listed, a, w =>
    (Region.ready .any ops listed = [] → Q .normal a w) ∧
    ∀ i ∈ Region.ready .any ops listed, wpOp P ops Q i (fun a' w' => (kDone ks (listed.setIfInBounds i true) = false → S w') ∧ wpAnyK P ops Q S ks fuel (listed.setIfInBounds i true) a' w') a w
variable {S : World → Prop} {ks : List Nat}
theorem wpAny_of_K : ∀ (fuel : Nat) (listed : Array Bool) (a : Act) (w : World), wpAnyK P ops Q S ks fuel listed a w → wpAny P .any ops Q fuel listed a w
  | 0, _, _, _, h => h
  | fuel + 1, _, _, _, h => ⟨h.1, fun i hi => wpOp_mono (fun a' w' h' => wpAny_of_K fuel _ a' w' h'.2) (h.2 i hi)⟩
theorem kWait_not {i j : Nat} {listed : Array Bool} (hw : kWait ops ks i = true) (hi : listed.getD i true = false) (hj : j ∈ Region.ready .any ops listed) : j ∉ ks := fun hk => by
  have h1 := List.all_eq_true.1 hw j hk
  obtain ⟨hjun, oj, hoj, hall⟩ := mem_ready.1 hj
  rw [Bool.and_eq_true, hoj] at h1
  obtain ⟨e, he, hb⟩ := Array.any_eq_true'.1 h1.2
  rw [Bool.and_eq_true, beq_iff_eq] at hb
  have h2 := hall e he hb.1
  rw [hb.2] at h2
  rcases Nat.lt_or_ge i listed.size with h' | h'
  · simp [h'] at hi h2; rw [hi] at h2; cases h2
  · simp [Array.getElem?_eq_none h'] at h2
theorem kDone_set {j : Nat} {listed : Array Bool} (hj : j ∉ ks) : kDone ks (listed.setIfInBounds j true) = kDone ks listed := by
  unfold kDone
  rw [Bool.eq_iff_iff, List.any_eq_true, List.any_eq_true]
  constructor
  · rintro ⟨k, hk, h⟩
    refine ⟨k, hk, ?_⟩
    have hne : j ≠ k := fun e => hj (e ▸ hk)
    simpa [Array.getElem?_setIfInBounds_ne hne] using h
  · rintro ⟨k, hk, h⟩
    refine ⟨k, hk, ?_⟩
    have hne : j ≠ k := fun e => hj (e ▸ hk)
    simpa [Array.getElem?_setIfInBounds_ne hne] using h
/-- What yields its value in every world of S0 may be taken first; S0 is all, or S and each of ks waits for it. -/
theorem wpAnyK_first {S0 : World → Prop} {i : Nat} {oi : Oper} {v : Value} (hi : ops[i]? = some oi) (hsel : ∀ (j : Nat) (o : Oper) cs b, ops[j]? = some o → o.op ≠ .select cs b)
    (hQ : ∀ c a w, Q (.panic c) (a.put oi.dst v) w → Q (.panic c) a w) :
    ∀ (fuel : Nat) (listed : Array Bool) (a : Act) (w : World), i ∉ ks → (∀ w, S0 w) ∨ ((∀ w, S w → S0 w) ∧ kWait ops ks i = true ∧ kDone ks listed = false) →
      (∀ j oj, ops[j]? = some oj → j ≠ i → listed.getD j true = false → (∀ e ∈ oj.after, Region.binds .any e = true → e.on ≠ i) → oi.apart ops oj = true) →
      i ∈ Region.ready .any ops listed → YieldsIf P ops S0 oi v a → S0 w → (kDone ks (listed.setIfInBounds i true) = false → S w) →
      wpAnyK P ops Q S ks fuel (listed.setIfInBounds i true) (a.put oi.dst v) w → wpAnyK P ops Q S ks (fuel + 1) listed a w
  | 0, listed, a, w, _, _, _, hr, hy, hS0, hS, H => by
    refine ⟨fun h => (by rw [h] at hr; cases hr), fun j hj => ?_⟩
    by_cases hji : j = i
    · subst hji
      exact hy.wpOp hi hS0 ⟨hS, H⟩
    · have := ready_mono hj hji
      rw [H.1] at this
      cases this
  | fuel + 1, listed, a, w, hik, hp, hfree, hr, hy, hS0, hS, H => by
    refine ⟨fun h => (by rw [h] at hr; cases hr), fun j hj => ?_⟩
    by_cases hji : j = i
    · subst hji
      exact hy.wpOp hi hS0 ⟨hS, H⟩
    · have hiun := (mem_ready.1 hr).1
      obtain ⟨hjun, oj, hoj, hall⟩ := mem_ready.1 hj
      have hnot : ∀ e ∈ oj.after, Region.binds .any e = true → e.on ≠ i := fun e he hb heq => by
        have h1 := hall e he hb
        rw [heq] at h1
        rcases Nat.lt_or_ge i listed.size with h' | h'
        · simp [h'] at hiun h1; rw [hiun] at h1; cases h1
        · simp [Array.getElem?_eq_none h'] at h1
      have h2 := wpOp_putIf hoj (hfree j oj hoj hji hjun hnot) (fun cs b => hsel i oi cs b hi) (fun cs b => hsel j oj cs b hoj) hQ hy (H.2 j (ready_mono hj hji))
      have hset : kDone ks ((listed.setIfInBounds i true).setIfInBounds j true) = kDone ks ((listed.setIfInBounds j true).setIfInBounds i true) := by rw [Array.setIfInBounds_comm _ _ hji]
      refine wpOp_mono (fun a' w' h3 => ?_) h2
      have hnd : (kDone ks ((listed.setIfInBounds j true).setIfInBounds i true) = false → S w') := fun h => h3.2.1 (by rw [hset]; exact h)
      have hw' : (∀ w, S0 w) ∨ ((∀ w, S w → S0 w) ∧ kWait ops ks i = true ∧ kDone ks (listed.setIfInBounds j true) = false) := by
        rcases hp with hp | ⟨h4, h5, h6⟩
        · exact .inl hp
        · exact .inr ⟨h4, h5, by rw [kDone_set (kWait_not h5 hiun hj)]; exact h6⟩
      have hS0' : S0 w' := by
        rcases hw' with hp | ⟨h4, h5, h6⟩
        · exact hp w'
        · refine h4 w' (hnd ?_)
          rw [kDone_set hik]
          exact h6
      have hSj : kDone ks (listed.setIfInBounds j true) = false → S w' := fun h => hnd (by rw [kDone_set hik]; exact h)
      refine ⟨hSj, wpAnyK_first hi hsel hQ fuel (listed.setIfInBounds j true) a' w' hik hw' (fun k ok hk hki hun hno => ?_) (ready_mono hr (Ne.symm hji)) h3.1 hS0' hnd ?_⟩
      · refine hfree k ok hk hki ?_ hno
        by_cases hjk : j = k
        · subst hjk; exact hjun
        · rw [getD_set_ne true hjk] at hun; exact hun
      · rw [Array.setIfInBounds_comm _ _ hji]
        exact h3.2.2
end
section
variable {P : Program} {o : Oper} {a : Act} {Q : Exit → Act → World → Prop} {w0 w : World} {is : List HP} {fuel i : Nat} {listed : Array Bool} {ks : List Nat}
theorem kheld_start {id : Nat} {W : World} {l : List Oper} {a : Act} (ks : List Nat) (hm : P.follows .mixedOrders = true) (HS : SH w0 W is)
    (h : SH w0 W.drew is → wpAnyK P l.toArray Q (fun w => SH w0 w is) ks l.toArray.size (Array.replicate l.toArray.size false) a W.drew) : (Code.region id l.toArray true).wp P Q a W :=
  wp_region_any hm (wpAny_of_K _ _ _ _ (h HS.drew))
variable {ops : Array Oper}
theorem k_done {listed : Array Bool} {S : World → Prop} (hr : Region.ready .any ops listed = []) (h : Q .normal a w) : ∀ fuel, wpAnyK P ops Q S ks fuel listed a w
  | 0 => ⟨hr, h⟩
  | _ + 1 => ⟨fun _ => h, by rw [hr]; simp⟩
/-- a value that is the same in every world -/
theorem k_any (i : Nat) {v : Value} (hi : ops[i]? = some o) (hs : Region.noSelect ops = true) (hf : Region.free .any ops listed i = true) (hr : (Region.ready .any ops listed).contains i = true) (hk : ks.contains i = false)
    (hQ : ∀ c a w, Q (.panic c) (a.put o.dst v) w → Q (.panic c) a w) (hS : kDone ks listed = true ∨ SH w0 w is) (hw : Region.wanted o (yielded ops a.tmps) = true) (hrun : ∀ w, (execOp a.eval o).run P w = .ok (.value v) w)
    (h : wpAnyK P ops Q (fun w => SH w0 w is) ks fuel (listed.setIfInBounds i true) (a.put o.dst v) w) : wpAnyK P ops Q (fun w => SH w0 w is) ks (fuel + 1) listed a w := by
  have hik : i ∉ ks := fun h => by rw [List.contains_iff_mem.2 h] at hk; cases hk
  exact wpAnyK_first (S0 := fun _ => True) hi (Region.noSelect_spec hs) hQ fuel listed a w hik (.inl fun _ => trivial) (Region.free_spec hi hf) (by simpa using hr) (.inl ⟨hw, fun w _ => hrun w⟩) trivial
    (fun h0 => hS.elim (fun h1 => by rw [kDone_set hik, h1] at h0; cases h0) id) h
/-- a value that is read: it is the same in every world of the class -/
theorem k_val (i : Nat) {v : Value} (hi : ops[i]? = some o) (hs : Region.noSelect ops = true) (hf : Region.free .any ops listed i = true) (hr : (Region.ready .any ops listed).contains i = true) (hk : (kWait ops ks i && !kDone ks listed) = true)
    (hQ : ∀ c a w, Q (.panic c) (a.put o.dst v) w → Q (.panic c) a w) (hS : SH w0 w is) (hw : Region.wanted o (yielded ops a.tmps) = true) (hrun : ∀ w, SH w0 w is → (execOp a.eval o).run P w = .ok (.value v) w)
    (h : wpAnyK P ops Q (fun w => SH w0 w is) ks fuel (listed.setIfInBounds i true) (a.put o.dst v) w) : wpAnyK P ops Q (fun w => SH w0 w is) ks (fuel + 1) listed a w := by
  rw [Bool.and_eq_true, Bool.not_eq_true'] at hk
  have hik : i ∉ ks := fun h => by
    have := List.all_eq_true.1 hk.1 i h
    simp at this
  exact wpAnyK_first (S0 := fun w => SH w0 w is) hi (Region.noSelect_spec hs) hQ fuel listed a w hik (.inr ⟨fun _ h => h, hk.1, hk.2⟩) (Region.free_spec hi hf) (by simpa using hr) (.inl ⟨hw, hrun⟩) hS (fun _ => hS) h
theorem k_load (i : Nat) (hi : ops[i]? = some o) (hs : Region.noSelect ops = true) (hf : Region.free .any ops listed i = true) (hr : (Region.ready .any ops listed).contains i = true) (hk : (kWait ops ks i && !kDone ks listed) = true)
    {v : Value} (hQ : ∀ c a w, Q (.panic c) (a.put o.dst v) w → Q (.panic c) a w) (hS : SH w0 w is) (hw : Region.wanted o (yielded ops a.tmps) = true) {t : TypeId} {p : Operand} (ho : o.op = .load t p)
    {g j : Nat} (haddr : a.eval p = .pointer (some ⟨g, j, none⟩)) (n : Nat) {cs : List Value} {e : TypeId} (hn : is[n]? = some (blk g cs e)) (hd : (P.underlying t).map aggD = some false) (hv : cs[j]? = some v)
    (h : wpAnyK P ops Q (fun w => SH w0 w is) ks fuel (listed.setIfInBounds i true) (a.put o.dst v) w) : wpAnyK P ops Q (fun w => SH w0 w is) ks (fuel + 1) listed a w := by
  obtain ⟨d, hd, hd1⟩ := Option.map_eq_some_iff.1 hd
  refine k_val i hi hs hf hr hk hQ hS hw (fun w hs => ?_) h
  have hc := (hs.cells n hn).1 j
  rw [hv] at hc
  unfold execOp
  simp only [ho, haddr]
  cases d <;> first | (simp [aggD] at hd1; done) | simp [Instr.loadAt, Instr.sureAddr, loadVar, isAgg, underlying, go_sem, hd, hc]
theorem k_loads (i : Nat) (hi : ops[i]? = some o) (hs : Region.noSelect ops = true) (hf : Region.free .any ops listed i = true) (hr : (Region.ready .any ops listed).contains i = true) (hk : (kWait ops ks i && !kDone ks listed) = true)
    {v : Value} (hQ : ∀ c a w, Q (.panic c) (a.put o.dst v) w → Q (.panic c) a w) (hS : SH w0 w is) (hw : Region.wanted o (yielded ops a.tmps) = true) {t : TypeId} {p : Operand} (ho : o.op = .load t p)
    {g j : Nat} (haddr : a.eval p = .pointer (some ⟨g, j, none⟩)) (n : Nat) {cs : List Value} {e : TypeId} (hn : is[n]? = some (blk g cs e)) (hd : (P.underlying t).map aggD = some true) {k : Nat} (hsz : (P.info? t).map (·.size) = some k) (hfit : j + k ≤ cs.length) (hv : v = .agg ((cs.drop j).take k).toArray)
    (h : wpAnyK P ops Q (fun w => SH w0 w is) ks fuel (listed.setIfInBounds i true) (a.put o.dst v) w) : wpAnyK P ops Q (fun w => SH w0 w is) ks (fuel + 1) listed a w := by
  subst hv
  obtain ⟨d, hd, hd1⟩ := Option.map_eq_some_iff.1 hd
  obtain ⟨inf, hinf, hsz⟩ := Option.map_eq_some_iff.1 hsz
  refine k_val i hi hs hf hr hk hQ hS hw (fun w hs => ?_) h
  have hc := (hs.cells n hn).1
  have hl : ((cs.drop j).take k).length = k := by simp; omega
  have hr := run_loadCells_at (P := P) (w := w) g j ((cs.drop j).take k) (fun m v hj => by
    rw [hc]
    rw [List.getElem?_take] at hj
    split at hj
    · rw [List.getElem?_drop] at hj; exact hj
    · cases hj)
  rw [hl] at hr
  unfold loadCells at hr
  unfold execOp
  simp only [ho, haddr]
  cases d <;> first | (simp [aggD] at hd1; done) | simp [Instr.loadAt, Instr.sureAddr, loadVar, isAgg, sizeOf, typeInfo, underlying, go_sem, hd, hinf, hsz, hr]
/-- One event of a chain: by the laws of a plain walk. -/
theorem k_one (i : Nat) (hi : ops[i]? = some o) (hr : Region.ready .any ops listed = [i])
    (h : wpList P ops (onlyN fun a' w' => (kDone ks (listed.setIfInBounds i true) = false → SH w0 w' is) ∧ wpAnyK P ops Q (fun w => SH w0 w is) ks fuel (listed.setIfInBounds i true) a' w') [o] a w) : wpAnyK P ops Q (fun w => SH w0 w is) ks (fuel + 1) listed a w := by
  refine ⟨fun h0 => absurd (hr ▸ h0) (by simp), fun j hj => ?_⟩
  rw [hr] at hj
  obtain rfl : j = i := by simpa using hj
  unfold wpOp
  rw [hi]
  unfold wpList at h
  split at h
  · rename_i hw
    show if _ then _ else _
    rw [if_pos hw]
    rcases h with h | ⟨_, _, _, h⟩
    · exact .inl (upon_only _ h)
    · exact h.elim
  · rename_i hw
    show if _ then _ else _
    rw [if_neg hw]
    exact h
theorem k_call (i : Nat) (hi : ops[i]? = some o) (hr : Region.ready .any ops listed = [i]) (hw : Region.wanted o (yielded ops a.tmps) = true)
    {f : FuncId} {xs : Array Operand} {ts : Array TypeId} (ho : o.op = .call { callee := .value (.func f), args := xs, argTypes := ts }) {vs : Array Value} (hvs : xs.map a.eval = vs) (hf : callable P f = true)
    {R : Ending → World → Prop} (hc : Calls P f vs w R)
    (h : ∀ e w', R e w' → ∃ v, e = .returned v ∧ SH w0 w' is ∧ wpAnyK P ops Q (fun w => SH w0 w is) ks fuel (listed.setIfInBounds i true) (a.put o.dst v) w') : wpAnyK P ops Q (fun w => SH w0 w is) ks (fuel + 1) listed a w := by
  refine ⟨fun h0 => absurd (hr ▸ h0) (by simp), fun j hj => ?_⟩
  rw [hr] at hj
  obtain rfl : j = i := by simpa using hj
  unfold wpOp
  rw [hi]
  show if _ then _ else _
  rw [if_pos hw]
  refine .inl ?_
  have he : (execOp a.eval o).run P w = .ok (.enter f vs) w := by
    subst hvs
    unfold execOp
    simp [ho, Act.eval, go_sem, run_callable hf]
  unfold Oper.wp
  rw [he, Oper.upon_enter]
  refine hc.mono fun e w' hR => ?_
  obtain ⟨v, rfl, hS, hrest⟩ := h e w' hR
  exact ⟨fun _ => hS, hrest⟩
theorem k_nil {i : Nat} (hS : kDone ks (listed.setIfInBounds i true) = true ∨ SH w0 w is) (h : wpAnyK P ops Q (fun w => SH w0 w is) ks fuel (listed.setIfInBounds i true) a w) : wpList P ops (onlyN fun a' w' => (kDone ks (listed.setIfInBounds i true) = false → SH w0 w' is) ∧ wpAnyK P ops Q (fun w => SH w0 w is) ks fuel (listed.setIfInBounds i true) a' w') [] a w :=
  ⟨fun h0 => hS.elim (fun h1 => by rw [h1] at h0; cases h0) id, h⟩
end
end Go.Proofs.Ytkggchahhpmpbaa.Sl
