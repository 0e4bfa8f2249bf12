/- More events: whole blocks, '!=' of arrays. -/
import Derived.Test.YtddnkbabbobkaaaMap
import Derived.Test.YtddnkbabbobkaaaArr
import Derived.BigGuard
namespace Go.Proofs.Ytddnkbabbobkaaa.Sl
open Go.RowKit Go.Proofs.YtddnkbabbobkaaaW.PrintWords
set_option linter.unusedVariables false
set_option linter.unusedSimpArgs false
section
variable {P : Program} {ops : Array Oper} {rest : List Oper} {o : Oper} {a : Act} {Q : Exit → Act → World → Prop}
/-- A load of a whole block. -/
theorem sh_loadAll {w0 W : World} {is : List HP} (HS : SH w0 W is) (hw : Region.wanted o (yielded ops a.tmps) = true) {t : TypeId} {p : Operand} (ho : o.op = .load t p)
    {g : Nat} (haddr : a.eval p = .pointer (some ⟨g, 0, none⟩)) (n : Nat) {cs : List Value} {e : TypeId} (hn : is[n]? = some (blk g cs e)) (hd : (P.underlying t).map aggD = some true) (hk : (P.info? t).map (·.size) = some cs.length)
    (h : wpList P ops Q rest (a.put o.dst (.agg cs.toArray)) W) : WP P ops Q (o :: rest) a W := by
  refine sh_loads HS hw ho haddr n hn hd hk (by omega) ?_
  rw [List.drop_zero, List.take_length]
  exact h
theorem gBi {W : World} {op : BinOp} {t u : TypeId} {x y : Operand} (_ho : o.op = .binOp op t x y u) (h : WP P ops Q (o :: rest) a W) : wpList P ops Q (o :: rest) a W := h.out
theorem gMk {W : World} {t : TypeId} {x y : Operand} (_ho : o.op = .makeSlice t x y) (h : WP P ops Q (o :: rest) a W) : wpList P ops Q (o :: rest) a W := h.out
/-- '!=' of arrays of bools -/
theorem run_neqArr {W : World} (hw : Region.wanted o (yielded ops a.tmps) = true) {t u : TypeId} {x y : Operand} (ho : o.op = .binOp .neq t x y u) {e : TypeId} {n : Nat} (ht : P.underlying t = some (.array n e)) (hu : P.underlying e = some .bool) (hs : (P.info? e).map (·.size) = some 1) (hg : P.eqGuardType P.depth t = false)
    (xs ys : List Bool) (hx : a.eval x = .agg (xs.map Value.bool).toArray) (hy : a.eval y = .agg (ys.map Value.bool).toArray) (hxn : xs.length = n) (hyn : ys.length = n)
    (h : wpList P ops Q rest (a.put o.dst (.bool (!(xs == ys)))) W) : WP P ops Q (o :: rest) a W := by
  refine ⟨?_⟩
  have he := run_equal_arr (P := P) (d := 9998) ht hu hs xs ys hxn hyn W
  refine run_step hw ?_ h
  unfold execOp
  simp only [ho, hx, hy, Sem.run_bind, run_eqGuard_agg _ _ _ _ _ _ _ hg, Result.andThen_ok, run_neq_struct, he, Sem.run_pure]
/-- what the slot of operation j holds -/
def slotOf (ops : Array Oper) (a : Act) (j : Nat) : Value :=
  match ops[j]? with
  | some o => match o.dst with
    | some d => a.tmps.getD d undef
    | none => undef
  | none => undef
theorem gGd {W : World} {j : Nat} {want : Bool} (_hg : o.guard = some (j, want)) (h : WP P ops Q (o :: rest) a W) : wpList P ops Q (o :: rest) a W := h.out
/-- An operation whose guard is a Bool not yet known: both ways. -/
theorem gsplit {W : World} {j : Nat} {want b : Bool} (_hg : o.guard = some (j, want)) (_hv : slotOf ops a j = .bool b)
    (ht : b = true → WP P ops Q (o :: rest) a W) (hf : b = false → WP P ops Q (o :: rest) a W) : WP P ops Q (o :: rest) a W := by
  cases b
  · exact hf rfl
  · exact ht rfl
theorem qBi {C : World → Prop} {Qa : Act → Prop} {op : BinOp} {t u : TypeId} {x y : Operand} (_ho : o.op = .binOp op t x y u) (h : WQ P ops C Qa (o :: rest) a) : wpQuiet P ops C Qa (o :: rest) a := h.out
theorem qGd {C : World → Prop} {Qa : Act → Prop} {j : Nat} {want : Bool} (_hg : o.guard = some (j, want)) (h : WQ P ops C Qa (o :: rest) a) : wpQuiet P ops C Qa (o :: rest) a := h.out
theorem qsplit {C : World → Prop} {Qa : Act → Prop} {j : Nat} {want b : Bool} (_hg : o.guard = some (j, want)) (_hv : slotOf ops a j = .bool b)
    (ht : b = true → WQ P ops C Qa (o :: rest) a) (hf : b = false → WQ P ops C Qa (o :: rest) a) : WQ P ops C Qa (o :: rest) a := by
  cases b
  · exact hf rfl
  · exact ht rfl
/-- One cell of an element of what is read, in every world of the class. -/
theorem q_rdf {w0 : World} {is : List HP} {Qa : Act → Prop} {α : Type} {enc : α → List Value} {sz : Nat} {ad : Addr} {n : Nat} {xs : List α} (HR : ∀ w, SH w0 w is → Rd enc sz w (some ad) n xs) (hw : Region.wanted o (yielded ops a.tmps) = true) {t : TypeId} {p : Operand} (ho : o.op = .load t p)
    {i : Nat} (j : Nat) (haddr : a.eval p = .pointer (some (ad.add (i * sz + j)))) (hi : i < n) (z : α) (hd : (P.underlying t).map aggD = some false) (f : α → Value) (hf : ∀ x, (enc x)[j]? = some (f x))
    (h : ∀ x, xs.getD i z = x → wpQuiet P ops (fun w => SH w0 w is) Qa rest (a.put o.dst (f x))) : WQ P ops (fun w => SH w0 w is) Qa (o :: rest) a := by
  obtain ⟨d, hd, hd1⟩ := Option.map_eq_some_iff.1 hd
  refine q_val hw (fun w hs => ?_) (h _ rfl)
  have hc := (HR w hs).cell z hi j (hf _)
  unfold execOp
  simp only [ho, haddr]
  cases d <;> first | (simp [aggD] at hd1; done) | simp [Instr.loadAt, Instr.sureAddr, loadVar, isAgg, underlying, go_sem, hd, hc]
/-! ### Numbers as keys -/
theorem intKeyOK {kt : TypeId} {k : IntKind} (h : P.underlying kt = some (.int k)) : KeyOK P kt (Value.int k) (fun _ : Int => True) where
  eq := fun x y w _ _ => by
    show (Op.equalIn 10000 _ _ _).run _ _ = _
    rw [Op.equalIn]
    simp only [Sem.run_bind, run_underlying h, Result.andThen_ok]
    simp
    by_cases e : x = y
    · subst e; simp
    · simp [e]
  chk := fun b x w _ => by
    rw [Instr.checkKey]
    simp only [Sem.run_bind, run_underlying h, Result.andThen_ok]
    simp
  same := fun x _ => by simp [Instr.sameBits]
  und := ⟨_, h, .inr (fun x y => by
    simp only [Instr.sameNow, if_true]
    by_cases e : x = y
    · subst e; simp
    · simp [e])⟩
end
end Go.Proofs.Ytddnkbabbobkaaa.Sl
