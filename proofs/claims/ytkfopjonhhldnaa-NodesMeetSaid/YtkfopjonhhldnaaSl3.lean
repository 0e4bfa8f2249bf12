/- More events: whole blocks, '!=' of arrays. -/
import Derived.Test.YtkfopjonhhldnaaMap
import Derived.Test.YtkfopjonhhldnaaArr
namespace Go.Proofs.Ytkfopjonhhldnaa.Sl
open Go.RowKit Go.Proofs.YtkfopjonhhldnaaW.PrintWords
set_option linter.unusedVariables false
set_option linter.unusedSimpArgs false
section
variable {P : Program} {ops : Array Oper} {rest : List Oper} {o : Oper} {a : Act} {Q : Exit → Act → World → Prop}
/-- A load of a whole block. -/
theorem sh_loadAll {w0 W : World} {is : List HP} (HS : SH w0 W is) (hw : Region.wanted o (yielded ops a.tmps) = true) {t : TypeId} {p : Operand} (ho : o.op = .load t p)
    {g : Nat} (haddr : a.eval p = .pointer (some ⟨g, 0, none⟩)) (n : Nat) {cs : List Value} {e : TypeId} (hn : is[n]? = some (blk g cs e)) (hd : (P.underlying t).map aggD = some true) (hk : (P.info? t).map (·.size) = some cs.length)
    (h : wpList P ops Q rest (a.put o.dst (.agg cs.toArray)) W) : wpList P ops Q (o :: rest) a W := by
  refine sh_loads HS hw ho haddr n hn hd hk (by omega) ?_
  rw [List.drop_zero, List.take_length]
  exact h
theorem gBi {W : World} {op : BinOp} {t u : TypeId} {x y : Operand} (_ho : o.op = .binOp op t x y u) (h : wpList P ops Q (o :: rest) a W) : wpList P ops Q (o :: rest) a W := h
theorem gMk {W : World} {t : TypeId} {x y : Operand} (_ho : o.op = .makeSlice t x y) (h : wpList P ops Q (o :: rest) a W) : wpList P ops Q (o :: rest) a W := h
/-- '!=' of arrays of bools -/
theorem run_neqArr {W : World} (hw : Region.wanted o (yielded ops a.tmps) = true) {t u : TypeId} {x y : Operand} (ho : o.op = .binOp .neq t x y u) {e : TypeId} {n : Nat} (ht : P.underlying t = some (.array n e)) (hu : P.underlying e = some .bool) (hs : (P.info? e).map (·.size) = some 1) (hg : P.eqGuardType P.depth t = false)
    (xs ys : List Bool) (hx : a.eval x = .agg (xs.map Value.bool).toArray) (hy : a.eval y = .agg (ys.map Value.bool).toArray) (hxn : xs.length = n) (hyn : ys.length = n)
    (h : wpList P ops Q rest (a.put o.dst (.bool (!(xs == ys)))) W) : wpList P ops Q (o :: rest) a W := by
  have he := run_equal_arr (P := P) (d := 9998) ht hu hs xs ys hxn hyn W
  refine run_step hw ?_ h
  unfold execOp
  simp only [ho, hx, hy, Sem.run_bind, run_eqGuard_agg _ _ _ _ _ _ _ hg, Result.andThen_ok, run_neq_struct, he, Sem.run_pure]
end
end Go.Proofs.Ytkfopjonhhldnaa.Sl
