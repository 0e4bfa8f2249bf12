/- One field of an element of what is read, outside a drawn region. -/
import Derived.Test.YtekjihmepdhmeaaSl3
namespace Go.Proofs.Ytekjihmepdhmeaa.Sl
open Go.RowKit Go.Proofs.YtekjihmepdhmeaaW.PrintWords
set_option linter.unusedVariables false
set_option linter.unusedSimpArgs false
section
variable {P : Program} {ops : Array Oper} {rest : List Oper} {o : Oper} {a : Act} {Q : Exit → Act → World → Prop}
theorem rd_loadf {W : World} {α : Type} {enc : α → List Value} {sz : Nat} {ad : Addr} {n : Nat} {xs : List α} (HR : Rd enc sz W (some ad) n xs) (hw : Region.wanted o (yielded ops a.tmps) = true) {t : TypeId} {p : Operand} (ho : o.op = .load t p)
    {i : Nat} (j : Nat) (haddr : a.eval p = .pointer (some (ad.add (i * sz + j)))) (hi : i < n) (z : α) (hd : (P.underlying t).map aggD = some false) (f : α → Value) (hf : ∀ x, (enc x)[j]? = some (f x))
    (h : ∀ x, xs.getD i z = x → wpList P ops Q rest (a.put o.dst (f x)) W) : WP P ops Q (o :: rest) a W := by
  obtain ⟨d, hd, hd1⟩ := Option.map_eq_some_iff.1 hd
  refine ⟨run_step hw ?_ (h _ rfl)⟩
  have hc := HR.cell z hi j (hf _)
  unfold execOp
  simp only [ho, haddr]
  cases d <;> first | (simp [aggD] at hd1; done) | simp [Instr.loadAt, Instr.sureAddr, loadVar, isAgg, underlying, go_sem, hd, hc]
end
end Go.Proofs.Ytekjihmepdhmeaa.Sl
