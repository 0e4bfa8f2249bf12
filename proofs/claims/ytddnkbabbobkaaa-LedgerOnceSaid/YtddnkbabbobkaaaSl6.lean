/- One field of an element of what is read, outside a drawn region. -/
import Derived.Test.YtddnkbabbobkaaaSl3
namespace Go.Proofs.Ytddnkbabbobkaaa.Sl
open Go.RowKit Go.Proofs.YtddnkbabbobkaaaW.PrintWords
set_option linter.unusedVariables false
set_option linter.unusedSimpArgs false
section
variable {P : Program} {ops : Array Oper} {rest : List Oper} {o : Oper} {a : Act} {Q : Exit → Act → World → Prop}
theorem rd_loadf {W : World} {α : Type} {enc : α → List Value} {sz : Nat} {ad : Addr} {n : Nat} {xs : List α} (HR : Rd enc sz W (some ad) n xs) (hw : Region.wanted o (yielded ops a.tmps) = true) {t : TypeId} {p : Operand} (ho : o.op = .load t p)
    {i : Nat} (j : Nat) (haddr : a.eval p = .pointer (some (ad.add (i * sz + j)))) (hi : i < n) (z : α) (hd : (P.underlying t).map aggD = some false) (f : α → Value) (hf : ∀ x, (enc x)[j]? = some (f x))
    (h : ∀ x, xs.getD i z = x → wpList P ops Q rest (a.put o.dst (f x)) W) : WP P ops Q (o :: rest) a W := by
  obtain ⟨d, hd, hd1⟩ := Option.map_eq_some_iff.1 hd
  refine ⟨run_step hw ?_ (h _ rfl)⟩
  have hc := HR.cell z hi j (hf _)
  unfold execOp
  simp only [ho, haddr]
  cases d <;> first | (simp [aggD] at hd1; done) | simp [Instr.loadAt, Instr.sureAddr, loadVar, isAgg, underlying, go_sem, hd, hc]
/-- A part of an element of what is read: k cells from cell j on. -/
theorem run_rdp {α : Type} {enc : α → List Value} {sz : Nat} {W : World} {ad : Addr} {n : Nat} {xs : List α} (HR : Rd enc sz W (some ad) n xs) {t : TypeId} {p : Operand} (ho : o.op = .load t p)
    {i : Nat} (j : Nat) (haddr : a.eval p = .pointer (some (ad.add (i * sz + j)))) (hi : i < n) (z : α) (hl : ∀ x, (enc x).length = sz) (hd : (P.underlying t).map aggD = some true) {k : Nat} (hk : (P.info? t).map (·.size) = some k) (hjk : j + k ≤ sz) :
    (execOp a.eval o).run P W = .ok (.value (.agg (((enc (xs.getD i z)).drop j).take k).toArray)) W := by
  obtain ⟨d, hd, hd1⟩ := Option.map_eq_some_iff.1 hd
  obtain ⟨inf, hi', hsz⟩ := Option.map_eq_some_iff.1 hk
  have hlen : (((enc (xs.getD i z)).drop j).take k).length = k := by
    rw [List.length_take, List.length_drop, hl]
    omega
  have hr := run_loadCells_list (P := P) W (ad.add (i * sz + j)) (((enc (xs.getD i z)).drop j).take k) (fun m v hm => by
    rw [add_add, Nat.add_assoc]
    refine HR.cell z hi (j + m) ?_
    rw [List.getElem?_take] at hm
    split at hm
    · rw [List.getElem?_drop] at hm; exact hm
    · cases hm)
  rw [hlen] at hr
  unfold loadCells at hr
  unfold execOp
  simp only [ho, haddr]
  cases d <;> first | (simp [aggD] at hd1; done) | simp [Instr.loadAt, Instr.sureAddr, loadVar, isAgg, sizeOf, typeInfo, underlying, go_sem, hd, hi', hsz, hr]
theorem rd_loadp {W : World} {α : Type} {enc : α → List Value} {sz : Nat} {ad : Addr} {n : Nat} {xs : List α} (HR : Rd enc sz W (some ad) n xs) (hw : Region.wanted o (yielded ops a.tmps) = true) {t : TypeId} {p : Operand} (ho : o.op = .load t p)
    {i : Nat} (j : Nat) (haddr : a.eval p = .pointer (some (ad.add (i * sz + j)))) (hi : i < n) (z : α) (hl : ∀ x, (enc x).length = sz) (hd : (P.underlying t).map aggD = some true) {k : Nat} (hk : (P.info? t).map (·.size) = some k) (hjk : j + k ≤ sz)
    (h : ∀ x, xs.getD i z = x → wpList P ops Q rest (a.put o.dst (.agg (((enc x).drop j).take k).toArray)) W) : WP P ops Q (o :: rest) a W :=
  ⟨run_step hw (run_rdp HR ho j haddr hi z hl hd hk hjk) (h _ rfl)⟩
theorem q_rdp {w0 : World} {is : List HP} {Qa : Act → Prop} {α : Type} {enc : α → List Value} {sz : Nat} {ad : Addr} {n : Nat} {xs : List α} (HR : ∀ w, SH w0 w is → Rd enc sz w (some ad) n xs) (hw : Region.wanted o (yielded ops a.tmps) = true) {t : TypeId} {p : Operand} (ho : o.op = .load t p)
    {i : Nat} (j : Nat) (haddr : a.eval p = .pointer (some (ad.add (i * sz + j)))) (hi : i < n) (z : α) (hl : ∀ x, (enc x).length = sz) (hd : (P.underlying t).map aggD = some true) {k : Nat} (hk : (P.info? t).map (·.size) = some k) (hjk : j + k ≤ sz)
    (h : ∀ x, xs.getD i z = x → wpQuiet P ops (fun w => SH w0 w is) Qa rest (a.put o.dst (.agg (((enc x).drop j).take k).toArray))) : WQ P ops (fun w => SH w0 w is) Qa (o :: rest) a :=
  q_val hw (fun w hs => run_rdp (HR w hs) ho j haddr hi z hl hd hk hjk) (h _ rfl)
end
end Go.Proofs.Ytddnkbabbobkaaa.Sl
