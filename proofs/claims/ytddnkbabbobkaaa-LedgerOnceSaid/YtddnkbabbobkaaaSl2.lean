/- Regions that draw their order, walked once under a class of worlds told by the items (Sl). -/
import Derived.Test.YtddnkbabbobkaaaSl
import Derived.Deep.QuietTactic
import Derived.BigQuiet
namespace Go.Proofs.Ytddnkbabbobkaaa.Sl
open Go.RowKit Go.Proofs.YtddnkbabbobkaaaW.PrintWords
set_option linter.unusedVariables false
set_option linter.unusedSimpArgs false

theorem SH.drew {w0 w : World} {is : List HP} (h : SH w0 w is) : SH w0 w.drew is := h.quiet (below_drew (Below.refl _ _))
section
variable {P : Program} {ops : Array Oper} {rest : List Oper} {o : Oper} {a : Act} {Q : Exit → Act → World → Prop} {Qa : Act → Prop} {w0 : World} {is : List HP}
/-- A region that draws its order, whose operations hand back one value each in every world in which the items hold, and leave such a world. -/
theorem wp_region_sh {id : Nat} {W : World} {l : List Oper} (hm : P.follows .mixedOrders = true) (hB : Region.lexB .any l.toArray = true) (HS : SH w0 W is)
    (h : wpQuiet P l.toArray (fun w => SH w0 w is) (fun a' => ∀ w', SH w0 w' is → Q .normal a' w') l a) : (Code.region id l.toArray true).wp P Q a W :=
  wp_region_quiet (C := fun w => SH w0 w is) hm hB HS.drew (by simpa using h)
/-- the same in a region that draws -/
structure WQ (P : Program) (ops : Array Oper) (C : World → Prop) (Qa : Act → Prop) (l : List Oper) (a : Act) : Prop where
  out : wpQuiet P ops C Qa l a
theorem q_val (hw : Region.wanted o (yielded ops a.tmps) = true) {v : Value} (hrun : ∀ w, SH w0 w is → (execOp a.eval o).run P w = .ok (.value v) w) (h : wpQuiet P ops (fun w => SH w0 w is) Qa rest (a.put o.dst v)) :
    WQ P ops (fun w => SH w0 w is) Qa (o :: rest) a := by
  refine ⟨?_⟩
  refine wpQuiet_step fun K hK => ?_
  rw [if_pos hw]
  refine ⟨v, fun w hc => ?_, hK _ h⟩
  unfold Oper.quietAt
  rw [hrun w hc]
  exact ⟨rfl, rfl⟩
theorem qAny {C : World → Prop} {Qa : Act → Prop} (h : WQ P ops C Qa (o :: rest) a) : wpQuiet P ops C Qa (o :: rest) a := h.out
theorem qMv {C : World → Prop} {x : Operand} (_ho : o.op = .move x) (h : wpQuiet P ops C Qa (o :: rest) a) : wpQuiet P ops C Qa (o :: rest) a := h
theorem qAs {C : World → Prop} {x : Operand} (_ho : o.op = .assign x) (h : wpQuiet P ops C Qa (o :: rest) a) : wpQuiet P ops C Qa (o :: rest) a := h
theorem qPk {C : World → Prop} {x y z : Operand} (_ho : o.op = .pick x y z) (h : wpQuiet P ops C Qa (o :: rest) a) : wpQuiet P ops C Qa (o :: rest) a := h
theorem qLd {C : World → Prop} {ty : TypeId} {x : Operand} (_ho : o.op = .load ty x) (h : WQ P ops C Qa (o :: rest) a) : wpQuiet P ops C Qa (o :: rest) a := h.out
theorem qCl {C : World → Prop} {f : FuncId} {as : Array Operand} {ts : Array TypeId} (_ho : o.op = .call { callee := .value (.func f), args := as, argTypes := ts }) (h : WQ P ops C Qa (o :: rest) a) : wpQuiet P ops C Qa (o :: rest) a := h.out
theorem q_load (hw : Region.wanted o (yielded ops a.tmps) = true) {t : TypeId} {p : Operand} (ho : o.op = .load t p)
    {g i : Nat} (haddr : a.eval p = .pointer (some ⟨g, i, none⟩)) (n : Nat) {cs : List Value} {e : TypeId} (hn : is[n]? = some (blk g cs e)) (hd : (P.underlying t).map aggD = some false) {v : Value} (hv : cs[i]? = some v)
    (h : wpQuiet P ops (fun w => SH w0 w is) Qa rest (a.put o.dst v)) : WQ P ops (fun w => SH w0 w is) Qa (o :: rest) a := by
  obtain ⟨d, hd, hd1⟩ := Option.map_eq_some_iff.1 hd
  refine q_val hw (fun w hs => ?_) h
  have hc := (hs.cells n hn).1 i
  rw [hv] at hc
  unfold execOp
  simp only [ho, haddr]
  cases d <;> first | (simp [aggD] at hd1; done) | simp [Instr.loadAt, Instr.sureAddr, loadVar, isAgg, underlying, go_sem, hd, hc]
theorem q_loads (hw : Region.wanted o (yielded ops a.tmps) = true) {t : TypeId} {p : Operand} (ho : o.op = .load t p)
    {g i : Nat} (haddr : a.eval p = .pointer (some ⟨g, i, none⟩)) (n : Nat) {cs : List Value} {e : TypeId} (hn : is[n]? = some (blk g cs e)) (hd : (P.underlying t).map aggD = some true) {k : Nat} (hk : (P.info? t).map (·.size) = some k) (hfit : i + k ≤ cs.length)
    (h : wpQuiet P ops (fun w => SH w0 w is) Qa rest (a.put o.dst (.agg ((cs.drop i).take k).toArray))) : WQ P ops (fun w => SH w0 w is) Qa (o :: rest) a := by
  obtain ⟨d, hd, hd1⟩ := Option.map_eq_some_iff.1 hd
  obtain ⟨inf, hi, hsz⟩ := Option.map_eq_some_iff.1 hk
  refine q_val hw (fun w hs => ?_) h
  have hc := (hs.cells n hn).1
  have hl : ((cs.drop i).take k).length = k := by simp; omega
  have hr := run_loadCells_at (P := P) (w := w) g i ((cs.drop i).take k) (fun j v hj => by
    rw [hc]
    rw [List.getElem?_take] at hj
    split at hj
    · rw [List.getElem?_drop] at hj; exact hj
    · cases hj)
  rw [hl] at hr
  unfold loadCells at hr
  unfold execOp
  simp only [ho, haddr]
  cases d <;> first | (simp [aggD] at hd1; done) | simp [Instr.loadAt, Instr.sureAddr, loadVar, isAgg, sizeOf, typeInfo, underlying, go_sem, hd, hi, hsz, hr]
theorem run_rd {α : Type} {enc : α → List Value} {sz : Nat} {W : World} {ad : Addr} {n : Nat} {xs : List α} (HR : Rd enc sz W (some ad) n xs) {t : TypeId} {p : Operand} (ho : o.op = .load t p)
    {i : Nat} (haddr : a.eval p = .pointer (some (ad.add (i * sz)))) (hi : i < n) (z : α) (hl : ∀ x, (enc x).length = sz) (hd : (P.underlying t).map aggD = some true) (hk : (P.info? t).map (·.size) = some sz) :
    (execOp a.eval o).run P W = .ok (.value (.agg (enc (xs.getD i z)).toArray)) W := by
  obtain ⟨d, hd, hd1⟩ := Option.map_eq_some_iff.1 hd
  obtain ⟨inf, hi', hsz⟩ := Option.map_eq_some_iff.1 hk
  have hr := run_loadCells_list (P := P) W (ad.add (i * sz)) (enc (xs.getD i z)) (fun j v hj => by rw [add_add]; exact HR.cell z hi j hj)
  rw [hl] at hr
  unfold loadCells at hr
  unfold execOp
  simp only [ho, haddr]
  cases d <;> first | (simp [aggD] at hd1; done) | simp [Instr.loadAt, Instr.sureAddr, loadVar, isAgg, sizeOf, typeInfo, underlying, go_sem, hd, hi', hsz, hr]
/-- An element of what is read in every world of the class. -/
theorem q_rd {α : Type} {enc : α → List Value} {sz : Nat} {ad : Addr} {n : Nat} {xs : List α} (HR : ∀ w, SH w0 w is → Rd enc sz w (some ad) n xs) (hw : Region.wanted o (yielded ops a.tmps) = true) {t : TypeId} {p : Operand} (ho : o.op = .load t p)
    {i : Nat} (haddr : a.eval p = .pointer (some (ad.add (i * sz)))) (hi : i < n) (z : α) (hl : ∀ x, (enc x).length = sz) (hd : (P.underlying t).map aggD = some true) (hk : (P.info? t).map (·.size) = some sz)
    (h : wpQuiet P ops (fun w => SH w0 w is) Qa rest (a.put o.dst (.agg (enc (xs.getD i z)).toArray))) : WQ P ops (fun w => SH w0 w is) Qa (o :: rest) a :=
  q_val hw (fun w hs => run_rd (HR w hs) ho haddr hi z hl hd hk) h
/-- A one-cell element of what is read in every world of the class. -/
theorem q_rd1 {α : Type} {enc : α → Value} {ad : Addr} {n : Nat} {xs : List α} (HR : ∀ w, SH w0 w is → Rd (fun x => [enc x]) 1 w (some ad) n xs) (hw : Region.wanted o (yielded ops a.tmps) = true) {t : TypeId} {p : Operand} (ho : o.op = .load t p)
    {i : Nat} (haddr : a.eval p = .pointer (some (ad.add i))) (hi : i < n) (z : α) (hd : (P.underlying t).map aggD = some false)
    (h : ∀ x, xs.getD i z = x → wpQuiet P ops (fun w => SH w0 w is) Qa rest (a.put o.dst (enc x))) : WQ P ops (fun w => SH w0 w is) Qa (o :: rest) a :=
  q_val hw (fun w hs => run_rd1 (HR w hs) ho haddr hi z hd) (h _ rfl)
/-- A call that tells one value in every world of the class. -/
theorem q_call (hw : Region.wanted o (yielded ops a.tmps) = true) {f : FuncId} {as : Array Operand} {ts : Array TypeId} (ho : o.op = .call { callee := .value (.func f), args := as, argTypes := ts }) {vs : Array Value} (hvs : as.map a.eval = vs) (hf : callable P f = true) {v : Value}
    (hc : ∀ w, SH w0 w is → Calls P f vs w fun e w' => e = .returned v ∧ Below w.heap.size w w')
    (h : wpQuiet P ops (fun w => SH w0 w is) Qa rest (a.put o.dst v)) : WQ P ops (fun w => SH w0 w is) Qa (o :: rest) a := by
  refine ⟨?_⟩
  refine wpQuiet_step fun K hK => ?_
  rw [if_pos hw]
  refine ⟨v, fun w hs => ?_, hK _ h⟩
  unfold Oper.quietAt
  have : (execOp a.eval o).run P w = .ok (.enter f vs) w := by
    subst hvs
    unfold execOp
    simp [ho, Act.eval, go_sem, run_callable hf]
  rw [this]
  exact ⟨rfl, (hc w hs).mono fun e w' ⟨he, hb⟩ => ⟨he, hs.quiet hb⟩⟩
end
/-- What came in is read, in every world of the class. -/
theorem Rd.rds {α : Type} {enc : α → List Value} {sz : Nat} {w0 : World} {A : Option Addr} {n : Nat} {xs : List α} (h : Rd enc sz w0 A n xs) (is : List HP) : ∀ w, SH w0 w is → Rd enc sz w A n xs := fun _ hs => h.sh hs
/-- What a row holds is read, in every world of the class. -/
theorem row_rds {α : Type} {enc : α → List Value} {sz : Nat} {hl : ∀ x, (enc x).length = sz} {h1 : ∀ x, (enc x).all (·.oneCell') = true} {w0 : World} {is : List HP} (n : Nat) {e : TypeId} {A : Option Addr} {m c : Nat} {xs : List α} {S : Nat → Prop}
    (hn : is[n]? = some (row (flk enc sz hl h1) e (.slice A m c) xs S)) : ∀ w, SH w0 w is → Rd enc sz w A m xs := by
  intro w hs
  obtain ⟨A', c', he, _, hr⟩ := row_rd hs n hn
  injection he with ha hm hc
  subst ha hm hc
  exact hr
end Go.Proofs.Ytddnkbabbobkaaa.Sl
