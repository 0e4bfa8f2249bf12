/- Stores into memory that hangs together; rows of structs as blocks. -/
import Derived.Test.YtddnkbabbobkaaaSl4
import Derived.Test.YtddnkbabbobkaaaSl7
namespace Go.Proofs.Ytddnkbabbobkaaa.Sl
open Go.RowKit Go.Proofs.YtddnkbabbobkaaaW.PrintWords
set_option linter.unusedVariables false
set_option linter.unusedSimpArgs false
/-- A row of flat elements that isn't empty stands in a block of its own. -/
theorem SH.rowBlkE {α : Type} {enc : α → List Value} {sz : Nat} {hl : ∀ x, (enc x).length = sz} {h1 : ∀ x, (enc x).all (·.oneCell') = true} {w0 w : World} {is : List HP} (HS : SH w0 w is) (n : Nat) {e : TypeId} {A : Option Addr} {m c : Nat} {xs : List α} {S : Nat → Prop} (hn : is[n]? = some (row (flk enc sz hl h1) e (.slice A m c) xs S)) (hp : 0 < m) :
    ∃ (g : Nat) (cs : List Value), A = some ⟨g, 0, none⟩ ∧ m = xs.length ∧ m * sz ≤ cs.length ∧ (∀ i x, xs[i]? = some x → ∀ j v, (enc x)[j]? = some v → cs[i * sz + j]? = some v) ∧ SH w0 w (is.set n (Sl.blk g cs e)) := by
  have HO := HS.at n hn
  have hm := (Kd.R_reads' HO).1
  obtain ⟨hok, inner, hown, hr⟩ := HO
  rcases hown.2 with ⟨hv, _⟩ | ⟨g, cap, cur, hv, hb, hh, hnc, hcm, hcs, hx⟩
  · injection hv with _ h2 _
    omega
  · injection hv with h1' h2 h3
    subst h1'
    have hsz : (flk enc sz hl h1).sz = sz := rfl
    have hcl : cur.toList.length = cap * sz := by rw [Array.length_toList, hcs, hsz]
    refine ⟨g, cur.toList, rfl, hm, ?_, fun i x hi j v hj => ?_, ?_⟩
    · rw [hcl]
      exact Nat.mul_le_mul_right _ (by omega)
    · have h4 := hr.2 i _ hi
      have h5 : (inner.drop (i * sz)).take sz = enc x := h4
      have hjl : j < sz := by
        have := (List.getElem?_eq_some_iff.1 hj).1
        rwa [hl] at this
      have h6 : inner[i * sz + j]? = some v := by
        rw [← h5, List.getElem?_take, if_pos hjl, List.getElem?_drop] at hj
        exact hj
      rw [← hx, List.getElem?_take] at h6
      split at h6
      · exact h6
      · cases h6
    · refine HS.upd n hn (Chg.refl _ _) (by simpa [Sl.blk] using hh) (fun b hbb => ?_)
      have e : b = g := hbb
      subst e
      refine ⟨.inl (hok _ rfl), ?_⟩
      exact (Array.getElem?_eq_some_iff.1 hh).1
section
variable {P : Program} {ops : Array Oper} {rest : List Oper} {o : Oper} {a : Act} {Q : Exit → Act → World → Prop}
/-- A store into a block of an item. -/
theorem sh_storeG {w0 W : World} {is : List HP} (HS : SH w0 W is) (hw : Region.wanted o (yielded ops a.tmps) = true) (hN : o.dst = none) {t : TypeId} {p x : Operand} (ho : o.op = .store t p x)
    {g i : Nat} (haddr : a.eval p = .pointer (some ⟨g, i, none⟩)) (n : Nat) {I I' : HP} (hn : is[n]? = some I) {cs : List Value} {e : TypeId} (hh : W.heap[g]? = some (.cells cs.toArray e (0, 0))) (hfp : I.fp g) {u : Value} (hx : a.eval x = u)
    (ht : (P.info? t).map (·.size) = some (segOf u).length) (h1 : (segOf u).all (·.oneCell') = true) (hfit : i + (segOf u).length ≤ cs.length)
    (hk : ∀ w1 : World, w1.heap[g]? = some (.cells (putSeg cs i (segOf u)).toArray e (0, 0)) → (∀ b, b ≠ g → b < W.heap.size → w1.heap[b]? = W.heap[b]?) → I'.ok w1) (hf : ∀ b, I'.fp b → I.fp b)
    (h : ∀ w1, SH w0 w1 (is.set n I') → wpList P ops Q rest a w1) : WP P ops Q (o :: rest) a W := by
  refine ⟨?_⟩
  have hu := segOf_eq u
  generalize segOf u = seg at *
  obtain ⟨hb, hc⟩ := setCells_blk hh i seg hfit
  refine wpList_step fun K hK => ?_
  rw [if_pos hw]
  have hrun : (Instr.storeAt t (.pointer (some ⟨g, i, none⟩)) u).run P W = .ok () (W.setCells g i seg) :=
    run_store_run t u seg hh hu ht (by simpa using hfit) (fun q hq => List.all_eq_true.1 h1 q hq)
  unfold Oper.wp execOp
  simp only [ho, haddr, hx, Sem.run_bind, Sem.run_pure, Result.andThen_ok, hrun]
  show K (a.put o.dst undef) _
  rw [hN]
  refine hK a _ (h _ (HS.upd n hn (hc.mono (fun k _ hk => by have e : k = g := hk; subst e; exact hfp)) (hk _ hb (fun b hne hlt => hc.block b hlt hne)) (fun b hb => ⟨.inl (hf b hb), ?_⟩)))
  have := ((HS.each n _ hn).2 b (hf b hb)).2
  have := hc.size
  omega
end
end Go.Proofs.Ytddnkbabbobkaaa.Sl
