/- A slice of the call's own as a block: its elements are turned in place. -/
import Derived.Test.YtddnkbabbobkaaaSl3
import Derived.Lib.SliceRun
namespace Go.Proofs.Ytddnkbabbobkaaa.Sl
open Go.RowKit Go.Proofs.YtddnkbabbobkaaaW.PrintWords
set_option linter.unusedVariables false
set_option linter.unusedSimpArgs false
/-- A row of numbers that isn't empty stands in a block of its own. -/
theorem SH.rowBlk {w0 w : World} {is : List HP} (HS : SH w0 w is) (n : Nat) {k : IntKind} {e : TypeId} {A : Option Addr} {m c : Nat} {xs : List Int} {S : Nat → Prop} (hn : is[n]? = some (row (intK k) e (.slice A m c) xs S)) (hp : 0 < m) :
    ∃ (g : Nat) (cs : List Value), A = some ⟨g, 0, none⟩ ∧ m = xs.length ∧ m ≤ cs.length ∧ (∀ i, i < m → cs[i]? = some (.int k (xs.getD i 0))) ∧ SH w0 w (is.set n (Sl.blk g cs e)) := by
  have HO := HS.at n hn
  have hm := (Kd.R_reads' HO).1
  obtain ⟨hok, inner, hown, hr⟩ := HO
  rcases hown.2 with ⟨hv, _⟩ | ⟨g, cap, cur, hv, hb, hh, hnc, hcm, hcs, hx⟩
  · injection hv with _ h2 _
    omega
  · injection hv with h1 h2 h3
    subst h1
    have hsz : (intK k).sz = 1 := rfl
    have hcl : cur.toList.length = cap := by rw [Array.length_toList, hcs, hsz, Nat.mul_one]
    refine ⟨g, cur.toList, rfl, hm, by omega, fun i hi => ?_, ?_⟩
    · have hgi : xs[i]? = some (xs.getD i 0) := by
        rw [List.getD_eq_getElem?_getD, List.getElem?_eq_getElem (by omega), Option.getD_some]
      have h4 := hr.2 i _ hgi
      have h5 : (inner.drop (i * 1)).take 1 = [.int k (xs.getD i 0)] := h4
      have h6 : inner[i]? = some (.int k (xs.getD i 0)) := by
        have := congrArg (·[0]?) h5
        simpa [List.getElem?_take, List.getElem?_drop] using this
      rw [← hx, List.getElem?_take] at h6
      split at h6
      · exact h6
      · cases h6
    · refine HS.upd n hn (Chg.refl _ _) (by simpa [Sl.blk] using hh) (fun b hbb => ?_)
      have e : b = g := hbb
      subst e
      refine ⟨.inl (hok _ rfl), ?_⟩
      exact (Array.getElem?_eq_some_iff.1 hh).1
/-- What a block's first cells hold is read. -/
theorem blkRd {w : World} {g : Nat} {e : TypeId} {k : IntKind} {cs : List Value} {m : Nat} {xs : List Int} (h : w.heap[g]? = some (.cells cs.toArray e (0, 0))) (hm : m = xs.length) (hl : m ≤ 9223372036854775807) (hc : ∀ i, i < m → cs[i]? = some (.int k (xs.getD i 0))) : Rd (ints k) 1 w (some ⟨g, 0, none⟩) m xs := by
  refine ⟨hm.symm, hl, fun _ => ⟨_, rfl, fun j p hj => ?_⟩⟩
  have hlt : j < xs.length := (List.getElem?_eq_some_iff.1 hj).1
  have hp : xs.getD j 0 = p := by rw [List.getD_eq_getElem?_getD, hj]; rfl
  refine ⟨[.int k p], rfl, rfl, fun i u hu => ?_⟩
  cases i with
  | zero =>
    injection hu with hu
    subst hu
    have := hc j (by omega)
    rw [hp] at this
    have h2 := blk_cell h j
    rw [Nat.mul_one, Nat.add_zero]
    rw [show (Addr.add ⟨g, 0, none⟩ j) = ⟨g, j, none⟩ by simp [Addr.add]; intro h; omega]
    rw [h2]
    simpa using this
  | succ i => simp at hu
section
variable {P : Program} {ops : Array Oper} {rest : List Oper} {o : Oper} {a : Act} {Q : Exit → Act → World → Prop}
/-- 'clear' of a part of a block of one's own (elements of one cell). -/
theorem sh_clear {w0 W : World} {is : List HP} (HS : SH w0 W is) (hw : Region.wanted o (yielded ops a.tmps) = true) {s : Operand} {t : TypeId} (ho : o.op = .call { callee := .builtin .clear, args := #[s], argTypes := #[t] })
    {g i m c : Nat} (hs : a.eval s = .slice (some ⟨g, i, none⟩) m c) (n : Nat) {cs : List Value} {e el : TypeId} (hn : is[n]? = some (Sl.blk g cs e)) (hfit : i + m ≤ cs.length)
    (ht : P.underlying t = some (.slice el)) {z : Value} (hz : (P.info? el).bind (·.zero) = some z) (hzc : z.cells = #[z]) (h1 : z.oneCell' = true)
    (h : ∀ w1, SH w0 w1 (is.set n (Sl.blk g (putSeg cs i (List.replicate m z)) e)) → wpList P ops Q rest (a.put o.dst (.tuple #[])) w1) : WP P ops Q (o :: rest) a W := by
  refine ⟨?_⟩
  have hh := HS.blk n hn
  obtain ⟨inf, hi, hz⟩ := Option.bind_eq_some_iff.1 hz
  have hzv : ∀ w, (zeroValue el).run P w = .ok z w := fun w => by simp [zeroValue, typeInfo, hi, hz]
  rcases Nat.eq_zero_or_pos m with rfl | hp
  · refine run_step hw (w1 := W) (v := .tuple #[]) ?_ (h W ?_)
    · unfold execOp
      simp only [ho]
      generalize a.eval = ev at hs ⊢
      simp [hs, go_sem, Builtin.clear_, run_underlying ht]
    · have : is.set n (Sl.blk g (putSeg cs i (List.replicate 0 z)) e) = is := by
        rw [putSeg_eq cs i _ (by simpa using hfit)]
        simp only [List.replicate_zero, List.append_nil, List.length_nil, Nat.add_zero, List.take_append_drop]
        have hl := (List.getElem?_eq_some_iff.1 hn).1
        apply List.ext_getElem?
        intro j
        rw [List.getElem?_set]
        by_cases hjn : n = j
        · subst hjn
          rw [if_pos rfl, if_pos hl, hn]
        · rw [if_neg hjn]
      rw [this]
      exact HS
  · obtain ⟨hb, hc⟩ := setCells_blk hh i (List.replicate m z) (by simpa using hfit)
    refine run_step hw (w1 := W.setCells g i (List.replicate m z)) (v := .tuple #[]) ?_ (h _ (HS.upd n hn hc hb (fun b hb' => ?_)))
    · have hrun := Go.Lib.run_clear_slice (P := P) W t el o.type z ht hzv hzc h1 g i m c hp (fun j hj => by rw [blk_cell hh]; simp; omega) (fun j _ => blk_frozen hh _)
      unfold execOp
      simp only [ho]
      generalize a.eval = ev at hs ⊢
      simp [hs, go_sem, hrun]
    · cases hb'
      exact ⟨.inl rfl, by have := blk_lt hb; omega⟩
theorem add0 (g i : Nat) : Addr.add ⟨g, 0, none⟩ i = ⟨g, i, none⟩ := by
  simp [Addr.add]
  intro h; omega
theorem sh_storeR {w0 W : World} {is : List HP} (HS : SH w0 W is) (hw : Region.wanted o (yielded ops a.tmps) = true) (hN : o.dst = none) {t : TypeId} {p x : Operand} (ho : o.op = .store t p x)
    {g i : Nat} (haddr : a.eval p = .pointer (some (Addr.add ⟨g, 0, none⟩ i))) (n : Nat) {cs : List Value} {e : TypeId} (hn : is[n]? = some (Sl.blk g cs e)) {u : Value} (hx : a.eval x = u) (h0 : segOf u = [u])
    (ht : (P.info? t).map (·.size) = some 1) (h1 : u.oneCell' = true) (hfit : i < cs.length)
    (h : ∀ w1, SH w0 w1 (is.set n (Sl.blk g (cs.set i u) e)) → wpList P ops Q rest a w1) : WP P ops Q (o :: rest) a W :=
  sh_storeX HS hw hN ho (haddr.trans (by rw [add0])) n hn hx h0 ht h1 hfit h
theorem sh_loadR {w0 W : World} {is : List HP} (HS : SH w0 W is) (hw : Region.wanted o (yielded ops a.tmps) = true) {t : TypeId} {p : Operand} (ho : o.op = .load t p)
    {g i : Nat} (haddr : a.eval p = .pointer (some (Addr.add ⟨g, 0, none⟩ i))) (n : Nat) {cs : List Value} {e : TypeId} (hn : is[n]? = some (Sl.blk g cs e)) (hd : (P.underlying t).map aggD = some false) {v : Value} (hv : cs[i]? = some v)
    (h : wpList P ops Q rest (a.put o.dst v) W) : WP P ops Q (o :: rest) a W := sh_loadX HS hw ho (haddr.trans (by rw [add0])) n hn hd hv h
theorem sh_clearR {w0 W : World} {is : List HP} (HS : SH w0 W is) (hw : Region.wanted o (yielded ops a.tmps) = true) {s : Operand} {t : TypeId} (ho : o.op = .call { callee := .builtin .clear, args := #[s], argTypes := #[t] })
    {g i m c : Nat} (hs : a.eval s = .slice (some (Addr.add ⟨g, 0, none⟩ i)) m c) (n : Nat) {cs : List Value} {e el : TypeId} (hn : is[n]? = some (Sl.blk g cs e)) (hfit : i + m ≤ cs.length)
    (ht : P.underlying t = some (.slice el)) {z : Value} (hz : (P.info? el).bind (·.zero) = some z) (hzc : z.cells = #[z]) (h1 : z.oneCell' = true)
    (h : ∀ w1, SH w0 w1 (is.set n (Sl.blk g (putSeg cs i (List.replicate m z)) e)) → wpList P ops Q rest (a.put o.dst (.tuple #[])) w1) : WP P ops Q (o :: rest) a W :=
  sh_clear HS hw ho (hs.trans (by rw [add0])) n hn hfit ht hz hzc h1 h
end
end Go.Proofs.Ytddnkbabbobkaaa.Sl
