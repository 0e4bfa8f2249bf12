/- The library's builtins on blocks of one's own: append within room, copy. -/
import Derived.Test.YtddnkbabbobkaaaSl4
import Derived.Lib.AppendZerosOnto
import Derived.Laws.IdiomCopy
import Derived.Lib.Overlaps
import Derived.Test.YtddnkbabbobkaaaSl8
namespace Go.Proofs.Ytddnkbabbobkaaa.Sl
open Go.RowKit Go.Proofs.YtddnkbabbobkaaaW.PrintWords
set_option linter.unusedVariables false
set_option linter.unusedSimpArgs false

/-! ### Items as one -/
def allI (is : List HP) : HP where
  fp := fun b => ∃ i, i ∈ is ∧ i.fp b
  ok := fun w => (∀ i, i ∈ is → i.ok w) ∧ ∀ (n m : Nat) (i j : HP), n ≠ m → is[n]? = some i → is[m]? = some j → ∀ b, i.fp b → ¬ j.fp b
  loc := fun h k => ⟨fun i hi => i.loc (fun b hb => h b ⟨i, hi, hb⟩) (k.1 i hi), k.2⟩
theorem SH.pack {w0 w : World} {is : List HP} (js : List HP) (h : SH w0 w (is ++ js)) : SH w0 w (is ++ [allI js]) := by
  have hj : ∀ m j, js[m]? = some j → (is ++ js)[is.length + m]? = some j := fun m j hm => by
    rw [List.getElem?_append_right (by omega), Nat.add_sub_cancel_left]; exact hm
  have hi : ∀ m j, m < is.length → is[m]? = some j → (is ++ js)[m]? = some j := fun m j hl hm => by
    rw [List.getElem?_append_left hl]; exact hm
  have key : ∀ n i, (is ++ [allI js])[n]? = some i → (n < is.length ∧ is[n]? = some i) ∨ (n = is.length ∧ i = allI js) := fun n i hn => by
    rcases Nat.lt_or_ge n is.length with hl | hl
    · rw [List.getElem?_append_left hl] at hn
      exact .inl ⟨hl, hn⟩
    · rw [List.getElem?_append_right hl] at hn
      have h0 := (List.getElem?_eq_some_iff.1 hn).1
      simp only [List.length_singleton] at h0
      have h1 : n - is.length = 0 := by omega
      rw [h1] at hn
      exact .inr ⟨by omega, by simpa using hn.symm⟩
  refine ⟨h.below, fun n i hn => ?_, fun n m i j hne hn hm b hb hb' => ?_⟩
  · rcases key n i hn with ⟨hl, h1⟩ | ⟨rfl, rfl⟩
    · exact h.each n i (hi n i hl h1)
    · refine ⟨⟨fun i hi => ?_, fun n m i j hne hn hm => h.apart _ _ i j (by omega) (hj n i hn) (hj m j hm)⟩, fun b hb => ?_⟩
      · obtain ⟨m, hm⟩ := List.getElem?_of_mem hi
        exact (h.each _ _ (hj m i hm)).1
      · obtain ⟨i, hi, hb⟩ := hb
        obtain ⟨m, hm⟩ := List.getElem?_of_mem hi
        exact (h.each _ _ (hj m i hm)).2 b hb
  · rcases key n i hn with ⟨hl, h1⟩ | ⟨rfl, rfl⟩ <;> rcases key m j hm with ⟨hl', h1'⟩ | ⟨rfl, rfl⟩
    · exact h.apart n m i j hne (hi n i hl h1) (hi m j hl' h1') b hb hb'
    · obtain ⟨k, hk, hb'⟩ := hb'
      obtain ⟨q, hq⟩ := List.getElem?_of_mem hk
      exact h.apart n (is.length + q) i k (by omega) (hi n i hl h1) (hj q k hq) b hb hb'
    · obtain ⟨k, hk, hb⟩ := hb
      obtain ⟨q, hq⟩ := List.getElem?_of_mem hk
      exact h.apart (is.length + q) m k j (by omega) (hj q k hq) (hi m j hl' h1') b hb hb'
    · exact hne rfl
theorem SH.unpack {w0 w : World} {is : List HP} (js : List HP) (h : SH w0 w (is ++ [allI js])) : SH w0 w (is ++ js) := by
  have hA : (is ++ [allI js])[is.length]? = some (allI js) := by rw [List.getElem?_append_right (Nat.le_refl _), Nat.sub_self]; rfl
  have hi : ∀ m j, m < is.length → is[m]? = some j → (is ++ [allI js])[m]? = some j := fun m j hl hm => by
    rw [List.getElem?_append_left hl]; exact hm
  have key : ∀ n i, (is ++ js)[n]? = some i → (n < is.length ∧ is[n]? = some i) ∨ (is.length ≤ n ∧ js[n - is.length]? = some i) := fun n i hn => by
    rcases Nat.lt_or_ge n is.length with hl | hl
    · rw [List.getElem?_append_left hl] at hn
      exact .inl ⟨hl, hn⟩
    · rw [List.getElem?_append_right hl] at hn
      exact .inr ⟨hl, hn⟩
  have hk := h.each _ _ hA
  refine ⟨h.below, fun n i hn => ?_, fun n m i j hne hn hm b hb hb' => ?_⟩
  · rcases key n i hn with ⟨hl, h1⟩ | ⟨hl, h1⟩
    · exact h.each n i (hi n i hl h1)
    · have hm := List.mem_of_getElem? h1
      exact ⟨hk.1.1 i hm, fun b hb => hk.2 b ⟨i, hm, hb⟩⟩
  · rcases key n i hn with ⟨hl, h1⟩ | ⟨hl, h1⟩ <;> rcases key m j hm with ⟨hl', h1'⟩ | ⟨hl', h1'⟩
    · exact h.apart n m i j hne (hi n i hl h1) (hi m j hl' h1') b hb hb'
    · exact h.apart n is.length i _ (by omega) (hi n i hl h1) hA b hb ⟨j, List.mem_of_getElem? h1', hb'⟩
    · exact h.apart is.length m _ j (by omega) hA (hi m j hl' h1') b ⟨i, List.mem_of_getElem? h1, hb⟩ hb'
    · exact hk.1.2 _ _ i j (by omega) h1 h1' b hb hb'
/-! ### Rows as blocks, and back -/
theorem reps_flat_eq {α : Type} {enc : α → List Value} {sz : Nat} : ∀ {xs : List α} {inner : List Value}, Reps (fun x cs => cs = enc x) sz xs inner → inner = xs.flatMap enc
  | [], inner, h => by
    have := h.1
    simp at this
    simpa using this
  | x :: xs, inner, h => by
    have h0 : inner.take sz = enc x := by
      have := h.2 0 x rfl
      simpa using this
    have h1 : inner.drop sz = xs.flatMap enc := reps_flat_eq (xs := xs) ⟨by rw [List.length_drop, h.1, List.length_cons, Nat.succ_mul, Nat.add_sub_cancel], fun j p hj => by
      have := h.2 (j + 1) p (by simpa using hj)
      rw [List.drop_drop]
      rw [show sz + j * sz = (j + 1) * sz by rw [Nat.succ_mul, Nat.add_comm]]
      exact this⟩
    rw [List.flatMap_cons, ← h0, ← h1, List.take_append_drop]
theorem SH.rowBlkF {α : Type} {enc : α → List Value} {sz : Nat} {hl : ∀ x, (enc x).length = sz} {h1 : ∀ x, (enc x).all (·.oneCell') = true} {w0 w : World} {is : List HP} (HS : SH w0 w is) (n : Nat) {e : TypeId} {A : Option Addr} {m c : Nat} {xs : List α} {S : Nat → Prop} (hn : is[n]? = some (row (flk enc sz hl h1) e (.slice A m c) xs S)) (hp : 0 < m) :
    ∃ (g : Nat) (tl : List Value), A = some ⟨g, 0, none⟩ ∧ m = xs.length ∧ m ≤ c ∧ c ≤ 9223372036854775807 ∧ (xs.flatMap enc ++ tl).length = c * sz ∧ SH w0 w (is.set n (Sl.blk g (xs.flatMap enc ++ tl) e)) := by
  have HO := HS.at n hn
  have hm := (Kd.R_reads' HO).1
  obtain ⟨hok, inner, hown, hr⟩ := HO
  have hin := reps_flat_eq (enc := enc) (sz := sz) hr
  rcases hown.2 with ⟨hv, _⟩ | ⟨g, cap, cur, hv, hb, hh, hnc, hcm, hcs, hx⟩
  · injection hv with _ h2 _
    omega
  · injection hv with h1' h2 h3
    subst h1' h3
    have hsz : (flk enc sz hl h1).sz = sz := rfl
    have hcl : cur.toList.length = c * sz := by rw [Array.length_toList, hcs, hsz]
    have e1 : xs.flatMap enc ++ cur.toList.drop (xs.length * sz) = cur.toList := by
      rw [← hin, ← hx]
      exact List.take_append_drop _ _
    refine ⟨g, cur.toList.drop (xs.length * sz), rfl, hm, by omega, by simpa [maxLen] using hcm, by rw [e1]; exact hcl, ?_⟩
    rw [e1]
    refine HS.upd n hn (Chg.refl _ _) (by simpa [Sl.blk] using hh) (fun b hbb => ?_)
    have e : b = g := hbb
    subst e
    refine ⟨.inl (hok _ rfl), ?_⟩
    exact (Array.getElem?_eq_some_iff.1 hh).1
theorem SH.blkRowF {α : Type} {enc : α → List Value} {sz : Nat} (hl : ∀ x, (enc x).length = sz) (h1 : ∀ x, (enc x).all (·.oneCell') = true) {w0 w : World} {is : List HP} (HS : SH w0 w is) (n : Nat) {g : Nat} {cs : List Value} {e : TypeId} (hn : is[n]? = some (Sl.blk g cs e)) (xs : List α) (tl : List Value) {k c : Nat} (hk : k = xs.length) (hcs : cs = xs.flatMap enc ++ tl) (hlen : cs.length = c * sz) (hc : k ≤ c) (hcm : c ≤ 9223372036854775807) :
    SH w0 w (is.set n (row (flk enc sz hl h1) e (.slice (some ⟨g, 0, none⟩) k c) xs (fun b => b = g))) := by
  subst hk
  refine HS.say n hn (fun hb => ?_) (fun b hb => hb)
  have hb' : w.heap[g]? = some (.cells cs.toArray e (0, 0)) := hb
  have hfl := length_flat hl xs
  refine ⟨fun k hk => (by simpa [Value.ownBlock] using hk.symm), xs.flatMap enc, ⟨hfl, .inr ⟨g, c, cs.toArray, rfl, Nat.zero_le _, hb', hc, by simpa [maxLen] using hcm, ?_, ?_⟩⟩, reps_flat hl xs⟩
  · rw [List.size_toArray]; exact hlen
  · show cs.take (xs.length * sz) = _
    rw [hcs, ← hfl, List.take_left]
theorem length_putSeg (cs : List Value) (i : Nat) (seg : List Value) (h : i + seg.length ≤ cs.length) : (putSeg cs i seg).length = cs.length := by
  rw [putSeg_eq cs i seg h]
  simp only [List.length_append, List.length_take, List.length_drop]
  omega
section
variable {P : Program} {ops : Array Oper} {rest : List Oper} {o : Oper} {a : Act} {Q : Exit → Act → World → Prop}
theorem run_storeBlk {w : World} {g i : Nat} {cs seg : List Value} {e : TypeId} (hh : w.heap[g]? = some (.cells cs.toArray e (0, 0))) (hfit : i + seg.length ≤ cs.length) (h1 : seg.all (·.oneCell') = true) : (storeCells ⟨g, i, none⟩ seg).run P w = .ok () (w.setCells g i seg) := by
  have h := run_storeCells_cells (P := P) g i seg 0 w (fun j hj => by
    rw [blk_cell hh]
    simp
    omega) (fun j hj => blk_frozen hh _) (fun v hv => List.all_eq_true.1 h1 v hv)
  rw [Nat.add_zero] at h
  exact h
/-- append within the room of a block of one's own. -/
theorem sh_appIn {w0 W : World} {is : List HP} (HS : SH w0 W is) (hw : Region.wanted o (yielded ops a.tmps) = true) {s x : Operand} {t : TypeId} (ho : o.op = .call { callee := .builtin .append, args := #[s, x], argTypes := #[t, t] })
    {g k c : Nat} (hs : a.eval s = .slice (some ⟨g, 0, none⟩) k c) {ax : Addr} {m c2 : Nat} (hx : a.eval x = .slice (some ax) m c2) (n : Nat) {cs : List Value} {e : TypeId} (hn : is[n]? = some (blk g cs e)) {el : TypeId} (ht : P.underlying t = some (.slice el)) {sz : Nat} (hz : (P.info? el).map (·.size) = some sz)
    (hroom : k + m ≤ c) (seg : List Value) (hl : seg.length = m * sz) (hrd : ∀ j v, seg[j]? = some v → W.cell? (ax.add j) = some v) (h1 : seg.all (·.oneCell') = true) (hfit : (k + m) * sz ≤ cs.length)
    (h : ∀ w1, SH w0 w1 (is.set n (blk g (putSeg cs (k * sz) seg) e)) → wpList P ops Q rest (a.put o.dst (.slice (some ⟨g, 0, none⟩) (k + m) c)) w1) : WP P ops Q (o :: rest) a W := by
  obtain ⟨inf, hi, hsz⟩ := Option.map_eq_some_iff.1 hz
  have hh := HS.blk n hn
  have hfit' : k * sz + seg.length ≤ cs.length := by rw [hl, ← Nat.add_mul]; exact hfit
  obtain ⟨hb, hc⟩ := setCells_blk hh (k * sz) seg hfit'
  have hst := run_storeBlk (P := P) hh hfit' h1
  have hfc : (Builtin.firstCells sz m (.slice (some ax) m c2)).run P W = .ok seg.toArray W := run_firstCells_some W sz m ax m c2 seg hl hrd
  have hadd : (⟨g, 0, none⟩ : Addr).add (k * sz) = ⟨g, k * sz, none⟩ := by rw [add_plain2, Nat.zero_add]
  have hrun : (Builtin.append_ #[t, t] o.type #[.slice (some ⟨g, 0, none⟩) k c, .slice (some ax) m c2]).run P W = .ok (.slice (some ⟨g, 0, none⟩) (k + m) c) (W.setCells g (k * sz) seg) := by
    simp [Builtin.append_, run_underlying ht, sizeOf, typeInfo, hi, hsz, Builtin.lenOf, hroom, hfc, hadd, hst]
  refine ⟨?_⟩
  refine run_step hw (v := .slice (some ⟨g, 0, none⟩) (k + m) c) (w1 := W.setCells g (k * sz) seg) ?_ (h _ (HS.upd n hn hc hb (fun b hb => ?_)))
  · unfold execOp
    simp only [ho, resolve, invoke, builtin, Sem.run_bind, Sem.run_pure, Result.andThen_ok, List.map_toArray, List.map_cons, List.map_nil, hs, hx, hrun]
  · cases hb
    exact ⟨.inl rfl, by have := blk_lt hb; omega⟩
/-- copy into a block of one's own. -/
theorem sh_copyG {w0 W : World} {is : List HP} (HS : SH w0 W is) (hw : Region.wanted o (yielded ops a.tmps) = true) {d s : Operand} {t t' : TypeId} (ho : o.op = .call { callee := .builtin .copy, args := #[d, s], argTypes := #[t, t'] })
    {g i dl dc : Nat} (hd : a.eval d = .slice (some ⟨g, i, none⟩) dl dc) {ax : Addr} {sl sc : Nat} (hs : a.eval s = .slice (some ax) sl sc) (n : Nat) {cs : List Value} {e : TypeId} (hn : is[n]? = some (blk g cs e)) {el : TypeId} (ht : P.underlying t = some (.slice el)) {sz : Nat} (hz : (P.info? el).map (·.size) = some sz)
    (m : Nat) (hm : Nat.min sl dl = m) (seg : List Value) (hl : seg.length = m * sz) (hrd : ∀ j v, seg[j]? = some v → W.cell? (ax.add j) = some v) (h1 : seg.all (·.oneCell') = true) (hfit : i + m * sz ≤ cs.length)
    (h : ∀ w1, SH w0 w1 (is.set n (blk g (putSeg cs i seg) e)) → wpList P ops Q rest (a.put o.dst (goInt m)) w1) : WP P ops Q (o :: rest) a W := by
  obtain ⟨inf, hi, hsz⟩ := Option.map_eq_some_iff.1 hz
  have hh := HS.blk n hn
  have hfit' : i + seg.length ≤ cs.length := by rw [hl]; exact hfit
  obtain ⟨hb, hc⟩ := setCells_blk hh i seg hfit'
  have hst := run_storeBlk (P := P) hh hfit' h1
  have hfc : (Builtin.firstCells sz m (.slice (some ax) sl sc)).run P W = .ok seg.toArray W := run_firstCells_some W sz m ax sl sc seg hl hrd
  have hrun : (Builtin.copy_ #[t, t'] o.type #[.slice (some ⟨g, i, none⟩) dl dc, .slice (some ax) sl sc]).run P W = .ok (goInt m) (W.setCells g i seg) := by
    simp [Builtin.copy_, run_underlying ht, sizeOf, typeInfo, hi, hsz, Builtin.lenOf, hm, hfc, hst]
  refine ⟨?_⟩
  refine run_step hw (v := goInt m) (w1 := W.setCells g i seg) ?_ (h _ (HS.upd n hn hc hb (fun b hb => ?_)))
  · unfold execOp
    simp only [ho, resolve, invoke, builtin, Sem.run_bind, Sem.run_pure, Result.andThen_ok, List.map_toArray, List.map_cons, List.map_nil, hd, hs, hrun]
  · cases hb
    exact ⟨.inl rfl, by have := blk_lt hb; omega⟩

theorem gCb {W : World} {b : Builtin} {xs : Array Operand} {ts : Array TypeId} (_ho : o.op = .call { callee := .builtin b, args := xs, argTypes := ts }) (h : WP P ops Q (o :: rest) a W) : wpList P ops Q (o :: rest) a W := h.out
theorem zeroCells_len (z : Value) (m sz : Nat) (hz : z.cells.size = sz) : (Builtin.zeroCells z.cells m).toList.length = m * sz := by
  subst hz
  rw [Array.length_toList]
  simp [Builtin.zeroCells]
/-- 'clear' of a part of a block of one's own (elements of some cells). -/
theorem sh_clearS {w0 W : World} {is : List HP} (HS : SH w0 W is) (hw : Region.wanted o (yielded ops a.tmps) = true) {s : Operand} {t : TypeId} (ho : o.op = .call { callee := .builtin .clear, args := #[s], argTypes := #[t] })
    {g i m c : Nat} (hs : a.eval s = .slice (some ⟨g, i, none⟩) m c) (hp : 0 < m) (n : Nat) {cs : List Value} {e el : TypeId} (hn : is[n]? = some (Sl.blk g cs e)) {sz : Nat} (hfit : i + m * sz ≤ cs.length)
    (ht : P.underlying t = some (.slice el)) {z : Value} (hz : (P.info? el).bind (·.zero) = some z) (hzc : z.cells.size = sz) (h1 : z.cells.toList.all (·.oneCell') = true) (hp1 : 0 < sz)
    (h : ∀ w1 zs, zs.length = m * sz → SH w0 w1 (is.set n (Sl.blk g (putSeg cs i zs) e)) → wpList P ops Q rest (a.put o.dst (.tuple #[])) w1) : WP P ops Q (o :: rest) a W := by
  refine ⟨?_⟩
  have hh := HS.blk n hn
  obtain ⟨inf, hi, hz⟩ := Option.bind_eq_some_iff.1 hz
  have hzv : ∀ w, (zeroValue el).run P w = .ok z w := fun w => by simp [zeroValue, typeInfo, hi, hz]
  have hl := zeroCells_len z m sz hzc
  have hall : (Builtin.zeroCells z.cells m).toList.all (·.oneCell') = true := by
    rw [List.all_eq_true]
    intro v hv
    simp only [Builtin.zeroCells, Array.toList_map, List.mem_map] at hv
    obtain ⟨k, _, rfl⟩ := hv
    have hlt : k % z.cells.size < z.cells.size := Nat.mod_lt _ (by omega)
    refine List.all_eq_true.1 h1 _ ?_
    rw [getElem!_pos z.cells (k % z.cells.size) hlt]
    exact Array.getElem_mem_toList hlt
  obtain ⟨hb, hc⟩ := setCells_blk hh i (Builtin.zeroCells z.cells m).toList (by rw [hl]; exact hfit)
  have hst := run_storeBlk (P := P) hh (by rw [hl]; exact hfit) hall
  refine run_step hw (w1 := W.setCells g i (Builtin.zeroCells z.cells m).toList) (v := .tuple #[]) ?_ (h _ _ hl (HS.upd n hn hc hb (fun b hb' => ?_)))
  · have hm0 : m ≠ 0 := by omega
    have hrun : (Builtin.clear_ #[t] o.type #[.slice (some ⟨g, i, none⟩) m c]).run P W = .ok (.tuple #[]) (W.setCells g i (Builtin.zeroCells z.cells m).toList) := by
      obtain ⟨k, rfl⟩ : ∃ k, m = k + 1 := ⟨m - 1, by omega⟩
      simp [Builtin.clear_, run_underlying ht, hzv, hst]
    unfold execOp
    simp only [ho]
    generalize a.eval = ev at hs ⊢
    simp [hs, go_sem, hrun]
  · cases hb'
    exact ⟨.inl rfl, by have := blk_lt hb; omega⟩
/-- append of zeros to the head of a row that has no room: a new row. -/
theorem sh_appZ {w0 W : World} {is : List HP} (HS : SH w0 W is) (hw : Region.wanted o (yielded ops a.tmps) = true) {s x : Operand} {t tn : TypeId} (ho : o.op = .call { callee := .builtin .append, args := #[s, x], argTypes := #[t, tn] })
    {g k c : Nat} (hs : a.eval s = .slice (some ⟨g, 0, none⟩) k c) {kq kn : IntKind} {m : Nat} (hx : a.eval x = .int kq m) (n : Nat) {cs : List Value} {e' : TypeId} (hn : is[n]? = some (Sl.blk g cs e')) {e : TypeId}
    (ht : P.underlying t = some (.slice e)) (htn : P.underlying tn = some (.int kn)) {z : Value} {sz bytes : Nat} (hinfo : (P.info? e).map (fun i => (i.zero, i.size, i.bytes)) = some (some z, sz, bytes)) (hz : z.cells.size = sz) (hs0 : 0 < sz) (hb0 : 0 < bytes) (hm0 : 0 < m) (hg : c < k + m) (hfit : k * sz ≤ cs.length) (hlim : (k + m) * bytes ≤ 140737488355328)
    (h : ∀ g' c' w1 zs tl, zs.length = m * sz → k + m ≤ c' → c' ≤ 9223372036854775807 → (cs.take (k * sz) ++ zs ++ tl).length = c' * sz → SH w0 w1 (is ++ [Sl.blk g' (cs.take (k * sz) ++ zs ++ tl) e]) → wpList P ops Q rest (a.put o.dst (.slice (some ⟨g', 0, none⟩) (k + m) c')) w1) : WP P ops Q (o :: rest) a W := by
  refine ⟨?_⟩
  obtain ⟨i, hi, hie⟩ := Option.map_eq_some_iff.1 hinfo
  injection hie with hz1 hie
  injection hie with hsz hby
  have hh := HS.blk n hn
  have hlen : (cs.take (k * sz)).length = k * sz := by rw [List.length_take]; omega
  have hkm : k + m ≤ 140737488355328 := Nat.le_trans (Nat.le_mul_of_pos_right _ hb0) hlim
  have hold : (Builtin.firstCells i.size k (.slice (some ⟨g, 0, none⟩) k c)).run P W.drew = .ok (cs.take (k * sz)).toArray W.drew := by
    refine run_firstCells_some W.drew i.size k _ k c (cs.take (k * sz)) (by rw [hlen, hsz]) (fun j v hj => ?_)
    rw [add_plain2, Nat.zero_add]
    have h2 := blk_cell (w := W) hh j
    rw [List.getElem?_take] at hj
    split at hj
    · rw [show W.drew.cell? ⟨g, j, none⟩ = W.cell? ⟨g, j, none⟩ from rfl, h2]
      simpa using hj
    · cases hj
  have hmb : m * i.bytes ≤ 281474976710656 := by
    rw [hby]
    have : m * bytes ≤ (k + m) * bytes := Nat.mul_le_mul_right _ (by omega)
    omega
  have hrun := Go.Lib.run_append_grow_zeros (P := P) W t tn o.type e i z kq kn ht htn hi hz1 (some ⟨g, 0, none⟩) k c (cs.take (k * sz)) hold m hm0 (by rw [hsz]; exact hs0) hg (by omega) hmb (by rw [hby]; exact growslice_fits hg hlim)
  have hge := grownCap_ge W (k + m) c e
  have hle := grownCap_le_maxLen W (k + m) c e (by simp only [maxLen]; omega)
  have hzl := zeroCells_len z m sz hz
  have hzl2 := zeroCells_len z (grownCap W (k + m) c e - (k + m)) sz hz
  have harr : ((cs.take (k * sz)).toArray ++ Builtin.zeroCells z.cells m ++ Builtin.zeroCells z.cells (grownCap W (k + m) c e - (k + m))) = (cs.take (k * sz) ++ (Builtin.zeroCells z.cells m).toList ++ (Builtin.zeroCells z.cells (grownCap W (k + m) c e - (k + m))).toList).toArray := by
    apply Array.ext'
    simp
  rw [harr] at hrun
  refine run_step hw ?_ (h W.heap.size (grownCap W (k + m) c e) _ (Builtin.zeroCells z.cells m).toList (Builtin.zeroCells z.cells (grownCap W (k + m) c e - (k + m))).toList hzl hge (by simpa [maxLen] using hle) ?_ (HS.push (below_alloc (Below.drew (Below.refl _ W)) _) (blk_new W.drew _) (fun b hb => by cases hb; exact ⟨Nat.le_refl _, by simp⟩)))
  · unfold execOp
    simp only [ho, resolve, invoke, builtin, Sem.run_bind, Sem.run_pure, Result.andThen_ok, List.map_toArray, List.map_cons, List.map_nil, hs, hx, hrun]
  · simp only [List.length_append, hlen, hzl, hzl2, ← Nat.add_mul]
    congr 1
    omega
end
end Go.Proofs.Ytddnkbabbobkaaa.Sl
