/- Lemmas towards the law: what of the text DkN it needs. -/
import Derived.Test.YtgcgnhcjjlnloaaDoorDkCq
import Derived.Test.YtgcgnhcjjlnloaaDoorDkEq
namespace Go.Proofs.YtgcgnhcjjlnloaaDoor.Dk
open Go.RowKit Go.Proofs.YtgcgnhcjjlnloaaDoorW.PrintWords Go.Proofs.YtgcgnhcjjlnloaaDoor.Sl
set_option linter.unusedVariables false
set_option linter.unusedSimpArgs false
/-- a row of bytes of one's own, whatever it holds -/
def byI (g n : Nat) (e : TypeId) : HP where
  fp := fun b => b = g
  ok := fun w => ∃ (cs : Array Value) (k : Nat), n ≤ k ∧ cs.size = k ∧ w.heap[g]? = some (.cells cs e (k, k + 1))
  loc := by
    rintro w w' h ⟨cs, k, h1, h2, h3⟩
    exact ⟨cs, k, h1, h2, (h g rfl).trans h3⟩
/-- the same, with what it holds -/
def byR (g n : Nat) (e : TypeId) (xs : List Int) : HP where
  fp := fun b => b = g
  ok := fun w => Rd (ints .u8) 1 w (some ⟨g, 0, none⟩) n xs ∧ (byI g n e).ok w
  loc := by
    rintro w w' h ⟨h1, h2⟩
    exact ⟨h1.loc (fun ad e => by cases e; exact h g rfl), (byI g n e).loc h h2⟩
theorem SH.forget {w0 w : World} {is : List HP} (HS : SH w0 w is) (n : Nat) {g k : Nat} {e : TypeId} {xs : List Int} (hn : is[n]? = some (byR g k e xs)) : SH w0 w (is.set n (byI g k e)) := HS.say n hn (fun h => h.2) (fun b hb => hb)
section
variable {P : Program} {ops : Array Oper} {rest : List Oper} {o : Oper} {a : Act} {Q : Exit → Act → World → Prop}
theorem sh_toBytesR {w0 W : World} {is : List HP} (HS : SH w0 W is) (hw : Region.wanted o (yielded ops a.tmps) = true) {ts td e : TypeId} {x : Operand} (ho : o.op = .convert ts td x) {s : ByteArray} (hx : a.eval x = .string s) {u : TypeDesc}
    (hs : P.underlying ts = some u) (hd : P.underlying td = some (.slice e)) (he : P.underlying e = some (.int .u8)) (hsz : s.size ≤ 9223372036854775807)
    (h : ∀ g c w1, w0.heap.size ≤ g → s.size ≤ c → SH w0 w1 (is ++ [byR g s.size e (bi s)]) → wpList P ops Q rest (a.put o.dst (.slice (some ⟨g, 0, none⟩) s.size c)) w1) : WP P ops Q (o :: rest) a W := by
  have h1 := Lib.run_convert_string_bytes (P := P) W ts td e s hs hd he
  have hb : Below W.heap.size W (Lib.bytesWorld W e s) := ⟨rfl, rfl, rfl, by rw [Lib.bytesWorld_size]; omega, fun k hk => Lib.bytesWorld_at_old W e s k hk⟩
  have hin : (byR W.heap.size s.size e (bi s)).ok (Lib.bytesWorld W e s) := ⟨?_, _, _, ?_, rfl, Lib.bytesWorld_at_new W e s⟩
  · refine ⟨run_step hw (v := .slice (some ⟨W.heap.size, 0, none⟩) s.size (grownCap W s.size 0 e)) (w1 := Lib.bytesWorld W e s) ?_ (h W.heap.size (grownCap W s.size 0 e) (Lib.bytesWorld W e s) HS.size (grownCap_ge W s.size 0 e) (HS.push hb hin (fun b hb => by cases hb; exact ⟨Nat.le_refl _, by rw [Lib.bytesWorld_size]; omega⟩)))⟩
    unfold execOp
    simp only [ho, hx]
    simp [go_sem, h1]
  · refine ⟨bi_len s, hsz, fun _ => ⟨_, rfl, fun j p hj => ⟨[.int .u8 p], rfl, rfl, fun i v hv => ?_⟩⟩⟩
    have hjl : j < s.size := by rw [← bi_len s]; exact (List.getElem?_eq_some_iff.1 hj).1
    have hc := Lib.bytesWorld_cell W e s j hjl
    cases i with
    | zero =>
      have hv' : Value.int .u8 p = v := by simpa using hv
      subst hv'
      have hp : p = ((s.data.toList.getD j 0).toNat : Int) := by
        unfold bi at hj
        rw [List.getElem?_map] at hj
        obtain ⟨y, hy, rfl⟩ := Option.map_eq_some_iff.1 hj
        rw [List.getD_eq_getElem?_getD, hy]
        rfl
      rw [hp, ← hc]
      simp [Addr.add]
      by_cases h0 : j = 0
      · rw [if_pos h0, h0]
      · rw [if_neg h0]
    | succ i => simp at hv
  · unfold Lib.bytesCells
    rw [Array.size_append, Array.size_map]
    show s.size ≤ s.size + _
    omega
theorem sh_storeB {w0 W : World} {is : List HP} (HS : SH w0 W is) (hw : Region.wanted o (yielded ops a.tmps) = true) (hN : o.dst = none) {t : TypeId} {p x : Operand} (ho : o.op = .store t p x)
    {g i : Nat} (haddr : a.eval p = .pointer (some ⟨g, i, none⟩)) (n : Nat) {m : Nat} {e : TypeId} (hn : is[n]? = some (byI g m e)) {k : IntKind} {v : Int} (hx : a.eval x = .int k v)
    (ht : (P.info? t).map (·.size) = some 1) (hi : i < m)
    (h : ∀ w1, SH w0 w1 is → wpList P ops Q rest a w1) : WP P ops Q (o :: rest) a W := by
  obtain ⟨cs, q, hq, hcs, hh⟩ := HS.at n hn
  have hset : is.set n (byI g m e) = is := by
    apply List.ext_getElem?
    intro j
    rw [List.getElem?_set]
    by_cases hjn : n = j
    · subst hjn
      rw [if_pos rfl, if_pos (List.getElem?_eq_some_iff.1 hn).1, hn]
    · rw [if_neg hjn]
  have hcell : ∀ j, j < 1 → (W.cell? ⟨g, i + j, none⟩).isSome = true := fun j hj => by
    rw [cell_of_row W g _ cs e _ hh]
    simp
    omega
  have hfrz : ∀ j, j < 1 → W.frozen? ⟨g, i + j, none⟩ = false := fun j hj => by
    simp [World.frozen?, hh]
    omega
  have hst := run_storeCells_cells (P := P) g i [.int k v] 0 W (fun j hj => hcell j hj) (fun j hj => hfrz j hj) (by simp [Value.oneCell'])
  rw [Nat.add_zero] at hst
  obtain ⟨inf, hinf, hsz⟩ := Option.map_eq_some_iff.1 ht
  have hrun : (Instr.storeAt t (.pointer (some ⟨g, i, none⟩)) (.int k v)).run P W = .ok () (W.setCells g i [.int k v]) := by
    simp [Instr.storeAt, Instr.sureAddr, storeVar, sizeOf, typeInfo, hinf, hsz, Value.cells, hst]
  obtain ⟨s1, s2, s3, s4⟩ := setCells_same g [.int k v] i W
  have hnew : (W.setCells g i [.int k v]).heap[g]? = some (.cells (cs.setIfInBounds i (.int k v)) e (q, q + 1)) := by
    show (W.setCell ⟨g, i, none⟩ (.int k v)).heap[g]? = _
    simp [World.setCell, Array.getElem?_modify, hh]
  refine ⟨wpList_step fun K hK => ?_⟩
  rw [if_pos hw]
  unfold Oper.wp execOp
  simp only [ho, haddr, hx, Sem.run_bind, Sem.run_pure, Result.andThen_ok, hrun]
  show K (a.put o.dst undef) _
  rw [hN]
  have HU := HS.upd n hn (w1 := W.setCells g i [.int k v]) (i' := byI g m e) ⟨s1, s2, s3, by omega, fun b _ hb => setCells_far _ i b hb⟩ ⟨_, q, hq, by rw [Array.size_setIfInBounds, hcs], hnew⟩ (fun b hb => ⟨.inl hb, by
    cases hb
    rw [s4]
    exact (Array.getElem?_eq_some_iff.1 hh).1⟩)
  rw [hset] at HU
  exact hK a _ (h _ HU)
end
end Go.Proofs.YtgcgnhcjjlnloaaDoor.Dk
