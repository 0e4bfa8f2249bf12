/- Lemmas towards the law: what of the text DkM it needs. -/
import Derived.Test.YtgcgnhcjjlnloaaDoorDkCq
namespace Go.Proofs.YtgcgnhcjjlnloaaDoor.Dk
open Go.RowKit Go.Proofs.YtgcgnhcjjlnloaaDoorW.PrintWords Go.Proofs.YtgcgnhcjjlnloaaDoor.Sl
set_option linter.unusedVariables false
set_option linter.unusedSimpArgs false
section
variable {P : Program} {ops : Array Oper} {rest : List Oper} {o : Oper} {a : Act} {Q : Exit → Act → World → Prop}
theorem freeze_at {W : World} {g k : Nat} {cs : Array Value} {e : TypeId} (h : W.heap[g]? = some (.cells cs e (0, 0))) : (W.freeze ⟨g, k, none⟩ 1).heap[g]? = some (.cells cs e (k, k + 1)) := by
  unfold World.freeze
  rw [if_neg (by decide)]
  simp [Array.getElem?_modify, h]
theorem freeze_ne {W : World} {g k b : Nat} (hb : b ≠ g) : (W.freeze ⟨g, k, none⟩ 1).heap[b]? = W.heap[b]? := by
  unfold World.freeze
  rw [if_neg (by decide)]
  simp [Array.getElem?_modify, Ne.symm hb]
theorem freeze_size {W : World} {g k : Nat} : (W.freeze ⟨g, k, none⟩ 1).heap.size = W.heap.size := by
  unfold World.freeze
  rw [if_neg (by decide)]
  simp
theorem freeze_chg {W : World} {g k : Nat} : Chg (fun b => b = g) W (W.freeze ⟨g, k, none⟩ 1) :=
  ⟨by unfold World.freeze; rw [if_neg (by decide)], by unfold World.freeze; rw [if_neg (by decide)], by unfold World.freeze; rw [if_neg (by decide)], by rw [freeze_size]; exact Nat.le_refl _, fun b _ hb => freeze_ne hb⟩
theorem sh_mark {w0 W : World} {is : List HP} (HS : SH w0 W is) (hw : Region.wanted o (yielded ops a.tmps) = true) {t e e' : TypeId} {x : Operand} (ho : o.op = .convert t t x) {g k c : Nat} (hx : a.eval x = .slice (some ⟨g, 0, none⟩) k c) (n : Nat) {cs : List Value} (hn : is[n]? = some (blk g cs e)) (xs : List Int) (hcs : cs = xs.flatMap (ints .u8)) (hk : k = xs.length) (hm : xs.length ≤ 9223372036854775807)
    (ht : P.underlying t = some (.slice e')) (he : P.underlying e' = some (.int .u8))
    (h : ∀ w1, SH w0 w1 (is.set n (rdI (ints .u8) 1 (some ⟨g, 0, none⟩) k xs (fun b => b = g))) → wpList P ops Q rest (a.put o.dst (.slice (some ⟨g, 0, none⟩) k c)) w1) : WP P ops Q (o :: rest) a W := by
  have hb := HS.blk n hn
  have hrd := Rd.lit (ints_len .u8) hb hk hcs hm
  have hlt := (HS.each n _ hn).2 g rfl
  have hsh : W.shape? g = some (e, cs.toArray.size) := by unfold World.shape?; rw [hb]
  have hrun : (convert t t (.slice (some ⟨g, 0, none⟩) k c)).run P W = .ok (.slice (some ⟨g, 0, none⟩) k c) (W.freeze ⟨g, cs.toArray.size, none⟩ 1) := by
    simp [convert, run_underlying ht, run_underlying he, markStringish, hsh]
  refine ⟨run_step hw (v := .slice (some ⟨g, 0, none⟩) k c) (w1 := W.freeze ⟨g, cs.toArray.size, none⟩ 1) ?_ (h _ (HS.upd n hn freeze_chg ⟨?_, fun ad e' => by cases e'; rfl⟩ (fun b hb => by cases hb; exact ⟨.inl rfl, by rw [freeze_size]; exact hlt.2⟩)))⟩
  · unfold execOp
    simp only [ho, hx]
    simp [go_sem, hrun]
  · refine ⟨hrd.1, hrd.2.1, fun h0 => ?_⟩
    obtain ⟨ad, e1, hr⟩ := hrd.2.2 h0
    refine ⟨ad, e1, fun j p hj => ?_⟩
    obtain ⟨cs1, h1, h2, h3⟩ := hr j p hj
    refine ⟨cs1, h1, h2, fun i u hu => ?_⟩
    rw [← h3 i u hu]
    cases e1
    have hf := freeze_at (k := cs.toArray.size) hb
    simp only [World.cell?, Sl.add_block]
    show _ = _
    rw [hf, hb]
end
end Go.Proofs.YtgcgnhcjjlnloaaDoor.Dk
