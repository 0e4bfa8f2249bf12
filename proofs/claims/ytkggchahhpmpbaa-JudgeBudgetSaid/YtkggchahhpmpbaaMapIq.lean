/- Lemmas towards the law: what of the text MapI it needs. -/
import Derived.Test.YtkggchahhpmpbaaMapRq
import Derived.RangeFuncNested
import Derived.RangeFuncBound
import Derived.RangeFuncCalls
import Derived.RangeFuncLeaves
import Derived.Shelf.Abstract
import Derived.Shelf.RegionOpen
import Derived.WalkKit
import Derived.OwnWalkIn
import Derived.TacticsInMore
import Derived.LoopNIn
import Derived.LoopIn
import Derived.Sort.MapsRangeIn
import Derived.Maps.AppendAt
namespace Go.Proofs.Ytkggchahhpmpbaa.Sl
open Go.RowKit Go.Proofs.YtkggchahhpmpbaaW.PrintWords
set_option linter.unusedVariables false
set_option linter.unusedSimpArgs false
set_option linter.unusedSectionVars false
section
variable {F : Fence} {n : Nat} {P : Program} {κ ν : Type} [DecidableEq κ] {kt : TypeId} {enc : κ → Value} {encV : ν → Value} {q : κ → Prop}
variable {ops : Array Oper} {rest : List Oper} {o : Oper} {a : Act} {Q : Exit → Act → World → Prop}
theorem rangeIn {W : World} (hg : o.guard = none) (m : Operand) (t : TypeId) (hop : o.op = .range t m) {g : Nat} (hm : a.eval m = .map (some g)) {mm : List (κ × ν)} (hok : (mp g enc encV q mm).ok W) {et : TypeId} (ht : P.underlying t = some (.map kt et))
    (h : ∀ w1, (mpr g W.heap.size enc encV q mm (keysOf mm)).ok w1 → W.grownBy w1 none → w1.heap.size = W.heap.size + 1 → wpListIn F n P ops Q rest (a.put o.dst (.pointer (some ⟨W.heap.size, 0, none⟩))) w1) : wpListIn F n P ops Q (o :: rest) a W := by
  obtain ⟨es, clock, hh, hp, hqs, hb, hnd⟩ := hok
  have hgl : g < W.heap.size := (Array.getElem?_eq_some_iff.1 hh).1
  have hkeys : (es.toList.filter (fun e => !(#[] : Array Nat).contains e.born)).map (·.key) = (keysOf mm).map enc := by
    have e1 : es.toList.filter (fun e => !(#[] : Array Nat).contains e.born) = es.toList := List.filter_eq_self.2 (fun x _ => by simp)
    rw [e1]
    have h2 := congrArg (List.map Prod.fst) hp
    simpa [pairs, encP, keysOf, List.map_map, Function.comp_def] using h2
  have hgo : (W.alloc (.mapIter (some g) clock #[] clock)).heap[g]? = some (.map es clock) := ((MapKept.heap_alloc W _).2 g hgl).trans hh
  have hrun := Go.run_range_map W t kt et g es clock ht hh
  refine wpListIn_plain hg fun K' hK' => ?_
  unfold Oper.wpIn
  refine ⟨by simp [Oper.about, hop], ?_⟩
  rw [Oper.semAt_plain F _ _ (by rw [hop]; intro c hc'; cases hc')]
  simp [execOp, hop, hm, hrun, Result.andThen]
  exact hK' _ _ (h _ ⟨by omega, es, clock, clock, #[], clock, hgo, heap_alloc_new _ _, hp, hqs, hb, hnd, hb, Nat.le_refl _, Nat.le_refl _, hkeys⟩ (World.grownBy_alloc W _ none) (by simp))
theorem nextIn {W : World} (hg : o.guard = none) (it : Operand) (hop : o.op = .next it false) {r : Nat} (hit : a.eval it = .pointer (some ⟨r, 0, none⟩)) {g : Nat} {mm : List (κ × ν)} {left : List κ} (hok : (mpr g r enc encV q mm left).ok W) (hinj : ∀ x y, enc x = enc y → x = y)
    (h0 : left = [] → wpListIn F n P ops Q rest (a.put o.dst (.tuple #[.bool false])) W)
    (h1 : ∀ k v l1 l2 w1, left = l1 ++ k :: l2 → (k, v) ∈ mm → (mpr g r enc encV q mm (l1 ++ l2)).ok w1 → W.grownBy w1 (some r) → w1.heap.size = W.heap.size → (Instr.entry (.pointer (some ⟨r, 0, none⟩))).run P w1 = .ok (.tuple #[enc k, encV v]) w1 → wpListIn F n P ops Q rest (a.put o.dst (.tuple #[.bool true, enc k, encV v])) w1) : wpListIn F n P ops Q (o :: rest) a W := by
  obtain ⟨hne, es, clock, since, seen, c0, hh, hr, hp, hqs, hb, hnd, hs1, hs2, hs3, hleft⟩ := hok
  have hgl : g < W.heap.size := (Array.getElem?_eq_some_iff.1 hh).1
  have hrl : r < W.heap.size := (Array.getElem?_eq_some_iff.1 hr).1
  have hlo : (Go.leftOf es seen).toList = es.toList.filter (fun e => !seen.contains e.born) := by simp [Go.leftOf]
  refine wpListIn_plain hg fun K' hK' => ?_
  unfold Oper.wpIn
  refine ⟨by simp [Oper.about, hop], ?_⟩
  rw [Oper.semAt_plain F _ _ (by rw [hop]; intro c hc'; cases hc')]
  rcases Go.run_next_at (P := P) W o.type r g since c0 seen es clock hr hh hs1 hs2 with ⟨hz, hrun⟩ | ⟨e, he, w1, hal, hrun⟩
  · have hl0 : left = [] := by
      have : (Go.leftOf es seen).toList = [] := List.eq_nil_of_length_eq_zero (by simpa using hz)
      rw [hlo] at this
      rw [this] at hleft
      cases left with
      | nil => rfl
      | cons x l => simp at hleft
    simp [execOp, hop, hit, hrun, Result.andThen]
    exact hK' _ _ (h0 hl0)
  · rw [hlo] at he
    obtain ⟨l1, l2, hs, hs'⟩ := split_filter seen hnd he
    rw [hs, List.map_append, List.map_cons] at hleft
    obtain ⟨k1, k2, hk, hk1, hk2⟩ := List.append_eq_map_iff.1 hleft
    obtain ⟨k, k3, rfl, hke0, hk3⟩ := List.map_eq_cons_iff.1 hk2
    have hke := hke0.symm
    have hem : e ∈ es.toList := (List.mem_filter.1 he).1
    obtain ⟨v, hv, hev⟩ : ∃ v, (k, v) ∈ mm ∧ e.val = encV v := by
      have : (e.key, e.val) ∈ pairs es.toList := List.mem_map.2 ⟨e, hem, rfl⟩
      rw [hp] at this
      obtain ⟨p, hp1, hp2⟩ := List.mem_map.1 this
      injection hp2 with h3 h4
      have : p.1 = k := hinj _ _ (h3.trans hke)
      exact ⟨p.2, by rw [← this]; exact hp1, h4.symm⟩
    have hbel : Below W.heap.size W w1 := by
      rcases hal with rfl | rfl
      · exact Below.refl _ _
      · exact below_drew (Below.refl _ _)
    have hh1 : w1.heap[g]? = some (.map es clock) := (hbel.block g hgl).trans hh
    have hr1 : w1.heap[r]? = some (.mapIter (some g) since seen c0) := (hbel.block r hrl).trans hr
    have hr2 : (Go.ChangeMaps.setBlock w1 r (.mapIter (some g) since (seen.push e.born) clock)).heap[r]? = some (.mapIter (some g) since (seen.push e.born) clock) := Array.getElem?_setIfInBounds_self_of_lt (Array.getElem?_eq_some_iff.1 hr1).1
    have hh2 : (Go.ChangeMaps.setBlock w1 r (.mapIter (some g) since (seen.push e.born) clock)).heap[g]? = some (.map es clock) := by
      show (w1.heap.setIfInBounds r _)[g]? = _
      rw [Array.getElem?_setIfInBounds_ne (fun e => hne e.symm)]; exact hh1
    have hsz : w1.heap.size = W.heap.size := by rcases hal with rfl | rfl <;> rfl
    have hgr : W.grownBy (Go.ChangeMaps.setBlock w1 r (.mapIter (some g) since (seen.push e.born) clock)) (some r) := by
      refine ⟨hbel.os, hbel.tape, hbel.output, by simp [Go.ChangeMaps.setBlock]; omega, fun k hk hne => ?_⟩
      show (w1.heap.setIfInBounds r _)[k]? = _
      rw [Array.getElem?_setIfInBounds_ne (fun e => hne (by rw [e]))]
      exact hbel.block k hk
    simp [execOp, hop, hit, hrun, Result.andThen]
    rw [hke, hev]
    refine hK' _ _ (h1 k v k1 k3 _ hk hv ⟨hne, es, clock, since, seen.push e.born, clock, hh2, hr2, hp, hqs, hb, hnd, hs1, hs3, hs3, ?_⟩ hgr (by simp [Go.ChangeMaps.setBlock]; omega) ?_)
    · rw [hs', List.map_append, List.map_append, hk1, hk3]
    · have := Go.run_entry_at (P := P) _ r g since seen es clock e hr2 hh2 hem hnd
      rw [hke, hev] at this
      exact this
theorem mpr_keeps {W W' : World} {g r : Nat} {mm : List (κ × ν)} {left : List κ} (h : (mpr g r enc encV q mm left).ok W) (hk : KeepsWalks W W') : (mpr g r enc encV q mm left).ok W' := by
  obtain ⟨hne, es, clock, since, seen, c0, h1, h2, h3⟩ := h
  exact ⟨hne, es, clock, since, seen, c0, hk.same _ _ h1 rfl, hk.same _ _ h2 rfl, h3⟩
theorem mpr_alloc {W : World} {g r : Nat} {mm : List (κ × ν)} {left : List κ} (h : (mpr g r enc encV q mm left).ok W) (o : Obj) : (mpr g r enc encV q mm left).ok (W.alloc o) := mpr_keeps h (KeepsWalks.alloc _ _)
/-- how many entries are still to come -/
def leftN (w : World) (g r : Nat) : Nat :=
  match w.heap[g]?, w.heap[r]? with
  | some (.map es _), some (.mapIter _ _ seen _) => (Go.leftOf es seen).size
  | _, _ => 0
theorem leftN_eq {w : World} {g r : Nat} {m : List (κ × ν)} {left : List κ} (hok : (mpr g r enc encV q m left).ok w) : leftN w g r = left.length := by
  obtain ⟨_, es, clock, since, seen, c0, h1, h2, _, _, _, _, _, _, _, h⟩ := hok
  simp only [leftN, h1, h2]
  have := congrArg List.length h
  rw [List.length_map, List.length_map] at this
  rw [← this, ← Array.length_toList]
  simp [Go.leftOf]
/-- the iterator's walk is one that an invariant abides -/
theorem mpr_walk {W : World} {g r : Nat} {mm : List (κ × ν)} {left : List κ} (h : (mpr g r enc encV q mm left).ok W) : ∃ o : Obj, W.heap[r]? = some o ∧ o.isWalk = true := by
  obtain ⟨hne, es, clock, since, seen, c0, h1, h2, h3⟩ := h
  exact ⟨_, h2, rfl⟩
theorem mp_below' {W W' : World} {g : Nat} {mm : List (κ × ν)} (h : (mp g enc encV q mm).ok W) (hb : Below W.heap.size W W') : (mp g enc encV q mm).ok W' := by
  obtain ⟨es, clock, h1, h2⟩ := h
  exact ⟨es, clock, (hb.block g (Array.getElem?_eq_some_iff.1 h1).1).trans h1, h2⟩
end
end Go.Proofs.Ytkggchahhpmpbaa.Sl
