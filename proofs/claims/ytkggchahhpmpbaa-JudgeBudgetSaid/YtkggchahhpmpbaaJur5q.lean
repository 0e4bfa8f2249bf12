/- Lemmas towards the law: what of the text Jur5 it needs. -/
import Derived.Test.YtkggchahhpmpbaaJurLq
import Derived.Test.YtkggchahhpmpbaaJur0q
import Derived.Test.YtkggchahhpmpbaaJur2q
import Derived.Test.YtkggchahhpmpbaaJur4q
namespace Go.Proofs.Ytkggchahhpmpbaa.Jue
open Go.RowKit Go.Proofs.YtkggchahhpmpbaaW.PrintWords Go.Proofs.Ytkggchahhpmpbaa.Sl Go.Shelf Go.Sort
set_option linter.unusedVariables false
set_option linter.unusedSimpArgs false
section
variable {α : Type} [Inhabited α] {enc : α → List Value} {sz : Nat}
theorem flat_get (hl : ∀ x, (enc x).length = sz) (hs : 0 < sz) (xs : List α) (j : Nat) (hj : j < xs.length * sz) : (xs.flatMap enc)[j]? = (enc (xs.getD (j / sz) default))[j % sz]? := by
  have hd : j / sz < xs.length := Nat.div_lt_of_lt_mul (by rw [Nat.mul_comm]; exact hj)
  have hx : xs[j / sz]? = some (xs.getD (j / sz) default) := by rw [List.getD_eq_getElem?_getD, List.getElem?_eq_getElem hd]; rfl
  have h := (reps_flat hl xs).2 (j / sz) _ hx
  rw [← h, List.getElem?_take, if_pos (Nat.mod_lt _ hs), List.getElem?_drop]
  congr 1
  rw [Nat.mul_comm]
  exact (Nat.div_add_mod j sz).symm
theorem flatK_list (hl : ∀ x, (enc x).length = sz) (hs : 0 < sz) (xs : List α) : (flatK enc sz xs.toArray).toList = xs.flatMap enc := by
  apply List.ext_getElem?
  intro j
  by_cases hj : j < xs.length * sz
  · have hd : j / sz < xs.length := Nat.div_lt_of_lt_mul (by rw [Nat.mul_comm]; exact hj)
    rw [flat_get hl hs xs j hj]
    have h1 := get_flatK enc sz xs.toArray j (by simpa using hj)
    have hsz : j < (flatK enc sz xs.toArray).size := by simpa using hj
    rw [Array.getElem?_toList, Array.getElem?_eq_getElem hsz]
    rw [getElem!_pos _ j hsz] at h1
    rw [h1]
    have e1 : xs.toArray[j / sz]! = xs.getD (j / sz) default := by
      rw [getElem!_pos _ _ (by simpa using hd), List.getD_eq_getElem?_getD, List.getElem?_eq_getElem hd]
      simp
    rw [e1]
    have hm : j % sz < (enc (xs.getD (j / sz) default)).length := by rw [hl]; exact Nat.mod_lt _ hs
    rw [getElem!_pos (enc (xs.getD (j / sz) default)) (j % sz) hm, List.getElem?_eq_getElem hm]
  · rw [List.getElem?_eq_none, List.getElem?_eq_none]
    · rw [length_flat hl]; omega
    · simp; omega
theorem holdsK_of (hl : ∀ x, (enc x).length = sz) (hs : 0 < sz) {w : World} {g : Nat} {cur : Array Value} {e : TypeId} {xs : List α} (hb : w.heap[g]? = some (.cells cur e (0, 0))) (ht : cur.toList.take (xs.length * sz) = xs.flatMap enc) : HoldsK enc sz w g 0 xs.toArray := by
  intro j hj
  have hj' : j < xs.length * sz := by simpa using hj
  refine ⟨?_, by simp [World.frozen?, hb]⟩
  have h1 : (cur.toList.take (xs.length * sz))[j]? = (xs.flatMap enc)[j]? := by rw [ht]
  rw [List.getElem?_take_of_lt hj'] at h1
  rw [← flatK_list hl hs xs, Array.getElem?_toList, Array.getElem?_toList] at h1
  have hsz : j < (flatK enc sz xs.toArray).size := by simpa using hj'
  rw [Array.getElem?_eq_getElem hsz] at h1
  simp only [World.cell?, hb, Nat.zero_add, id]
  rw [getElem!_pos _ j hsz]
  simpa using h1
theorem sortedK (hl : ∀ x, (enc x).length = sz) (hs : 0 < sz) {w : World} {g n : Nat} {os : Array Obj} {cur : Array Value} {e : TypeId} {ys : List α} (hb : w.heap[g]? = some (.cells cur e (0, 0))) (hle : ys.length * sz ≤ cur.size) :
    (∃ cur' : Array Value, (sortWorldK enc sz w g 0 n ys.toArray os).heap[g]? = some (.cells cur' e (0, 0)) ∧ cur'.size = cur.size ∧ cur'.toList.take (ys.length * sz) = ys.flatMap enc) ∧ Chg (fun b => b = g) w (sortWorldK enc sz w g 0 n ys.toArray os) := by
  have hg : g < w.heap.size := (Array.getElem?_eq_some_iff.1 hb).1
  have hheap : (putRowK enc sz (Sort.ahead w n) g 0 ys.toArray).heap.size = w.heap.size := by simp [putRowK, putRow, mapBlock, Sort.ahead]
  refine ⟨⟨putCells id 0 (flatK enc sz ys.toArray) cur, ?_, by simp [putCells], ?_⟩, ⟨rfl, rfl, rfl, ?_, fun k hk hne => ?_⟩⟩
  · unfold sortWorldK
    rw [heap_grow_old _ _ (by rw [hheap]; exact hg)]
    simp [putRowK, putRow, mapBlock, Sort.ahead, Array.getElem?_modify, hb, onCells]
  · apply List.ext_getElem?
    intro j
    by_cases hj : j < ys.length * sz
    · rw [List.getElem?_take_of_lt hj, Array.getElem?_toList, ← flatK_list hl hs ys, Array.getElem?_toList]
      have hsz : j < (flatK enc sz ys.toArray).size := by simpa using hj
      rw [Array.getElem?_eq_getElem hsz]
      simp [putCells, hj, show j < cur.size by omega, getElem!_pos (flatK enc sz ys.toArray) j hsz]
    · rw [List.getElem?_take_eq_none (by omega), List.getElem?_eq_none (by rw [length_flat hl]; omega)]
  · unfold sortWorldK; simp [grow, hheap]
  · unfold sortWorldK
    rw [heap_grow_old _ _ (by rw [hheap]; exact hk)]
    simp [putRowK, putRow, mapBlock, Sort.ahead, Array.getElem?_modify, Ne.symm hne]
end
theorem ltOf_cmpC : ltOf cmpC = clt := by
  funext a b
  unfold ltOf cmpC cmpI clt
  rw [Bool.eq_iff_iff, decide_eq_true_eq, decide_eq_true_eq]
  by_cases h1 : a.1 < b.1
  · simp [h1]
  · by_cases h2 : b.1 < a.1
    · have : ¬ a.1 = b.1 := by omega
      simp [h1, h2, this]
    · have e : a.1 = b.1 := by omega
      simp only [h1, h2, if_false, e]
      by_cases h3 : a.2 < b.2
      · simp [h3]
      · by_cases h4 : b.2 < a.2 <;> simp [h3, h4]
theorem cltSWO : SWO clt := ⟨clt_irrefl, fun x y z h k => clt_trans h k, fun x y z h k => clt_ntrans h k⟩
theorem sortFunc_any {w0 w : World} {is : List HP} (HS : SH w0 w is) (n : Nat) {A : Option Addr} {c : Nat} {xs : List Cn} {S : Nat → Prop} (hn : is[n]? = some (row cnK 56 (.slice A xs.length c) xs S)) (hm : xs.length < 1000000) :
    Calls Try.prog 45 #[.slice A xs.length c, .func (.func 37) #[] #[]] w (fun e w' => e = .returned (.tuple #[]) ∧ SH w0 w' (is.set n (row cnK 56 (.slice A xs.length c) (sortC xs) S))) := by
  have hR := HS.at n hn
  obtain ⟨hS, inner, hown, hreps⟩ := hR
  have hcs : inner = xs.flatMap cnEnc := reps_flat_eq hreps
  subst hcs
  have hset : ∀ (L : List Cn), L = xs → is.set n (row cnK 56 (.slice A xs.length c) L S) = is := fun L hL => by
    rw [hL]
    apply List.ext_getElem?
    intro j
    rw [List.getElem?_set]
    split
    · rename_i e
      subst e
      rw [if_pos (List.getElem?_eq_some_iff.1 hn).1, hn]
    · rfl
  by_cases h0 : xs = []
  · subst h0
    refine (AnyF.slices_SortFunc_none { Try.sortCn with } A c (.func (.func 37) #[] #[]) w).mono ?_
    rintro e w' ⟨rfl, rfl⟩
    exact ⟨rfl, by rw [hset (sortC []) (by simp [sortC])]; exact HS⟩
  · rcases hown.2 with ⟨hv, hz⟩ | ⟨g, cap, cur, hv, hbase, hb, h1, h2, h3, h4⟩
    · exact absurd (List.eq_nil_of_length_eq_zero (by simpa using hz)) h0
    · simp only [Value.slice.injEq] at hv
      obtain ⟨rfl, _, rfl⟩ := hv
      have h3 : cur.size = c * 2 := h3
      have h4 : cur.toList.take (xs.length * 2) = xs.flatMap cnEnc := h4
      have hg : g < w.heap.size := (Array.getElem?_eq_some_iff.1 hb).1
      have eg : ∀ args w, (callFunc 37 args).run Try.prog w = .ok (.enter 37 args) w := enters_of Try.func37 (by kernel_rfl) rfl
      have hO : SWO (ltOf cmpC) := by rw [ltOf_cmpC]; exact cltSWO
      have hT : ∀ x y, (ltOf cmpC) x y = false → (ltOf cmpC) y x = false → x = y := by rw [ltOf_cmpC]; exact fun x y h k => clt_total h k
      have hcon := AnyQ.slices_SortFunc_total Try.sortCn 2 Try.isAgg56 Try.sizeOf56 cnEnc cnLen (fun x v hv => by simp [cnEnc] at hv; rcases hv with rfl | rfl <;> rfl) cmpC hO 37 #[] g 0 c xs.toArray w eg (fun _ _ _ _ x y => cmp_any x y _) (holdsK_of cnLen (by decide) hb (by simpa using h4)) hg (by simp; omega) hT
      refine hcon.mono ?_
      rintro e w' ⟨rfl, nn, os, rfl⟩
      refine ⟨rfl, ?_⟩
      have hys : (xs.toArray.toList.mergeSort fun x y => !(ltOf cmpC) y x) = sortC xs := by rw [ltOf_cmpC]; rfl
      rw [hys]
      have hlen := sortC_len xs
      obtain ⟨⟨cur', hb', hs', ht'⟩, hchg⟩ := sortedK (n := nn) (os := os) (ys := sortC xs) cnLen (by decide) hb (by rw [hlen, h3]; omega)
      refine HS.upd n hn (hchg.mono (fun k _ e => hS k (by rw [e]; rfl))) ⟨hS, (sortC xs).flatMap cnEnc, ⟨by rw [length_flat cnLen]; rfl, .inr ⟨g, c, cur', by rw [hlen], Nat.zero_le _, hb', by rw [hlen]; exact h1, h2, by rw [hs', h3]; rfl, ht'⟩⟩, reps_flat cnLen _⟩ (fun b hb => ⟨.inl hb, ?_⟩)
      have := ((HS.each n _ hn).2 b hb).2
      have := hchg.size
      omega
end Go.Proofs.Ytkggchahhpmpbaa.Jue
