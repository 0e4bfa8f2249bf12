/- Lemmas towards the law: what of the text Op3 it needs. -/
import Derived.Test.YtekjihmepdhmeaaOpq
import Derived.Test.YtekjihmepdhmeaaRows
namespace Go.Proofs.Ytekjihmepdhmeaa.Sl
open Go.RowKit Go.Proofs.YtekjihmepdhmeaaW.PrintWords Go.ChangeShapes Go.WideShapes
set_option linter.unusedVariables false
set_option linter.unusedSimpArgs false
def Sh.bulk : (s : Sh) → s.D → Nat
  | .int _, _ | .bool, _ => 1
  | .nil, _ => 0
  | .str, s => s.size + 1
  | .slice e s, l => (l.map s.bulk).sum + 1
  | .st s, x => s.bulk x + 1
  | .cons a b, x => a.bulk x.1 + b.bulk x.2
section
variable {H : Type} {enc : TypeId × Value → H} {P : Program} {w : World} {base : Nat} {spare : Nat → Bool} {held : Bool}
theorem sums_le {α : Type} {f : α → Nat} : ∀ (l : List α) (E : List (DataW H)), l.length = E.length → (∀ (i : Nat) (x : α) (y : DataW H), l[i]? = some x → E[i]? = some y → f x ≤ Rows.uptoBulk y) → (l.map f).sum ≤ Rows.uptoBulkAll E
  | [], [], _, _ => Nat.le_refl _
  | [], _ :: _, h, _ => by simp at h
  | _ :: _, [], h, _ => by simp at h
  | x :: l, y :: E, h, hp => by
    have h0 := hp 0 x y rfl rfl
    have h1 := sums_le l E (by simpa using h) (fun i a b ha hb => hp (i + 1) a b (by simpa using ha) (by simpa using hb))
    simp only [List.map_cons, List.sum_cons, Rows.uptoBulkAll]
    omega
/-- Down: what was read is of the shape. -/
theorem Sh.downB : ∀ (s : Sh) (o : Option TypeId) (fs : List Field) (off : Nat), s.fit P o fs off = true →
    (∀ t, o = some t → ∀ (fuel : Nat) (cs : List Value) (x : DataW H × List MemPlace), DataW.trod enc P w base spare held fuel t cs = some x →
      ∃ d : s.D, s.kd.K w d cs ∧ s.wf d ∧ ((DataW.weights P t x.1).all (· ≤ reachBytes) = true → s.sized P d) ∧ s.bulk d ≤ Rows.uptoBulk x.1) ∧
    (o = none → ∀ (n : Nat) (cs : List Value) (xs : List (DataW H × List MemPlace)), cs.length = off + s.sz → xs.length = fs.length →
      (∀ (i : Nat) (f : Field), fs[i]? = some f → DataW.trod enc P w base spare held n f.type ((cs.drop f.offset).take (P.cellsOf f.type)) = xs[i]?) →
      ∃ d : s.D, s.kd.K w d (cs.drop off) ∧ s.wf d ∧ ((DataW.weightsEach P (fs.map (·.type)) (xs.map (·.1))).all (· ≤ reachBytes) = true → s.sized P d) ∧ s.bulk d ≤ Rows.uptoBulkAll (xs.map (·.1))) := by
  intro s
  induction s with
  | int k =>
    intro o fs off hf
    cases o with
    | none => simp [Sh.fit] at hf
    | some t =>
      refine ⟨fun t' ht fuel cs x hx => ?_, fun h => by cases h⟩
      cases ht
      simp only [Sh.fit] at hf
      cases hu : P.underlying t with
      | none => simp [hu] at hf
      | some dd =>
        rw [hu] at hf
        cases dd <;> simp at hf
        subst hf
        obtain ⟨n, rfl, rfl, hw⟩ := DataW.trod_int hu hx
        exact ⟨n, rfl, hw, fun _ => trivial, Nat.le_refl _⟩
  | bool =>
    intro o fs off hf
    cases o with
    | none => simp [Sh.fit] at hf
    | some t =>
      refine ⟨fun t' ht fuel cs x hx => ?_, fun h => by cases h⟩
      cases ht
      simp only [Sh.fit] at hf
      cases hu : P.underlying t with
      | none => simp [hu] at hf
      | some dd =>
        rw [hu] at hf
        cases dd <;> simp at hf
        obtain ⟨n, rfl, rfl⟩ := DataW.trod_bool hu hx
        exact ⟨n, rfl, trivial, fun _ => trivial, Nat.le_refl _⟩
  | str =>
    intro o fs off hf
    cases o with
    | none => simp [Sh.fit] at hf
    | some t =>
      refine ⟨fun t' ht fuel cs x hx => ?_, fun h => by cases h⟩
      cases ht
      simp only [Sh.fit] at hf
      cases hu : P.underlying t with
      | none => simp [hu] at hf
      | some dd =>
        rw [hu] at hf
        cases dd <;> simp at hf
        obtain ⟨n, rfl, rfl, hw⟩ := DataW.trod_string hu hx
        have hnl : n.data.toList.length = n.size := by rw [Array.length_toList]; rfl
        refine ⟨n, rfl, hw, fun hz => ?_, by show n.size + 1 ≤ n.data.toList.length + 1; omega⟩
        simp only [DataW.weights, List.all_cons, List.all_nil, Bool.and_true, decide_eq_true_eq] at hz
        show n.size ≤ reachBytes
        have : n.data.toList.length = n.size := by rw [Array.length_toList]; rfl
        omega
  | slice e s ih =>
    intro o fs off hf
    cases o with
    | none => simp [Sh.fit] at hf
    | some t =>
      refine ⟨fun t' ht fuel cs x hx => ?_, fun h => by cases h⟩
      cases ht
      simp only [Sh.fit] at hf
      cases hu : P.underlying t with
      | none => simp [hu] at hf
      | some dd =>
        rw [hu] at hf
        cases dd with
        | slice e' =>
          simp only [Bool.and_eq_true, beq_iff_eq] at hf
          obtain ⟨⟨rfl, hce⟩, hfe⟩ := hf
          have ih' := (ih (some e) [] 0 hfe).1 e rfl
          rcases DataW.trod_slice hu hx with ⟨rfl, rfl⟩ | ⟨a, len, cap, elems, rest, n, rfl, rfl, rfl, hb, hl, hm, hlen, hel, _, _⟩
          · exact ⟨[], ⟨none, 0, rfl, Nat.le_refl _, rfl, by simp, fun h => by simp at h⟩, ⟨by simp, by simp⟩, fun _ => ⟨by simp, by simp⟩, Nat.le_refl _⟩
          · have hall : ∀ i, i < len → ∃ d : s.D, (∃ c, c.length = s.kd.sz ∧ s.kd.K w d c ∧ ∀ j u, c[j]? = some u → w.cell? (a.add (i * s.kd.sz + j)) = some u) ∧ s.wf d ∧ ∃ y, elems[i]? = some y ∧ ((DataW.weights P e y.1).all (· ≤ reachBytes) = true → s.sized P d) ∧ s.bulk d ≤ Rows.uptoBulk y.1 := by
              intro i hi
              have h1 := hel i hi
              have hi' : i < elems.length := by omega
              rw [List.getElem?_eq_getElem hi'] at h1
              obtain ⟨c, hc, ht⟩ := Option.bind_eq_some_iff.1 h1
              obtain ⟨hcl, hcell⟩ := cells?_get hc
              obtain ⟨d, hk, hw, hz, hbk⟩ := ih' n c _ ht
              refine ⟨d, ⟨c, by rw [hcl, hce, Sh.kd_sz], hk, fun j u hj => ?_⟩, hw, _, List.getElem?_eq_getElem hi', hz, hbk⟩
              have := hcell j u hj
              rw [add_add, hce, ← Sh.kd_sz] at this
              exact this
            obtain ⟨l, hll, hp⟩ := list_of_lt s.dflt hall
            have hat : ∀ j p, l[j]? = some p → j < len ∧ l.getD j s.dflt = p := fun j p hj => by
              have h1 := (List.getElem?_eq_some_iff.1 hj).1
              exact ⟨by omega, by rw [List.getD_eq_getElem?_getD, hj]; rfl⟩
            refine ⟨l, ⟨some a, cap, by rw [hll], by omega, rfl, by simp only [maxLen] at hm; omega, fun hn => ⟨a, rfl, fun j p hj => ?_⟩⟩, ⟨by simp only [maxLen] at hm ⊢; omega, fun x hx => ?_⟩, fun hz => ?_, ?_⟩
            · obtain ⟨hjl, rfl⟩ := hat j p hj
              exact (hp j hjl).1
            · obtain ⟨j, hj⟩ := List.getElem?_of_mem hx
              obtain ⟨hjl, rfl⟩ := hat j x hj
              exact (hp j hjl).2.1
            · simp only [DataW.weights, hu, List.all_cons, Bool.and_eq_true, decide_eq_true_eq, List.length_map] at hz
              refine ⟨?_, fun x hx => ?_⟩
              · have h1 : l.length * P.bytesOf e ≤ (elems.length + rest.length) * P.bytesOf e := Nat.mul_le_mul_right _ (by omega)
                exact Nat.le_trans h1 hz.1
              · obtain ⟨j, hj⟩ := List.getElem?_of_mem hx
                obtain ⟨hjl, rfl⟩ := hat j x hj
                obtain ⟨y, hy, hyz, _⟩ := (hp j hjl).2.2
                exact hyz (weightsAll_get (l := elems.map (·.1)) (i := j) (by rw [List.getElem?_map, hy]; rfl) (all_append hz.2).1)
            · have h1 := sums_le (f := s.bulk) l (elems.map (·.1)) (by rw [List.length_map]; omega) (fun i x y hx hy => by
                obtain ⟨hjl, rfl⟩ := hat i x hx
                obtain ⟨z, hz, _, hzb⟩ := (hp i hjl).2.2
                rw [List.getElem?_map, hz] at hy
                injection hy with hy
                subst hy
                exact hzb)
              show (l.map s.bulk).sum + 1 ≤ Rows.uptoBulk (DataW.slice (elems.map (·.1)) _)
              simp only [Rows.uptoBulk]
              omega
        | _ => simp at hf
  | st s ih =>
    intro o fs off hf
    cases o with
    | none => simp [Sh.fit] at hf
    | some t =>
      refine ⟨fun t' ht fuel cs x hx => ?_, fun h => by cases h⟩
      cases ht
      simp only [Sh.fit] at hf
      cases hu : P.underlying t with
      | none => simp [hu] at hf
      | some dd =>
        rw [hu] at hf
        cases dd with
        | struct fs' =>
          simp only [Bool.and_eq_true, beq_iff_eq] at hf
          obtain ⟨hce, hfe⟩ := hf
          obtain ⟨xs, n, rfl, rfl, hl, hlen, hp⟩ := DataW.trod_struct hu hx
          obtain ⟨d, hk, hw, hz, hbk⟩ := (ih none fs'.toList 0 hfe).2 rfl n cs xs (by omega) (by simpa using hlen) (fun i f hi => hp i f (by simpa using hi))
          exact ⟨d, (by rw [List.drop_zero] at hk; exact hk), hw, fun h => hz (by simpa [DataW.weights, hu] using h), by show s.bulk d + 1 ≤ Rows.uptoBulk (DataW.agg _); simp only [Rows.uptoBulk]; omega⟩
        | _ => simp at hf
  | cons a b iha ihb =>
    intro o fs off hf
    cases o with
    | some t => simp [Sh.fit] at hf
    | none =>
      refine ⟨fun t' ht => (by cases ht), fun _ n cs xs hcl hxl hp => ?_⟩
      cases fs with
      | nil => simp [Sh.fit] at hf
      | cons f fs =>
        simp only [Sh.fit, Bool.and_eq_true, beq_iff_eq] at hf
        obtain ⟨⟨⟨rfl, hca⟩, hfa⟩, hfb⟩ := hf
        cases xs with
        | nil => simp at hxl
        | cons x xs =>
          have h0 := hp 0 f rfl
          simp only [aI] at h0
          obtain ⟨d1, hk1, hw1, hz1, hb1⟩ := (iha (some f.type) [] 0 hfa).1 f.type rfl n _ x h0
          obtain ⟨d2, hk2, hw2, hz2, hb2⟩ := (ihb none fs (f.offset + a.sz) hfb).2 rfl n cs xs (by simp only [Sh.sz] at hcl; omega) (by simpa using hxl) (fun i g hi => by simpa using hp (i + 1) g (by simpa using hi))
          refine ⟨(d1, d2), ⟨_, _, ?_, hk1, hk2⟩, ⟨hw1, hw2⟩, fun h => ?_, ?_⟩
          · rw [hca, ← List.drop_drop, List.take_append_drop]
          · simp only [List.map_cons, DataW.weightsEach] at h
            exact ⟨hz1 (all_append h).1, hz2 (all_append h).2⟩
          · show a.bulk d1 + b.bulk d2 ≤ _
            simp only [List.map_cons, Rows.uptoBulkAll]
            omega
  | nil =>
    intro o fs off hf
    cases o with
    | some t => simp [Sh.fit] at hf
    | none =>
      refine ⟨fun t' ht => (by cases ht), fun _ n cs xs hcl hxl hp => ⟨(), ?_, trivial, fun _ => trivial, Nat.zero_le _⟩⟩
      show cs.drop off = []
      apply List.drop_of_length_le
      simp only [Sh.sz] at hcl
      omega
/-- An argument. -/
theorem Sh.argB (s : Sh) {t : TypeId} {v : Value} {d : DataW H} {p : List MemPlace} (hf : s.fit P (some t) [] 0 = true) (h : DataW.Trod enc P w base spare held t v d p) :
    ∃ x : s.D, s.kd.K w x v.cells.toList ∧ s.wf x ∧ ((DataW.weights P t d).all (· ≤ reachBytes) = true → s.sized P x) ∧ s.bulk x ≤ Rows.uptoBulk d := by
  obtain ⟨fuel, hf'⟩ := h
  exact (s.downB (some t) [] 0 hf).1 t rfl fuel _ _ hf'
end
end Go.Proofs.Ytekjihmepdhmeaa.Sl
