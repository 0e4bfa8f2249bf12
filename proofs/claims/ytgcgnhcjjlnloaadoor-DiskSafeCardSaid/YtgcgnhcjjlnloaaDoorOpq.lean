/- Lemmas towards the law: what of the text Op it needs. -/
import Derived.Test.YtgcgnhcjjlnloaaDoorSlq
import Derived.ChangeArms
import Derived.ProofKit
import Derived.SizedLaws
import Derived.Lib.SmallJoins
namespace Go.Proofs.YtgcgnhcjjlnloaaDoor.Sl
open Go.RowKit Go.Proofs.YtgcgnhcjjlnloaaDoorW.PrintWords Go.ChangeShapes Go.WideShapes
set_option linter.unusedVariables false
set_option linter.unusedSimpArgs false
/-- Shapes of types: 'st s': a struct whose fields are s, a spine of 'cons' that ends in 'nil'. -/
inductive Sh where
  | int (k : IntKind)
  | bool
  | str
  | slice (e : TypeId) (s : Sh)
  | st (s : Sh)
  | cons (a b : Sh)
  | nil
@[reducible] def Sh.D : Sh → Type
  | .int _ => Int
  | .bool => Bool
  | .str => ByteArray
  | .slice _ s => List s.D
  | .st s => s.D
  | .cons a b => a.D × b.D
  | .nil => Unit
def Sh.dflt : (s : Sh) → s.D
  | .int _ => (0 : Int)
  | .bool => false
  | .str => ByteArray.empty
  | .slice _ _ => []
  | .st s => s.dflt
  | .cons a b => (a.dflt, b.dflt)
  | .nil => ()
def unitK : Kd Unit where
  sz := 0
  E := []
  K := fun _ _ cs => cs = []
  M := fun _ _ _ _ cs => cs = []
  K_len := fun h => by rw [h]; rfl
  K_one := fun h u hu => by rw [h] at hu; cases hu
  K_below := fun _ h => h
  K_of_M := fun h => h
  M_mono := fun _ h => h
  M_bound := fun h => h
  M_move := fun _ h => h
  M_lower := fun _ h => h
def Sh.kd : (s : Sh) → Kd s.D
  | .int k => Kd.int k
  | .bool => Kd.bool
  | .str => Kd.string
  | .slice e s => Kd.slice e s.kd
  | .st s => s.kd
  | .cons a b => Kd.pair a.kd b.kd
  | .nil => unitK
def Sh.sz : Sh → Nat
  | .int _ | .bool | .str | .slice _ _ => 1
  | .st s => s.sz
  | .cons a b => a.sz + b.sz
  | .nil => 0
theorem Sh.kd_sz : ∀ s : Sh, s.kd.sz = s.sz
  | .int _ | .bool | .str | .slice _ _ => rfl
  | .st s => Sh.kd_sz s
  | .cons a b => by
    show a.kd.sz + b.kd.sz = _
    rw [Sh.kd_sz a, Sh.kd_sz b]; rfl
  | .nil => rfl
def Sh.wf : (s : Sh) → s.D → Prop
  | .int k, n => (Lit.int k n).wf = true
  | .bool, _ => True
  | .str, s => s.size ≤ maxLen
  | .slice _ s, l => l.length ≤ maxLen ∧ ∀ x ∈ l, s.wf x
  | .st s, x => s.wf x
  | .cons a b, x => a.wf x.1 ∧ b.wf x.2
  | .nil, _ => True
def Sh.sized (P : Program) : (s : Sh) → s.D → Prop
  | .int _, _ | .bool, _ | .nil, _ => True
  | .str, s => s.size ≤ reachBytes
  | .slice e s, l => l.length * P.bytesOf e ≤ reachBytes ∧ ∀ x ∈ l, s.sized P x
  | .st s, x => s.sized P x
  | .cons a b, x => a.sized P x.1 ∧ b.sized P x.2
/-- 'none': the fields fs from offset off on; 'some t': a type. -/
def Sh.fit (P : Program) : Sh → Option TypeId → List Field → Nat → Bool
  | .int k, some t, _, _ => match P.underlying t with | some (.int k') => k == k' | _ => false
  | .bool, some t, _, _ => match P.underlying t with | some .bool => true | _ => false
  | .str, some t, _, _ => match P.underlying t with | some .string => true | _ => false
  | .slice e s, some t, _, _ => match P.underlying t with | some (.slice e') => e == e' && P.cellsOf e == s.sz && s.fit P (some e) [] 0 | _ => false
  | .st s, some t, _, _ => match P.underlying t with | some (.struct fs) => P.cellsOf t == s.sz && s.fit P none fs.toList 0 | _ => false
  | .cons a b, none, f :: fs, off => f.offset == off && P.cellsOf f.type == a.sz && a.fit P (some f.type) [] 0 && b.fit P none fs (off + a.sz)
  | .nil, none, [], _ => true
  | _, _, _, _ => false
theorem cells?_get {w : World} {base : Nat} {a : Addr} {n : Nat} {cs : List Value} (h : w.cells? base a n = some cs) : cs.length = n ∧ ∀ j u, cs[j]? = some u → w.cell? (a.add j) = some u := by
  unfold World.cells? at h
  split at h
  · have hl := mapM_some_length h
    simp at hl
    refine ⟨hl, fun j u hj => ?_⟩
    have hlt := (List.getElem?_eq_some_iff.1 hj).1
    have := mapM_some_get h j j (by rw [List.getElem?_range (by omega)])
    rw [this]; exact hj
  · cases h
section
variable {H : Type} {enc : TypeId × Value → H} {P : Program} {w : World} {base : Nat} {spare : Nat → Bool} {held : Bool}
theorem list_of_lt {α : Type} (z : α) {n : Nat} {p : Nat → α → Prop} (h : ∀ i, i < n → ∃ x, p i x) : ∃ l : List α, l.length = n ∧ ∀ i, i < n → p i (l.getD i z) := by
  classical
  refine ⟨(List.range n).map (fun i => if hi : i < n then Classical.choose (h i hi) else z), by simp, fun i hi => ?_⟩
  have h1 : ((List.range n).map (fun i => if hi : i < n then Classical.choose (h i hi) else z)).getD i z = Classical.choose (h i hi) := by
    rw [List.getD_eq_getElem?_getD, List.getElem?_map, List.getElem?_range hi]
    simp [hi]
  rw [h1]
  exact Classical.choose_spec (h i hi)
theorem all_append {l m : List Nat} (h : (l ++ m).all (· ≤ reachBytes) = true) : l.all (· ≤ reachBytes) = true ∧ m.all (· ≤ reachBytes) = true := by
  rw [List.all_append, Bool.and_eq_true] at h
  exact h
theorem weightsAll_get {e : TypeId} : ∀ {l : List (DataW H)} {i : Nat} {y : DataW H}, l[i]? = some y → (DataW.weightsAll P e l).all (· ≤ reachBytes) = true → (DataW.weights P e y).all (· ≤ reachBytes) = true
  | [], _, _, h, _ => by simp at h
  | x :: l, 0, y, h, k => by
    simp at h
    subst h
    exact (all_append (by simpa [DataW.weightsAll] using k)).1
  | x :: l, i + 1, y, h, k => by
    simp at h
    exact weightsAll_get h (all_append (l := DataW.weights P e x) (by simpa [DataW.weightsAll] using k)).2
/-- Down: what was read is of the shape. -/
theorem Sh.down : ∀ (s : Sh) (o : Option TypeId) (fs : List Field) (off : Nat), s.fit P o fs off = true →
    (∀ t, o = some t → ∀ (fuel : Nat) (cs : List Value) (x : DataW H × List MemPlace), DataW.trod enc P w base spare held fuel t cs = some x →
      ∃ d : s.D, s.kd.K w d cs ∧ s.wf d ∧ ((DataW.weights P t x.1).all (· ≤ reachBytes) = true → s.sized P d)) ∧
    (o = none → ∀ (n : Nat) (cs : List Value) (xs : List (DataW H × List MemPlace)), cs.length = off + s.sz → xs.length = fs.length →
      (∀ (i : Nat) (f : Field), fs[i]? = some f → DataW.trod enc P w base spare held n f.type ((cs.drop f.offset).take (P.cellsOf f.type)) = xs[i]?) →
      ∃ d : s.D, s.kd.K w d (cs.drop off) ∧ s.wf d ∧ ((DataW.weightsEach P (fs.map (·.type)) (xs.map (·.1))).all (· ≤ reachBytes) = true → s.sized P d)) := by
  intro s
  induction s with
  | int k =>
    intro o fs off hf
    cases o with
    | none => simp [Sh.fit] at hf
    | some t =>
      refine ⟨fun t' ht fuel cs x hx => ?_, fun h => by cases h⟩
      cases ht
      simp only [Sh.fit] at hf
      cases hu : P.underlying t with
      | none => simp [hu] at hf
      | some dd =>
        rw [hu] at hf
        cases dd <;> simp at hf
        subst hf
        obtain ⟨n, rfl, rfl, hw⟩ := DataW.trod_int hu hx
        exact ⟨n, rfl, hw, fun _ => trivial⟩
  | bool =>
    intro o fs off hf
    cases o with
    | none => simp [Sh.fit] at hf
    | some t =>
      refine ⟨fun t' ht fuel cs x hx => ?_, fun h => by cases h⟩
      cases ht
      simp only [Sh.fit] at hf
      cases hu : P.underlying t with
      | none => simp [hu] at hf
      | some dd =>
        rw [hu] at hf
        cases dd <;> simp at hf
        obtain ⟨n, rfl, rfl⟩ := DataW.trod_bool hu hx
        exact ⟨n, rfl, trivial, fun _ => trivial⟩
  | str =>
    intro o fs off hf
    cases o with
    | none => simp [Sh.fit] at hf
    | some t =>
      refine ⟨fun t' ht fuel cs x hx => ?_, fun h => by cases h⟩
      cases ht
      simp only [Sh.fit] at hf
      cases hu : P.underlying t with
      | none => simp [hu] at hf
      | some dd =>
        rw [hu] at hf
        cases dd <;> simp at hf
        obtain ⟨n, rfl, rfl, hw⟩ := DataW.trod_string hu hx
        refine ⟨n, rfl, hw, fun hz => ?_⟩
        simp only [DataW.weights, List.all_cons, List.all_nil, Bool.and_true, decide_eq_true_eq] at hz
        show n.size ≤ reachBytes
        have : n.data.toList.length = n.size := by rw [Array.length_toList]; rfl
        omega
  | slice e s ih =>
    intro o fs off hf
    cases o with
    | none => simp [Sh.fit] at hf
    | some t =>
      refine ⟨fun t' ht fuel cs x hx => ?_, fun h => by cases h⟩
      cases ht
      simp only [Sh.fit] at hf
      cases hu : P.underlying t with
      | none => simp [hu] at hf
      | some dd =>
        rw [hu] at hf
        cases dd with
        | slice e' =>
          simp only [Bool.and_eq_true, beq_iff_eq] at hf
          obtain ⟨⟨rfl, hce⟩, hfe⟩ := hf
          have ih' := (ih (some e) [] 0 hfe).1 e rfl
          rcases DataW.trod_slice hu hx with ⟨rfl, rfl⟩ | ⟨a, len, cap, elems, rest, n, rfl, rfl, rfl, hb, hl, hm, hlen, hel, _, _⟩
          · exact ⟨[], ⟨none, 0, rfl, Nat.le_refl _, rfl, by simp, fun h => by simp at h⟩, ⟨by simp, by simp⟩, fun _ => ⟨by simp, by simp⟩⟩
          · have hall : ∀ i, i < len → ∃ d : s.D, (∃ c, c.length = s.kd.sz ∧ s.kd.K w d c ∧ ∀ j u, c[j]? = some u → w.cell? (a.add (i * s.kd.sz + j)) = some u) ∧ s.wf d ∧ ∃ y, elems[i]? = some y ∧ ((DataW.weights P e y.1).all (· ≤ reachBytes) = true → s.sized P d) := by
              intro i hi
              have h1 := hel i hi
              have hi' : i < elems.length := by omega
              rw [List.getElem?_eq_getElem hi'] at h1
              obtain ⟨c, hc, ht⟩ := Option.bind_eq_some_iff.1 h1
              obtain ⟨hcl, hcell⟩ := cells?_get hc
              obtain ⟨d, hk, hw, hz⟩ := ih' n c _ ht
              refine ⟨d, ⟨c, by rw [hcl, hce, Sh.kd_sz], hk, fun j u hj => ?_⟩, hw, _, List.getElem?_eq_getElem hi', hz⟩
              have := hcell j u hj
              rw [add_add, hce, ← Sh.kd_sz] at this
              exact this
            obtain ⟨l, hll, hp⟩ := list_of_lt s.dflt hall
            have hat : ∀ j p, l[j]? = some p → j < len ∧ l.getD j s.dflt = p := fun j p hj => by
              have h1 := (List.getElem?_eq_some_iff.1 hj).1
              exact ⟨by omega, by rw [List.getD_eq_getElem?_getD, hj]; rfl⟩
            refine ⟨l, ⟨some a, cap, by rw [hll], by omega, rfl, by simp only [maxLen] at hm; omega, fun hn => ⟨a, rfl, fun j p hj => ?_⟩⟩, ⟨by simp only [maxLen] at hm ⊢; omega, fun x hx => ?_⟩, fun hz => ?_⟩
            · obtain ⟨hjl, rfl⟩ := hat j p hj
              exact (hp j hjl).1
            · obtain ⟨j, hj⟩ := List.getElem?_of_mem hx
              obtain ⟨hjl, rfl⟩ := hat j x hj
              exact (hp j hjl).2.1
            · simp only [DataW.weights, hu, List.all_cons, Bool.and_eq_true, decide_eq_true_eq, List.length_map] at hz
              refine ⟨?_, fun x hx => ?_⟩
              · have h1 : l.length * P.bytesOf e ≤ (elems.length + rest.length) * P.bytesOf e := Nat.mul_le_mul_right _ (by omega)
                exact Nat.le_trans h1 hz.1
              · obtain ⟨j, hj⟩ := List.getElem?_of_mem hx
                obtain ⟨hjl, rfl⟩ := hat j x hj
                obtain ⟨y, hy, hyz⟩ := (hp j hjl).2.2
                exact hyz (weightsAll_get (l := elems.map (·.1)) (i := j) (by rw [List.getElem?_map, hy]; rfl) (all_append hz.2).1)
        | _ => simp at hf
  | st s ih =>
    intro o fs off hf
    cases o with
    | none => simp [Sh.fit] at hf
    | some t =>
      refine ⟨fun t' ht fuel cs x hx => ?_, fun h => by cases h⟩
      cases ht
      simp only [Sh.fit] at hf
      cases hu : P.underlying t with
      | none => simp [hu] at hf
      | some dd =>
        rw [hu] at hf
        cases dd with
        | struct fs' =>
          simp only [Bool.and_eq_true, beq_iff_eq] at hf
          obtain ⟨hce, hfe⟩ := hf
          obtain ⟨xs, n, rfl, rfl, hl, hlen, hp⟩ := DataW.trod_struct hu hx
          obtain ⟨d, hk, hw, hz⟩ := (ih none fs'.toList 0 hfe).2 rfl n cs xs (by omega) (by simpa using hlen) (fun i f hi => hp i f (by simpa using hi))
          exact ⟨d, (by rw [List.drop_zero] at hk; exact hk), hw, fun h => hz (by simpa [DataW.weights, hu] using h)⟩
        | _ => simp at hf
  | cons a b iha ihb =>
    intro o fs off hf
    cases o with
    | some t => simp [Sh.fit] at hf
    | none =>
      refine ⟨fun t' ht => (by cases ht), fun _ n cs xs hcl hxl hp => ?_⟩
      cases fs with
      | nil => simp [Sh.fit] at hf
      | cons f fs =>
        simp only [Sh.fit, Bool.and_eq_true, beq_iff_eq] at hf
        obtain ⟨⟨⟨rfl, hca⟩, hfa⟩, hfb⟩ := hf
        cases xs with
        | nil => simp at hxl
        | cons x xs =>
          have h0 := hp 0 f rfl
          simp only [aI] at h0
          obtain ⟨d1, hk1, hw1, hz1⟩ := (iha (some f.type) [] 0 hfa).1 f.type rfl n _ x h0
          obtain ⟨d2, hk2, hw2, hz2⟩ := (ihb none fs (f.offset + a.sz) hfb).2 rfl n cs xs (by simp only [Sh.sz] at hcl; omega) (by simpa using hxl) (fun i g hi => by simpa using hp (i + 1) g (by simpa using hi))
          refine ⟨(d1, d2), ⟨_, _, ?_, hk1, hk2⟩, ⟨hw1, hw2⟩, fun h => ?_⟩
          · rw [hca, ← List.drop_drop, List.take_append_drop]
          · simp only [List.map_cons, DataW.weightsEach] at h
            exact ⟨hz1 (all_append h).1, hz2 (all_append h).2⟩
  | nil =>
    intro o fs off hf
    cases o with
    | some t => simp [Sh.fit] at hf
    | none =>
      refine ⟨fun t' ht => (by cases ht), fun _ n cs xs hcl hxl hp => ⟨(), ?_, trivial, fun _ => trivial⟩⟩
      show cs.drop off = []
      apply List.drop_of_length_le
      simp only [Sh.sz] at hcl
      omega
/-- An argument. -/
theorem Sh.arg (s : Sh) {t : TypeId} {v : Value} {d : DataW H} {p : List MemPlace} (hf : s.fit P (some t) [] 0 = true) (h : DataW.Trod enc P w base spare held t v d p) :
    ∃ x : s.D, s.kd.K w x v.cells.toList ∧ s.wf x ∧ ((DataW.weights P t d).all (· ≤ reachBytes) = true → s.sized P x) := by
  obtain ⟨fuel, hf'⟩ := h
  exact (s.down (some t) [] 0 hf).1 t rfl fuel _ _ hf'
theorem weights_of {ts : List TypeId} {ds : List (DataW H)} (h : (DataW.weightsEach P ts ds).all (· ≤ reachBytes) = true) {j : Nat} {t : TypeId} {d : DataW H} (ht : ts[j]? = some t) (hd : ds[j]? = some d) : (DataW.weights P t d).all (· ≤ reachBytes) = true := by
  apply List.all_eq_true.2
  intro x hx
  exact List.all_eq_true.1 h x (DataW.weights_mem_each ht hd x hx)
end
/-- A value by its cells. -/
def Sh.val : Sh → List Value → Value
  | .st _, cs => .agg cs.toArray
  | _, cs => cs.headD undef
theorem Sh.val_of {P : Program} {w : World} {r : Reach} {b0 : Nat} : ∀ (s : Sh) {t : TypeId} {v : Value}, s.fit P (some t) [] 0 = true → Value.okWide P w r b0 t v → v = s.val v.cells.toList
  | .int k, t, v, hf, hv => by
    simp only [Sh.fit] at hf
    cases hu : P.underlying t with
    | none => simp [hu] at hf
    | some dd =>
      rw [hu] at hf
      cases dd <;> simp at hf
      obtain ⟨n, rfl⟩ := okWide_int hu hv
      rfl
  | .bool, t, v, hf, hv => by
    simp only [Sh.fit] at hf
    cases hu : P.underlying t with
    | none => simp [hu] at hf
    | some dd =>
      rw [hu] at hf
      cases dd <;> simp at hf
      obtain ⟨n, rfl⟩ := okWide_bool hu hv
      rfl
  | .str, t, v, hf, hv => by
    simp only [Sh.fit] at hf
    cases hu : P.underlying t with
    | none => simp [hu] at hf
    | some dd =>
      rw [hu] at hf
      cases dd <;> simp at hf
      obtain ⟨n, rfl⟩ := okWide_string hu hv
      rfl
  | .slice e s, t, v, hf, hv => by
    simp only [Sh.fit] at hf
    cases hu : P.underlying t with
    | none => simp [hu] at hf
    | some dd =>
      rw [hu] at hf
      cases dd <;> simp at hf
      obtain ⟨a, n, c, rfl⟩ := okWide_slice hu hv
      rfl
  | .st s, t, v, hf, hv => by
    simp only [Sh.fit] at hf
    cases hu : P.underlying t with
    | none => simp [hu] at hf
    | some dd =>
      rw [hu] at hf
      cases dd <;> simp at hf
      obtain ⟨cs, rfl, _⟩ := okWide_struct hu hv
      rfl
  | .cons a b, t, v, hf, hv => by simp [Sh.fit] at hf
  | .nil, t, v, hf, hv => by simp [Sh.fit] at hf
end Go.Proofs.YtgcgnhcjjlnloaaDoor.Sl
