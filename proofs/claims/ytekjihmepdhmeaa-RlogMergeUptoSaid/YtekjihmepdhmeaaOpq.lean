/- Lemmas towards the law: what of the text Op it needs. -/
import Derived.Test.YtekjihmepdhmeaaSlq
import Derived.ChangeArms
import Derived.ProofKit
import Derived.SizedLaws
import Derived.Lib.SmallJoins
namespace Go.Proofs.Ytekjihmepdhmeaa.Sl
open Go.RowKit Go.Proofs.YtekjihmepdhmeaaW.PrintWords Go.ChangeShapes Go.WideShapes
set_option linter.unusedVariables false
set_option linter.unusedSimpArgs false
/-- Shapes of types: 'st s': a struct whose fields are s, a spine of 'cons' that ends in 'nil'. -/
inductive Sh where
  | int (k : IntKind)
  | bool
  | str
  | slice (e : TypeId) (s : Sh)
  | st (s : Sh)
  | cons (a b : Sh)
  | nil
@[reducible] def Sh.D : Sh → Type
  | .int _ => Int
  | .bool => Bool
  | .str => ByteArray
  | .slice _ s => List s.D
  | .st s => s.D
  | .cons a b => a.D × b.D
  | .nil => Unit
def Sh.dflt : (s : Sh) → s.D
  | .int _ => (0 : Int)
  | .bool => false
  | .str => ByteArray.empty
  | .slice _ _ => []
  | .st s => s.dflt
  | .cons a b => (a.dflt, b.dflt)
  | .nil => ()
def unitK : Kd Unit where
  sz := 0
  E := []
  K := fun _ _ cs => cs = []
  M := fun _ _ _ _ cs => cs = []
  K_len := fun h => by rw [h]; rfl
  K_one := fun h u hu => by rw [h] at hu; cases hu
  K_below := fun _ h => h
  K_of_M := fun h => h
  M_mono := fun _ h => h
  M_bound := fun h => h
  M_move := fun _ h => h
  M_lower := fun _ h => h
def Sh.kd : (s : Sh) → Kd s.D
  | .int k => Kd.int k
  | .bool => Kd.bool
  | .str => Kd.string
  | .slice e s => Kd.slice e s.kd
  | .st s => s.kd
  | .cons a b => Kd.pair a.kd b.kd
  | .nil => unitK
def Sh.sz : Sh → Nat
  | .int _ | .bool | .str | .slice _ _ => 1
  | .st s => s.sz
  | .cons a b => a.sz + b.sz
  | .nil => 0
theorem Sh.kd_sz : ∀ s : Sh, s.kd.sz = s.sz
  | .int _ | .bool | .str | .slice _ _ => rfl
  | .st s => Sh.kd_sz s
  | .cons a b => by
    show a.kd.sz + b.kd.sz = _
    rw [Sh.kd_sz a, Sh.kd_sz b]; rfl
  | .nil => rfl
def Sh.wf : (s : Sh) → s.D → Prop
  | .int k, n => (Lit.int k n).wf = true
  | .bool, _ => True
  | .str, s => s.size ≤ maxLen
  | .slice _ s, l => l.length ≤ maxLen ∧ ∀ x ∈ l, s.wf x
  | .st s, x => s.wf x
  | .cons a b, x => a.wf x.1 ∧ b.wf x.2
  | .nil, _ => True
def Sh.sized (P : Program) : (s : Sh) → s.D → Prop
  | .int _, _ | .bool, _ | .nil, _ => True
  | .str, s => s.size ≤ reachBytes
  | .slice e s, l => l.length * P.bytesOf e ≤ reachBytes ∧ ∀ x ∈ l, s.sized P x
  | .st s, x => s.sized P x
  | .cons a b, x => a.sized P x.1 ∧ b.sized P x.2
/-- 'none': the fields fs from offset off on; 'some t': a type. -/
def Sh.fit (P : Program) : Sh → Option TypeId → List Field → Nat → Bool
  | .int k, some t, _, _ => match P.underlying t with | some (.int k') => k == k' | _ => false
  | .bool, some t, _, _ => match P.underlying t with | some .bool => true | _ => false
  | .str, some t, _, _ => match P.underlying t with | some .string => true | _ => false
  | .slice e s, some t, _, _ => match P.underlying t with | some (.slice e') => e == e' && P.cellsOf e == s.sz && s.fit P (some e) [] 0 | _ => false
  | .st s, some t, _, _ => match P.underlying t with | some (.struct fs) => P.cellsOf t == s.sz && s.fit P none fs.toList 0 | _ => false
  | .cons a b, none, f :: fs, off => f.offset == off && P.cellsOf f.type == a.sz && a.fit P (some f.type) [] 0 && b.fit P none fs (off + a.sz)
  | .nil, none, [], _ => true
  | _, _, _, _ => false
theorem cells?_get {w : World} {base : Nat} {a : Addr} {n : Nat} {cs : List Value} (h : w.cells? base a n = some cs) : cs.length = n ∧ ∀ j u, cs[j]? = some u → w.cell? (a.add j) = some u := by
  unfold World.cells? at h
  split at h
  · have hl := mapM_some_length h
    simp at hl
    refine ⟨hl, fun j u hj => ?_⟩
    have hlt := (List.getElem?_eq_some_iff.1 hj).1
    have := mapM_some_get h j j (by rw [List.getElem?_range (by omega)])
    rw [this]; exact hj
  · cases h
section
variable {H : Type} {enc : TypeId × Value → H} {P : Program} {w : World} {base : Nat} {spare : Nat → Bool} {held : Bool}
theorem list_of_lt {α : Type} (z : α) {n : Nat} {p : Nat → α → Prop} (h : ∀ i, i < n → ∃ x, p i x) : ∃ l : List α, l.length = n ∧ ∀ i, i < n → p i (l.getD i z) := by
  classical
  refine ⟨(List.range n).map (fun i => if hi : i < n then Classical.choose (h i hi) else z), by simp, fun i hi => ?_⟩
  have h1 : ((List.range n).map (fun i => if hi : i < n then Classical.choose (h i hi) else z)).getD i z = Classical.choose (h i hi) := by
    rw [List.getD_eq_getElem?_getD, List.getElem?_map, List.getElem?_range hi]
    simp [hi]
  rw [h1]
  exact Classical.choose_spec (h i hi)
theorem all_append {l m : List Nat} (h : (l ++ m).all (· ≤ reachBytes) = true) : l.all (· ≤ reachBytes) = true ∧ m.all (· ≤ reachBytes) = true := by
  rw [List.all_append, Bool.and_eq_true] at h
  exact h
theorem weightsAll_get {e : TypeId} : ∀ {l : List (DataW H)} {i : Nat} {y : DataW H}, l[i]? = some y → (DataW.weightsAll P e l).all (· ≤ reachBytes) = true → (DataW.weights P e y).all (· ≤ reachBytes) = true
  | [], _, _, h, _ => by simp at h
  | x :: l, 0, y, h, k => by
    simp at h
    subst h
    exact (all_append (by simpa [DataW.weightsAll] using k)).1
  | x :: l, i + 1, y, h, k => by
    simp at h
    exact weightsAll_get h (all_append (l := DataW.weights P e x) (by simpa [DataW.weightsAll] using k)).2
theorem weights_of {ts : List TypeId} {ds : List (DataW H)} (h : (DataW.weightsEach P ts ds).all (· ≤ reachBytes) = true) {j : Nat} {t : TypeId} {d : DataW H} (ht : ts[j]? = some t) (hd : ds[j]? = some d) : (DataW.weights P t d).all (· ≤ reachBytes) = true := by
  apply List.all_eq_true.2
  intro x hx
  exact List.all_eq_true.1 h x (DataW.weights_mem_each ht hd x hx)
end
/-- A value by its cells. -/
def Sh.val : Sh → List Value → Value
  | .st _, cs => .agg cs.toArray
  | _, cs => cs.headD undef
theorem Sh.val_of {P : Program} {w : World} {r : Reach} {b0 : Nat} : ∀ (s : Sh) {t : TypeId} {v : Value}, s.fit P (some t) [] 0 = true → Value.okWide P w r b0 t v → v = s.val v.cells.toList
  | .int k, t, v, hf, hv => by
    simp only [Sh.fit] at hf
    cases hu : P.underlying t with
    | none => simp [hu] at hf
    | some dd =>
      rw [hu] at hf
      cases dd <;> simp at hf
      obtain ⟨n, rfl⟩ := okWide_int hu hv
      rfl
  | .bool, t, v, hf, hv => by
    simp only [Sh.fit] at hf
    cases hu : P.underlying t with
    | none => simp [hu] at hf
    | some dd =>
      rw [hu] at hf
      cases dd <;> simp at hf
      obtain ⟨n, rfl⟩ := okWide_bool hu hv
      rfl
  | .str, t, v, hf, hv => by
    simp only [Sh.fit] at hf
    cases hu : P.underlying t with
    | none => simp [hu] at hf
    | some dd =>
      rw [hu] at hf
      cases dd <;> simp at hf
      obtain ⟨n, rfl⟩ := okWide_string hu hv
      rfl
  | .slice e s, t, v, hf, hv => by
    simp only [Sh.fit] at hf
    cases hu : P.underlying t with
    | none => simp [hu] at hf
    | some dd =>
      rw [hu] at hf
      cases dd <;> simp at hf
      obtain ⟨a, n, c, rfl⟩ := okWide_slice hu hv
      rfl
  | .st s, t, v, hf, hv => by
    simp only [Sh.fit] at hf
    cases hu : P.underlying t with
    | none => simp [hu] at hf
    | some dd =>
      rw [hu] at hf
      cases dd <;> simp at hf
      obtain ⟨cs, rfl, _⟩ := okWide_struct hu hv
      rfl
  | .cons a b, t, v, hf, hv => by simp [Sh.fit] at hf
  | .nil, t, v, hf, hv => by simp [Sh.fit] at hf
/-- A slice's elements told otherwise. -/
theorem C_map {α β : Type} {d : Kd α} {w : World} {A : Option Addr} {n : Nat} {xs : List α} (h : d.C w A n xs) (f : α → β) {enc : β → List Value} {sz : Nat} (hsz : d.sz = sz) (hk : ∀ x cs, d.K w x cs → cs = enc (f x)) : Rd enc sz w A n (xs.map f) := by
  subst hsz
  refine ⟨by simpa using h.1, h.2.1, fun hn => ?_⟩
  obtain ⟨ad, e, hc⟩ := h.2.2 hn
  refine ⟨ad, e, fun j p hj => ?_⟩
  rw [List.getElem?_map] at hj
  obtain ⟨q, hq, rfl⟩ := Option.map_eq_some_iff.1 hj
  obtain ⟨c, hs, hr, hcell⟩ := hc j q hq
  exact ⟨c, hs, hk q c hr, hcell⟩
end Go.Proofs.Ytekjihmepdhmeaa.Sl
