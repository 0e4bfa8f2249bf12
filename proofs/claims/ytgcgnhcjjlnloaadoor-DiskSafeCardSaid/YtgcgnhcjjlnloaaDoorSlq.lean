/- Lemmas towards the law: what of the text Sl it needs. -/
import Derived.Test.YtgcgnhcjjlnloaaDoorWdsq
namespace Go.Proofs.YtgcgnhcjjlnloaaDoor.Sl
open Go.RowKit Go.Proofs.YtgcgnhcjjlnloaaDoorW.PrintWords
set_option linter.unusedVariables false
set_option linter.unusedSimpArgs false
structure Chg (S : Nat → Prop) (w w' : World) : Prop where
  os : w'.os = w.os
  tape : w'.tape = w.tape
  output : w'.output = w.output
  size : w.heap.size ≤ w'.heap.size
  block : ∀ k, k < w.heap.size → ¬ S k → w'.heap[k]? = w.heap[k]?
theorem Chg.refl (S : Nat → Prop) (w : World) : Chg S w w := ⟨rfl, rfl, rfl, Nat.le_refl _, fun _ _ _ => rfl⟩
theorem Chg.trans {S : Nat → Prop} {a b c : World} (h : Chg S a b) (k : Chg S b c) : Chg S a c :=
  ⟨k.os.trans h.os, k.tape.trans h.tape, k.output.trans h.output, Nat.le_trans h.size k.size, fun i hi hs => (k.block i (Nat.lt_of_lt_of_le hi h.size) hs).trans (h.block i hi hs)⟩
theorem Chg.mono {S T : Nat → Prop} {a b : World} (h : Chg S a b) (hst : ∀ k, k < a.heap.size → S k → T k) : Chg T a b :=
  ⟨h.os, h.tape, h.output, h.size, fun i hi ht => h.block i hi (fun hs => ht (hst i hi hs))⟩
theorem Chg.of_below {S : Nat → Prop} {w w' : World} (h : Below w.heap.size w w') : Chg S w w' := ⟨h.os, h.tape, h.output, h.size, fun k hk _ => h.block k hk⟩
theorem Chg.below {w w' : World} {B : Nat} {S : Nat → Prop} (h : Chg S w w') (hB : B ≤ w.heap.size) (hS : ∀ k, S k → B ≤ k) : Below B w w' :=
  ⟨h.os, h.tape, h.output, h.size, fun k hk => h.block k (Nat.lt_of_lt_of_le hk hB) (fun hs => Nat.not_lt.2 (hS k hs) hk)⟩
theorem Chg.of_grown {w w' : World} {row : Option Nat} (h : w.grownBy w' row) : Chg (fun k => row = some k) w w' :=
  ⟨h.os, h.tape, h.output, h.size, fun k hk hs => h.block k hk (fun e => hs e.symm)⟩
structure HP where
  fp : Nat → Prop
  ok : World → Prop
  loc : ∀ {w w' : World}, (∀ b, fp b → w'.heap[b]? = w.heap[b]?) → ok w → ok w'
/-- A whole block. -/
def blk (g : Nat) (cs : List Value) (t : TypeId) : HP where
  fp := fun b => b = g
  ok := fun w => w.heap[g]? = some (.cells cs.toArray t (0, 0))
  loc := fun h k => (h _ rfl).trans k
/-- A slice of the call's own with its elements (type e); S: its block and those inside. -/
def row {α : Type} (d : Kd α) (e : TypeId) (v : Value) (xs : List α) (S : Nat → Prop) : HP where
  fp := S
  ok := fun w => d.R e w 0 S v xs
  loc := by
    rintro w w' h ⟨h0, inner, ho, hr⟩
    exact ⟨h0, inner, own_move ho (fun k hk => h k (h0 k hk)), hr.imp_ (fun _ _ hp => d.M_move (fun k hk => h k hk.1) hp)⟩
/-- Worlds w0 (the call's first) and w; the items hold in w, lie apart, and are all new since w0. -/
structure SH (w0 w : World) (is : List HP) : Prop where
  below : Below w0.heap.size w0 w
  each : ∀ (n : Nat) (i : HP), is[n]? = some i → i.ok w ∧ ∀ b, i.fp b → w0.heap.size ≤ b ∧ b < w.heap.size
  apart : ∀ (n m : Nat) (i j : HP), n ≠ m → is[n]? = some i → is[m]? = some j → ∀ b, i.fp b → ¬ j.fp b
theorem SH.start (w : World) : SH w w [] := ⟨Below.refl _ _, fun n i h => by simp at h, fun n m i j _ h => by simp at h⟩
theorem SH.ofBelow {w w' : World} (h : Below w.heap.size w w') : SH w w' [] := ⟨h, fun n i h => by simp at h, fun n m i j _ h => by simp at h⟩
theorem SH.size {w0 w : World} {is : List HP} (h : SH w0 w is) : w0.heap.size ≤ w.heap.size := h.below.size
/-- Item n has turned (and what is new is new). -/
theorem SH.upd {w0 w w1 : World} {is : List HP} (h : SH w0 w is) (n : Nat) {i i' : HP} (hn : is[n]? = some i) (hc : Chg i.fp w w1) (hk : i'.ok w1)
    (hf : ∀ b, i'.fp b → (i.fp b ∨ w.heap.size ≤ b) ∧ b < w1.heap.size) : SH w0 w1 (is.set n i') := by
  have hs := hc.size
  have h0 := h.below.size
  have hge : ∀ b, i.fp b → w0.heap.size ≤ b := fun b hb => ((h.each n i hn).2 b hb).1
  refine ⟨h.below.trans (hc.below h0 hge), fun m j hj => ?_, fun m m' j j' hne hj hj' b hb => ?_⟩
  · rw [List.getElem?_set] at hj
    split at hj
    · split at hj
      · injection hj with hj
        subst hj
        exact ⟨hk, fun b hb => ⟨by rcases (hf b hb).1 with h1 | h1; exact hge b h1; omega, (hf b hb).2⟩⟩
      · cases hj
    · rename_i hne
      obtain ⟨hok, hfp⟩ := h.each m j hj
      refine ⟨j.loc (fun b hb => hc.block b (hfp b hb).2 (fun hib => h.apart n m i j hne hn hj b hib hb)) hok, fun b hb => ⟨(hfp b hb).1, by have := (hfp b hb).2; omega⟩⟩
  · rw [List.getElem?_set] at hj hj'
    by_cases e : n = m
    · subst e
      rw [if_pos rfl] at hj
      rw [if_neg hne] at hj'
      split at hj
      · injection hj with hj
        subst hj
        obtain ⟨_, hfp⟩ := h.each m' j' hj'
        intro hb'
        rcases (hf b hb).1 with h1 | h1
        · exact h.apart n m' i j' hne hn hj' b h1 hb'
        · have := (hfp b hb').2; omega
      · cases hj
    · rw [if_neg e] at hj
      by_cases e' : n = m'
      · subst e'
        rw [if_pos rfl] at hj'
        split at hj'
        · injection hj' with hj'
          subst hj'
          obtain ⟨_, hfp⟩ := h.each m j hj
          intro hb'
          rcases (hf b hb').1 with h1 | h1
          · exact h.apart n m i j e hn hj b h1 hb
          · have := (hfp b hb).2; omega
        · cases hj'
      · rw [if_neg e'] at hj'
        exact h.apart m m' j j' hne hj hj' b hb
/-- A call that made what it owns: its items come behind. -/
theorem SH.call {w0 w w1 : World} {is js : List HP} (h : SH w0 w is) (k : SH w w1 js) : SH w0 w1 (is ++ js) := by
  have hs := k.below.size
  have h0 := h.below.size
  refine ⟨h.below.trans (k.below.mono h0), fun m j hj => ?_, fun m m' j j' hne hj hj' b hb => ?_⟩
  · rcases Nat.lt_or_ge m is.length with hl | hl
    · rw [List.getElem?_append_left hl] at hj
      obtain ⟨hok, hfp⟩ := h.each m j hj
      exact ⟨j.loc (fun b hb => k.below.block b (hfp b hb).2) hok, fun b hb => ⟨(hfp b hb).1, by have := (hfp b hb).2; omega⟩⟩
    · rw [List.getElem?_append_right hl] at hj
      obtain ⟨hok, hfp⟩ := k.each _ j hj
      exact ⟨hok, fun b hb => ⟨by have := (hfp b hb).1; omega, (hfp b hb).2⟩⟩
  · rcases Nat.lt_or_ge m is.length with hl | hl <;> rcases Nat.lt_or_ge m' is.length with hl' | hl'
    · rw [List.getElem?_append_left hl] at hj
      rw [List.getElem?_append_left hl'] at hj'
      exact h.apart m m' j j' hne hj hj' b hb
    · rw [List.getElem?_append_left hl] at hj
      rw [List.getElem?_append_right hl'] at hj'
      intro hb'
      have h1 := ((h.each m j hj).2 b hb).2
      have h2 := ((k.each _ j' hj').2 b hb').1
      omega
    · rw [List.getElem?_append_right hl] at hj
      rw [List.getElem?_append_left hl'] at hj'
      intro hb'
      have h1 := ((h.each m' j' hj').2 b hb').2
      have h2 := ((k.each _ j hj).2 b hb).1
      omega
    · rw [List.getElem?_append_right hl] at hj
      rw [List.getElem?_append_right hl'] at hj'
      exact k.apart _ _ j j' (by omega) hj hj' b hb
theorem SH.quiet {w0 w w1 : World} {is : List HP} (h : SH w0 w is) (hb : Below w.heap.size w w1) : SH w0 w1 is := by
  have := h.call (SH.ofBelow hb)
  rwa [List.append_nil] at this
/-- One item more: new since w. -/
theorem SH.push {w0 w w1 : World} {is : List HP} (h : SH w0 w is) (hb : Below w.heap.size w w1) {i : HP} (hk : i.ok w1) (hf : ∀ b, i.fp b → w.heap.size ≤ b ∧ b < w1.heap.size) : SH w0 w1 (is ++ [i]) := by
  refine h.call (w1 := w1) ⟨hb, fun m j hj => ?_, fun m m' j j' hne hj hj' b hb => ?_⟩
  · have := List.mem_of_getElem? hj
    simp only [List.mem_singleton] at this
    subst this
    exact ⟨hk, hf⟩
  · have h1 := (List.getElem?_eq_some_iff.1 hj).1
    have h2 := (List.getElem?_eq_some_iff.1 hj').1
    simp at h1 h2
    omega
theorem getElem?_filterMap_pick {α : Type} (is : List α) (f : List Nat) (hf : f.all (· < is.length) = true) (m : Nat) : (f.filterMap (is[·]?))[m]? = f[m]?.bind (is[·]?) := by
  induction f generalizing m with
  | nil => simp
  | cons x f ih =>
    simp only [List.all_cons, Bool.and_eq_true, decide_eq_true_eq] at hf
    have hx : is[x]? = some is[x] := List.getElem?_eq_getElem hf.1
    rw [List.filterMap_cons, hx]
    cases m with
    | zero => simp
    | succ m => simpa using ih hf.2 m
/-- Some of the items, in another order: f says which. -/
theorem SH.pick {w0 w : World} {is : List HP} (h : SH w0 w is) (f : List Nat) (hf : f.all (· < is.length) = true) (hd : f.Nodup) : SH w0 w (f.filterMap (is[·]?)) := by
  refine ⟨h.below, fun n i hi => ?_, fun n m i j hne hi hj => ?_⟩
  · rw [getElem?_filterMap_pick is f hf] at hi
    obtain ⟨k, _, hk⟩ := Option.bind_eq_some_iff.1 hi
    exact h.each k i hk
  · rw [getElem?_filterMap_pick is f hf] at hi hj
    obtain ⟨k, hk0, hk⟩ := Option.bind_eq_some_iff.1 hi
    obtain ⟨k', hk0', hk'⟩ := Option.bind_eq_some_iff.1 hj
    refine h.apart k k' i j (fun e => ?_) hk hk'
    subst e
    have h1 := (List.getElem?_eq_some_iff.1 hk0)
    have h2 := (List.getElem?_eq_some_iff.1 hk0')
    obtain ⟨l1, e1⟩ := h1
    obtain ⟨l2, e2⟩ := h2
    exact hne ((List.getElem_inj hd).1 (e1.trans e2.symm))
/-- An item said otherwise. -/
theorem SH.say {w0 w : World} {is : List HP} (h : SH w0 w is) (n : Nat) {i i' : HP} (hn : is[n]? = some i) (hk : i.ok w → i'.ok w) (hf : ∀ b, i'.fp b → i.fp b) : SH w0 w (is.set n i') :=
  h.upd n hn (Chg.refl _ _) (hk (h.each n i hn).1) (fun b hb => ⟨.inl (hf b hb), ((h.each n i hn).2 b (hf b hb)).2⟩)
/-- A nil slice, about to be appended to. -/
theorem SH.nil {α : Type} (d : Kd α) (e : TypeId) {w0 w : World} {is : List HP} (h : SH w0 w is) : SH w0 w (is ++ [row d e (.slice none 0 0) [] (fun _ => False)]) :=
  h.push (Below.refl _ _) (Kd.R_nil d e w 0 _) (fun b hb => hb.elim)
theorem SH.at {w0 w : World} {is : List HP} (h : SH w0 w is) (n : Nat) {i : HP} (hn : is[n]? = some i) : i.ok w := (h.each n i hn).1
theorem SH.blk {w0 w : World} {is : List HP} (h : SH w0 w is) (n : Nat) {g : Nat} {cs : List Value} {t : TypeId} (hn : is[n]? = some (Sl.blk g cs t)) : w.heap[g]? = some (.cells cs.toArray t (0, 0)) := (h.each n _ hn).1
theorem SH.cells {w0 w : World} {is : List HP} (h : SH w0 w is) (n : Nat) {g : Nat} {cs : List Value} {t : TypeId} (hn : is[n]? = some (Sl.blk g cs t)) : (∀ i, w.cell? ⟨g, i, none⟩ = cs[i]?) ∧ (∀ i, w.frozen? ⟨g, i, none⟩ = false) :=
  ⟨fun i => by rw [blk_cell (h.blk n hn)]; simp, fun i => blk_frozen (h.blk n hn) i⟩
theorem aP (a : Act) (d : Tmp) (v : Value) : a.put (some d) v = { a with tmps := a.tmps.setIfInBounds d v } := rfl
theorem aN (a : Act) (v : Value) : a.put none v = a := rfl
theorem aT {α : Type} (l : List α) (i : Nat) (x : α) : l.toArray.setIfInBounds i x = (l.set i x).toArray := by simp
theorem aZ {α : Type} (l : List α) (x y : α) : (x :: l).set 0 y = y :: l := rfl
theorem aS {α : Type} (l : List α) (x y : α) (i : Nat) : (x :: l).set (i + 1) y = x :: l.set i y := rfl
theorem aL {α : Type} (l : List α) : l.toArray.toList = l := rfl
theorem aC {α : Type} (l k : List α) (x : α) : (x :: l) ++ k = x :: (l ++ k) := rfl
theorem aE {α : Type} (l : List α) : [] ++ l = l := rfl
theorem aG {α : Type} (l : List α) (i : Nat) : l.toArray[i]? = l[i]? := List.getElem?_toArray
theorem aH {α : Type} (l : List α) (x : α) (i : Nat) : (x :: l)[i + 1]? = l[i]? := rfl
theorem aI {α : Type} (l : List α) (x : α) : (x :: l)[0]? = some x := rfl
theorem aD {α : Type} (l : List α) (x d : α) : (x :: l).getD 0 d = x := rfl
theorem aF {α : Type} (l : List α) (x d : α) (i : Nat) : (x :: l).getD (i + 1) d = l.getD i d := rfl
theorem aJ {α : Type} (l : List α) : l.drop 0 = l := rfl
theorem aK {α : Type} (l : List α) (x : α) (i : Nat) : (x :: l).drop (i + 1) = l.drop i := rfl
theorem aM {α : Type} (l : List α) (x : α) (i : Nat) : (x :: l).take (i + 1) = x :: l.take i := rfl
theorem aO {α : Type} (l : List α) : l.take 0 = [] := rfl
theorem lb {n m : Nat} (h : Nat.ble n m = true) : n ≤ m := Nat.le_of_ble_eq_true h
def callable (P : Program) (f : Nat) : Bool := (P.funcs[f]?).any fun fn => !(fn.name == "runtime.NumGoroutine") && fn.body.isSome
theorem run_callable {P : Program} {f : FuncId} (h : callable P f = true) (vs : Array Value) (w : World) : (callFunc f vs).run P w = .ok (.enter f vs) w := by
  unfold callable at h
  cases hf : P.funcs[f]? with
  | none => rw [hf] at h; simp at h
  | some fn =>
    rw [hf] at h
    simp only [Option.any_some, Bool.and_eq_true, Bool.not_eq_true'] at h
    obtain ⟨h1, h2⟩ := h
    obtain ⟨c, hb⟩ := Option.isSome_iff_exists.1 h2
    have h3 : ¬ fn.name = "runtime.NumGoroutine" := by simpa using h1
    simp [callFunc, hf, h3, hb]
/-- a value's cells -/
def segOf : Value → List Value
  | .agg cs => cs.toList
  | v => [v]
theorem segOf_eq (v : Value) : v.cells.toList = segOf v := by cases v <;> rfl
/-- a type of several cells -/
def aggD : TypeDesc → Bool
  | .struct _ | .array _ _ => true
  | _ => false
theorem add_plain2 (g i j : Nat) : (⟨g, i, none⟩ : Addr).add j = ⟨g, i + j, none⟩ := by
  unfold Addr.add
  split <;> simp_all
/-- seg written over cs from place i on -/
def putSeg : List Value → Nat → List Value → List Value
  | cs, _, [] => cs
  | [], _, _ :: _ => []
  | _ :: cs, 0, s :: ss => s :: putSeg cs 0 ss
  | c :: cs, i + 1, s :: ss => c :: putSeg cs i (s :: ss)
theorem putSeg_eq : ∀ (cs : List Value) (i : Nat) (seg : List Value), i + seg.length ≤ cs.length → putSeg cs i seg = cs.take i ++ seg ++ cs.drop (i + seg.length)
  | cs, i, [], h => by
    cases cs <;> simp [putSeg]
  | [], i, s :: ss, h => by simp at h
  | c :: cs, 0, s :: ss, h => by
    have := putSeg_eq cs 0 ss (by simp at h ⊢; omega)
    simp only [putSeg, this]
    simp
  | c :: cs, i + 1, s :: ss, h => by
    have := putSeg_eq cs i (s :: ss) (by simp at h ⊢; omega)
    simp only [putSeg, this]
    rw [show i + 1 + (s :: ss).length = (i + (s :: ss).length) + 1 from by omega]
    simp
theorem setCells_blk {w : World} {g : Nat} {cs : List Value} {t : TypeId} (h : w.heap[g]? = some (.cells cs.toArray t (0, 0))) (i : Nat) (seg : List Value) (hl : i + seg.length ≤ cs.length) :
    (w.setCells g i seg).heap[g]? = some (.cells (putSeg cs i seg).toArray t (0, 0)) ∧ Chg (fun b => b = g) w (w.setCells g i seg) := by
  obtain ⟨cur', h1, h2, h3⟩ := setCells_row (e := t) seg i w cs.toArray h (by simpa using hl)
  refine ⟨?_, ?_⟩
  · rw [h1, putSeg_eq cs i seg hl, ← h3]
  · obtain ⟨s1, s2, s3, s4⟩ := setCells_same g seg i w
    exact ⟨s1, s2, s3, by omega, fun k _ hk => setCells_far seg i k hk⟩
section
variable {P : Program} {ops : Array Oper} {rest : List Oper} {o : Oper} {a : Act} {Q : Exit → Act → World → Prop}
/-- The same, as a thing that is not unfolded when a law is laid. -/
structure WP (P : Program) (ops : Array Oper) (Q : Exit → Act → World → Prop) (l : List Oper) (a : Act) (W : World) : Prop where
  out : wpList P ops Q l a W
theorem run_step {W w1 : World} {v : Value} (hw : Region.wanted o (yielded ops a.tmps) = true) (hrun : (execOp a.eval o).run P W = .ok (.value v) w1) (h : wpList P ops Q rest (a.put o.dst v) w1) : wpList P ops Q (o :: rest) a W := by
  refine wpList_step fun K hK => ?_
  rw [if_pos hw]
  unfold Oper.wp
  rw [hrun]
  exact hK _ _ h
theorem run_newVar (t : TypeId) (v : Value) (W : World) : (newVar t v).run P W = .ok ⟨W.heap.size, 0, none⟩ (W.alloc (.cells v.cells t (0, 0))) := rfl
/-- A guarded operation that is wanted: the same without its guard. -/
theorem unguard {W : World} (hw : Region.wanted o (yielded ops a.tmps) = true) (h : wpList P ops Q ({ o with guard := none } :: rest) a W) : wpList P ops Q (o :: rest) a W := by
  unfold wpList at h ⊢
  rw [if_pos hw]
  rw [if_pos (by simp [Region.wanted])] at h
  exact h
theorem gA {W : World} {ty : TypeId} (_ho : o.op = .alloc ty) (h : WP P ops Q (o :: rest) a W) : wpList P ops Q (o :: rest) a W := h.out
theorem gB {W : World} {ty : TypeId} {x : Operand} (_ho : o.op = .box ty x) (h : WP P ops Q (o :: rest) a W) : wpList P ops Q (o :: rest) a W := h.out
theorem gL {W : World} {ty : TypeId} {len : Nat} {parts : Array (Nat × Operand)} (_ho : o.op = .buildSlice ty len parts) (h : WP P ops Q (o :: rest) a W) : wpList P ops Q (o :: rest) a W := h.out
theorem gC {W : World} {b : Builtin} {xs : Array Operand} {ts : Array TypeId} (_ho : o.op = .call { callee := .builtin b, args := xs, argTypes := ts }) (h : WP P ops Q (o :: rest) a W) : wpList P ops Q (o :: rest) a W := h.out
theorem gLd {W : World} {ty : TypeId} {x : Operand} (_ho : o.op = .load ty x) (h : WP P ops Q (o :: rest) a W) : wpList P ops Q (o :: rest) a W := h.out
theorem gSt {W : World} {ty : TypeId} {x y : Operand} (_ho : o.op = .store ty x y) (h : WP P ops Q (o :: rest) a W) : wpList P ops Q (o :: rest) a W := h.out
/-- A block is made: 'alloc'. -/
theorem sh_alloc {w0 W : World} {is : List HP} (HS : SH w0 W is) (hw : Region.wanted o (yielded ops a.tmps) = true) {ty : TypeId} (ho : o.op = .alloc ty) {cs : List Value}
    (hz : ((P.info? ty).bind (·.zero)).map (·.cells.toList) = some cs)
    (h : ∀ g w1, w0.heap.size ≤ g → SH w0 w1 (is ++ [blk g cs ty]) → wpList P ops Q rest (a.put o.dst (.pointer (some ⟨g, 0, none⟩))) w1) : WP P ops Q (o :: rest) a W := by
  refine ⟨?_⟩
  obtain ⟨z, hz, hzc⟩ := Option.map_eq_some_iff.1 hz
  obtain ⟨inf, hi, hz⟩ := Option.bind_eq_some_iff.1 hz
  have hc : z.cells = cs.toArray := by rw [← hzc]
  refine run_step hw (w1 := W.alloc (.cells cs.toArray ty (0, 0))) (v := .pointer (some ⟨W.heap.size, 0, none⟩)) ?_ (h _ _ HS.size (HS.push (below_alloc (Below.refl _ _) _) (blk_new W _) (fun b hb => by cases hb; exact ⟨Nat.le_refl _, by simp⟩)))
  unfold execOp
  simp only [ho, Instr.alloc]
  have hzv : (zeroValue ty).run P W = .ok z W := by simp [zeroValue, typeInfo, hi, hz]
  simp only [Sem.run_bind, hzv, Result.andThen_ok, run_newVar, hc, Sem.run_pure]
/-- A block is made: 'box'. -/
theorem sh_box {w0 W : World} {is : List HP} (HS : SH w0 W is) (hw : Region.wanted o (yielded ops a.tmps) = true) {ty : TypeId} {x : Operand} (ho : o.op = .box ty x) {v : Value} (hx : a.eval x = v)
    (h : ∀ g w1, w0.heap.size ≤ g → SH w0 w1 (is ++ [blk g (segOf v) ty]) → wpList P ops Q rest (a.put o.dst (.pointer (some ⟨g, 0, none⟩))) w1) : WP P ops Q (o :: rest) a W := by
  refine ⟨?_⟩
  have hc : v.cells = (segOf v).toArray := by rw [← segOf_eq]
  refine run_step hw (w1 := W.alloc (.cells (segOf v).toArray ty (0, 0))) (v := .pointer (some ⟨W.heap.size, 0, none⟩)) ?_ (h _ _ HS.size (HS.push (below_alloc (Below.refl _ _) _) (blk_new W _) (fun b hb => by cases hb; exact ⟨Nat.le_refl _, by simp⟩)))
  unfold execOp
  simp only [ho, hx, Instr.box, Sem.run_bind, Result.andThen_ok, run_newVar, hc, Sem.run_pure]
/-- A slice's block is made: 'buildSlice'. -/
theorem sh_lit {w0 W : World} {is : List HP} (HS : SH w0 W is) (hw : Region.wanted o (yielded ops a.tmps) = true) {ty : TypeId} {len : Nat} {parts : Array (Nat × Operand)} (_ho : o.op = .buildSlice ty len parts) {cs : List Value} {t : TypeId} {n c : Nat}
    (hrun : (execOp a.eval o).run P W = .ok (.value (.slice (some ⟨W.heap.size, 0, none⟩) n c)) (W.alloc (.cells cs.toArray t (0, 0))))
    (h : ∀ g w1, w0.heap.size ≤ g → SH w0 w1 (is ++ [blk g cs t]) → wpList P ops Q rest (a.put o.dst (.slice (some ⟨g, 0, none⟩) n c)) w1) : WP P ops Q (o :: rest) a W :=
  ⟨run_step hw hrun (h _ _ HS.size (HS.push (below_alloc (Below.refl _ _) _) (blk_new W _) (fun b hb => by cases hb; exact ⟨Nat.le_refl _, by simp⟩)))⟩
/-- A store into a block of one's own. -/
theorem sh_store {w0 W : World} {is : List HP} (HS : SH w0 W is) (hw : Region.wanted o (yielded ops a.tmps) = true) (hN : o.dst = none) {t : TypeId} {p x : Operand} (ho : o.op = .store t p x)
    {g i : Nat} (haddr : a.eval p = .pointer (some ⟨g, i, none⟩)) (n : Nat) {cs : List Value} {e : TypeId} (hn : is[n]? = some (blk g cs e)) {u : Value} (hx : a.eval x = u)
    (ht : (P.info? t).map (·.size) = some (segOf u).length) (h1 : (segOf u).all (·.oneCell') = true) (hfit : i + (segOf u).length ≤ cs.length)
    (h : ∀ w1, SH w0 w1 (is.set n (blk g (putSeg cs i (segOf u)) e)) → wpList P ops Q rest a w1) : WP P ops Q (o :: rest) a W := by
  refine ⟨?_⟩
  have hu := segOf_eq u
  generalize segOf u = seg at *
  have hh := HS.blk n hn
  obtain ⟨hb, hc⟩ := setCells_blk hh i seg hfit
  refine wpList_step fun K hK => ?_
  rw [if_pos hw]
  have hrun : (Instr.storeAt t (.pointer (some ⟨g, i, none⟩)) u).run P W = .ok () (W.setCells g i seg) :=
    run_store_run t u seg hh hu ht (by simpa using hfit) (fun q hq => List.all_eq_true.1 h1 q hq)
  unfold Oper.wp execOp
  simp only [ho, haddr, hx, Sem.run_bind, Sem.run_pure, Result.andThen_ok, hrun]
  show K (a.put o.dst undef) _
  rw [hN]
  refine hK a _ (h _ (HS.upd n hn hc hb (fun b hb => ?_)))
  cases hb
  exact ⟨.inl rfl, by have := blk_lt hb; omega⟩
theorem run_loadCells_at {w : World} (g i : Nat) (cs : List Value) (h : ∀ j v, cs[j]? = some v → w.cell? ⟨g, i + j, none⟩ = some v) : (loadCells ⟨g, i, none⟩ cs.length).run P w = .ok cs.toArray w := by
  refine run_loadCells_list _ _ cs (fun j v hj => ?_)
  rw [add_plain2]
  exact h j v hj
theorem putSeg_one : ∀ (cs : List Value) (i : Nat) (u : Value), putSeg cs i [u] = cs.set i u
  | [], _, _ => rfl
  | c :: cs, 0, u => by cases cs <;> simp [putSeg]
  | c :: cs, i + 1, u => by simp [putSeg, putSeg_one cs i u]
/-- A store of one cell at a place that was reckoned. -/
theorem sh_storeX {w0 W : World} {is : List HP} (HS : SH w0 W is) (hw : Region.wanted o (yielded ops a.tmps) = true) (hN : o.dst = none) {t : TypeId} {p x : Operand} (ho : o.op = .store t p x)
    {g i : Nat} (haddr : a.eval p = .pointer (some ⟨g, i, none⟩)) (n : Nat) {cs : List Value} {e : TypeId} (hn : is[n]? = some (blk g cs e)) {u : Value} (hx : a.eval x = u) (h0 : segOf u = [u])
    (ht : (P.info? t).map (·.size) = some 1) (h1 : u.oneCell' = true) (hfit : i < cs.length)
    (h : ∀ w1, SH w0 w1 (is.set n (blk g (cs.set i u) e)) → wpList P ops Q rest a w1) : WP P ops Q (o :: rest) a W := by
  refine sh_store HS hw hN ho haddr n hn hx (by rw [h0]; exact ht) (by rw [h0]; simp [h1]) (by rw [h0]; simp; omega) (fun w1 HS1 => h w1 ?_)
  rw [h0, putSeg_one] at HS1
  exact HS1
structure LdK (P : Program) (ops : Array Oper) (Q : Exit → Act → World → Prop) (rest : List Oper) (o : Oper) (a : Act) (W : World) (t : TypeId) (i : Nat) (cs : List Value) : Prop where
  out : ∀ (p : Operand) (g : Nat), o.op = .load t p → a.eval p = .pointer (some ⟨g, i, none⟩) → (∀ j, W.cell? ⟨g, j, none⟩ = cs[j]?) → Region.wanted o (yielded ops a.tmps) = true → WP P ops Q (o :: rest) a W
theorem ld1 {w0 W : World} {is : List HP} (HS : SH w0 W is) (hw : Region.wanted o (yielded ops a.tmps) = true) {t : TypeId} {p : Operand} (ho : o.op = .load t p)
    {g i : Nat} (haddr : a.eval p = .pointer (some ⟨g, i, none⟩)) (n : Nat) {cs : List Value} {e : TypeId} (hn : is[n]? = some (blk g cs e)) (h : LdK P ops Q rest o a W t i cs) : WP P ops Q (o :: rest) a W :=
  h.out p g ho haddr (HS.cells n hn).1 hw
theorem LdK.one {W : World} {t : TypeId} {i : Nat} {cs : List Value} (hd : (P.underlying t).map aggD = some false) {v : Value} (hv : cs[i]? = some v) (h : wpList P ops Q rest (a.put o.dst v) W) : LdK P ops Q rest o a W t i cs := by
  refine ⟨fun p g ho haddr hcs hw => ⟨?_⟩⟩
  obtain ⟨d, hd, hd1⟩ := Option.map_eq_some_iff.1 hd
  have hc := hcs i
  rw [hv] at hc
  refine run_step hw ?_ h
  unfold execOp
  simp only [ho, haddr]
  cases d <;> first | (simp [aggD] at hd1; done) | simp [Instr.loadAt, Instr.sureAddr, loadVar, isAgg, underlying, go_sem, hd, hc]
theorem LdK.agg {W : World} {t : TypeId} {i : Nat} {cs : List Value} (hd : (P.underlying t).map aggD = some true) {k : Nat} (hk : (P.info? t).map (·.size) = some k) (hfit : i + k ≤ cs.length) (h : wpList P ops Q rest (a.put o.dst (.agg ((cs.drop i).take k).toArray)) W) : LdK P ops Q rest o a W t i cs := by
  refine ⟨fun p g ho haddr hc hw => ⟨?_⟩⟩
  obtain ⟨d, hd, hd1⟩ := Option.map_eq_some_iff.1 hd
  obtain ⟨inf, hi, hsz⟩ := Option.map_eq_some_iff.1 hk
  have hl : ((cs.drop i).take k).length = k := by simp; omega
  have hr := run_loadCells_at (P := P) (w := W) g i ((cs.drop i).take k) (fun j v hj => by
    rw [hc]
    rw [List.getElem?_take] at hj
    split at hj
    · rw [List.getElem?_drop] at hj; exact hj
    · cases hj)
  rw [hl] at hr
  unfold loadCells at hr
  refine run_step hw ?_ h
  unfold execOp
  simp only [ho, haddr]
  cases d <;> first | (simp [aggD] at hd1; done) | simp [Instr.loadAt, Instr.sureAddr, loadVar, isAgg, sizeOf, typeInfo, underlying, go_sem, hd, hi, hsz, hr]
structure StK (P : Program) (ops : Array Oper) (Q : Exit → Act → World → Prop) (rest : List Oper) (o : Oper) (a : Act) (W : World) (w0 : World) (is : List HP) (n g i : Nat) (cs : List Value) (e t : TypeId) (x : Operand) : Prop where
  out : ∀ (p : Operand), SH w0 W is → is[n]? = some (blk g cs e) → o.dst = none → o.op = .store t p x → a.eval p = .pointer (some ⟨g, i, none⟩) → Region.wanted o (yielded ops a.tmps) = true → WP P ops Q (o :: rest) a W
theorem st1 {w0 W : World} {is : List HP} (HS : SH w0 W is) (hw : Region.wanted o (yielded ops a.tmps) = true) (hN : o.dst = none) {t : TypeId} {p x : Operand} (ho : o.op = .store t p x)
    {g i : Nat} (haddr : a.eval p = .pointer (some ⟨g, i, none⟩)) (n : Nat) {cs : List Value} {e : TypeId} (hn : is[n]? = some (blk g cs e)) (h : StK P ops Q rest o a W w0 is n g i cs e t x) : WP P ops Q (o :: rest) a W :=
  h.out p HS hn hN ho haddr hw
theorem StK.by {W w0 : World} {is : List HP} {n g i : Nat} {cs : List Value} {e t : TypeId} {x : Operand} {u : Value} (hx : a.eval x = u)
    (ht : (P.info? t).map (·.size) = some (segOf u).length) (h1 : (segOf u).all (·.oneCell') = true) (hfit : i + (segOf u).length ≤ cs.length)
    (h : ∀ w1, SH w0 w1 (is.set n (blk g (putSeg cs i (segOf u)) e)) → wpList P ops Q rest a w1) : StK P ops Q rest o a W w0 is n g i cs e t x :=
  ⟨fun p HS hn hN ho haddr hw => sh_store HS hw hN ho haddr n hn hx ht h1 hfit h⟩
/-- where an item stands -/
inductive AtI : List HP → Nat → HP → Prop
  | here {i : HP} {is : List HP} : AtI (i :: is) 0 i
  | there {i j : HP} {is : List HP} {n : Nat} (h : AtI is n i) : AtI (j :: is) (n + 1) i
theorem AtI.get {is : List HP} {n : Nat} {i : HP} (h : AtI is n i) : is[n]? = some i := by
  induction h with
  | here => rfl
  | there _ ih => exact ih
theorem ld2 {w0 W : World} {is : List HP} (HS : SH w0 W is) (hw : Region.wanted o (yielded ops a.tmps) = true) {t : TypeId} {p : Operand} (ho : o.op = .load t p)
    {g i : Nat} (haddr : a.eval p = .pointer (some ⟨g, i, none⟩)) {n : Nat} {cs : List Value} {e : TypeId} (hn : AtI is n (blk g cs e)) (h : LdK P ops Q rest o a W t i cs) : WP P ops Q (o :: rest) a W := ld1 HS hw ho haddr n hn.get h
theorem st2 {w0 W : World} {is : List HP} (HS : SH w0 W is) (hw : Region.wanted o (yielded ops a.tmps) = true) (hN : o.dst = none) {t : TypeId} {p x : Operand} (ho : o.op = .store t p x)
    {g i : Nat} (haddr : a.eval p = .pointer (some ⟨g, i, none⟩)) {n : Nat} {cs : List Value} {e : TypeId} (hn : AtI is n (blk g cs e)) (h : StK P ops Q rest o a W w0 is n g i cs e t x) : WP P ops Q (o :: rest) a W := st1 HS hw hN ho haddr n hn.get h
structure BxK (P : Program) (ops : Array Oper) (Q : Exit → Act → World → Prop) (rest : List Oper) (o : Oper) (a : Act) (W w0 : World) (is : List HP) (ty : TypeId) (x : Operand) : Prop where
  out : SH w0 W is → Region.wanted o (yielded ops a.tmps) = true → o.op = .box ty x → WP P ops Q (o :: rest) a W
theorem bx {w0 W : World} {is : List HP} (HS : SH w0 W is) (hw : Region.wanted o (yielded ops a.tmps) = true) {ty : TypeId} {x : Operand} (ho : o.op = .box ty x) (h : BxK P ops Q rest o a W w0 is ty x) : WP P ops Q (o :: rest) a W := h.out HS hw ho
theorem bv {W w0 : World} {is : List HP} {ty : TypeId} {x : Operand} {v : Value} (hx : a.eval x = v) (h : ∀ g w1, w0.heap.size ≤ g → SH w0 w1 (is ++ [blk g (segOf v) ty]) → wpList P ops Q rest (a.put o.dst (.pointer (some ⟨g, 0, none⟩))) w1) : BxK P ops Q rest o a W w0 is ty x :=
  ⟨fun HS hw ho => sh_box HS hw ho hx h⟩
structure StJ (P : Program) (ops : Array Oper) (Q : Exit → Act → World → Prop) (rest : List Oper) (o : Oper) (a : Act) (W : World) (w0 : World) (is : List HP) (n g i : Nat) (cs : List Value) (e t : TypeId) (x : Operand) (u : Value) : Prop where
  out : a.eval x = u → StK P ops Q rest o a W w0 is n g i cs e t x
theorem sv {W w0 : World} {is : List HP} {n g i : Nat} {cs : List Value} {e t : TypeId} {x : Operand} {u : Value} (hx : a.eval x = u) (h : StJ P ops Q rest o a W w0 is n g i cs e t x u) : StK P ops Q rest o a W w0 is n g i cs e t x := h.out hx
theorem sw {W w0 : World} {is : List HP} {n g i : Nat} {cs : List Value} {e t : TypeId} {x : Operand} {u : Value}
    (ht : (P.info? t).map (·.size) = some (segOf u).length) (h1 : (segOf u).all (·.oneCell') = true) (hfit : i + (segOf u).length ≤ cs.length)
    (h : ∀ w1, SH w0 w1 (is.set n (blk g (putSeg cs i (segOf u)) e)) → wpList P ops Q rest a w1) : StJ P ops Q rest o a W w0 is n g i cs e t x u := ⟨fun hx => StK.by hx ht h1 hfit h⟩
def flk {α : Type} (enc : α → List Value) (sz : Nat) (hl : ∀ x, (enc x).length = sz) (h1 : ∀ x, (enc x).all (·.oneCell') = true) : Kd α where
  sz := sz
  E := []
  K := fun _ x cs => cs = enc x
  M := fun _ _ _ x cs => cs = enc x
  K_len := fun h => by rw [h]; exact hl _
  K_one := fun h u hu => by
    rw [h] at hu
    exact List.all_eq_true.1 (h1 _) u hu
  K_below := fun _ h => h
  K_of_M := fun h => h
  M_mono := fun _ h => h
  M_bound := fun h => h
  M_move := fun _ h => h
  M_lower := fun _ h => h
/-- A slice of flat elements that is read. -/
def Rd {α : Type} (enc : α → List Value) (sz : Nat) (w : World) (A : Option Addr) (n : Nat) (xs : List α) : Prop := ReadsRow (fun x cs => cs = enc x) sz w A n xs
theorem Rd.below {α : Type} {enc : α → List Value} {sz : Nat} {w w1 : World} {A : Option Addr} {n : Nat} {xs : List α} (h : Rd enc sz w A n xs) (hb : Below w.heap.size w w1) : Rd enc sz w1 A n xs := ReadsRow.imp_ h hb (fun _ _ hp => hp)
theorem Rd.sh {α : Type} {enc : α → List Value} {sz : Nat} {w0 w : World} {is : List HP} {A : Option Addr} {n : Nat} {xs : List α} (h : Rd enc sz w0 A n xs) (HS : SH w0 w is) : Rd enc sz w A n xs := h.below HS.below
theorem Rd.len {α : Type} {enc : α → List Value} {sz : Nat} {w : World} {A : Option Addr} {n : Nat} {xs : List α} (h : Rd enc sz w A n xs) : xs.length = n ∧ n ≤ 9223372036854775807 := ⟨h.1, h.2.1⟩
theorem Rd.nil {α : Type} (enc : α → List Value) (sz : Nat) (w : World) (A : Option Addr) : Rd enc sz w A 0 [] := ⟨rfl, by omega, fun h => absurd h (by omega)⟩
theorem Rd.addr {α : Type} {enc : α → List Value} {sz : Nat} {w : World} {A : Option Addr} {n : Nat} {xs : List α} (h : Rd enc sz w A n xs) (hn : 0 < n) : ∃ ad, A = some ad := by
  obtain ⟨ad, e, _⟩ := h.2.2 hn
  exact ⟨ad, e⟩
theorem Rd.cell {α : Type} {enc : α → List Value} {sz : Nat} {w : World} {ad : Addr} {n : Nat} {xs : List α} (h : Rd enc sz w (some ad) n xs) (z : α) {i : Nat} (hi : i < n) (j : Nat) {u : Value} (hu : (enc (xs.getD i z))[j]? = some u) : w.cell? (ad.add (i * sz + j)) = some u := by
  obtain ⟨ad', e, hc⟩ := h.2.2 (by omega)
  injection e with e
  subst e
  obtain ⟨c, hs, hr, hcell⟩ := hc i (xs.getD i z) (by rw [List.getD_eq_getElem?_getD, List.getElem?_eq_getElem (by have := h.1; omega)]; simp)
  subst hr
  exact hcell j u hu
/-- A block of one's own that holds one element, as a slice. -/
theorem Rd.one {α : Type} {enc : α → List Value} {sz : Nat} (hl : ∀ x, (enc x).length = sz) {w : World} {g : Nat} {e : TypeId} (p : α) (h : w.heap[g]? = some (.cells (enc p).toArray e (0, 0))) : Rd enc sz w (some ⟨g, 0, none⟩) 1 [p] := by
  refine ⟨rfl, by omega, fun _ => ⟨_, rfl, fun j q hj => ?_⟩⟩
  cases j with
  | zero =>
    have : p = q := by simpa using hj
    subst this
    refine ⟨enc p, hl p, rfl, fun i u hu => ?_⟩
    rw [add_plain2, blk_cell h]
    simpa using hu
  | succ j => simp at hj
/-- What a row of flat elements holds is read. -/
theorem row_rd {α : Type} {enc : α → List Value} {sz : Nat} {hl : ∀ x, (enc x).length = sz} {h1 : ∀ x, (enc x).all (·.oneCell') = true} {w0 w : World} {is : List HP} (HS : SH w0 w is) (n : Nat) {e : TypeId} {v : Value} {xs : List α} {S : Nat → Prop} (hn : is[n]? = some (row (flk enc sz hl h1) e v xs S)) :
    ∃ A c, v = .slice A xs.length c ∧ xs.length ≤ c ∧ Rd enc sz w A xs.length xs := Kd.R_reads (HS.at n hn)
/-- A load of an element of a slice that is read. -/
theorem rd_load {α : Type} {enc : α → List Value} {sz : Nat} {W : World} {ad : Addr} {n : Nat} {xs : List α} (HR : Rd enc sz W (some ad) n xs) (hw : Region.wanted o (yielded ops a.tmps) = true) {t : TypeId} {p : Operand} (ho : o.op = .load t p)
    {i : Nat} (haddr : a.eval p = .pointer (some (ad.add (i * sz)))) (hi : i < n) (z : α) (hl : ∀ x, (enc x).length = sz) (hd : (P.underlying t).map aggD = some true) (hk : (P.info? t).map (·.size) = some sz)
    (h : ∀ x, xs.getD i z = x → wpList P ops Q rest (a.put o.dst (.agg (enc x).toArray)) W) : WP P ops Q (o :: rest) a W := by
  refine ⟨?_⟩
  replace h := h _ rfl
  obtain ⟨d, hd, hd1⟩ := Option.map_eq_some_iff.1 hd
  obtain ⟨inf, hi', hsz⟩ := Option.map_eq_some_iff.1 hk
  have hr := run_loadCells_list (P := P) W (ad.add (i * sz)) (enc (xs.getD i z)) (fun j v hj => by rw [add_add]; exact HR.cell z hi j hj)
  rw [hl] at hr
  unfold loadCells at hr
  refine run_step hw ?_ h
  unfold execOp
  simp only [ho, haddr]
  cases d <;> first | (simp [aggD] at hd1; done) | simp [Instr.loadAt, Instr.sureAddr, loadVar, isAgg, sizeOf, typeInfo, underlying, go_sem, hd, hi', hsz, hr]
/-- append to a row of one's own: some elements that are read. -/
theorem sh_append {α : Type} {enc : α → List Value} {sz : Nat} {hl : ∀ x, (enc x).length = sz} {h1 : ∀ x, (enc x).all (·.oneCell') = true} {w0 W : World} {is : List HP} (HS : SH w0 W is) (hw : Region.wanted o (yielded ops a.tmps) = true) {s x : Operand} {t : TypeId} (ho : o.op = .call { callee := .builtin .append, args := #[s, x], argTypes := #[t, t] })
    {v : Value} (hs : a.eval s = v) (n : Nat) {e : TypeId} {xs : List α} {S : Nat → Prop} (hn : is[n]? = some (row (flk enc sz hl h1) e v xs S)) {A : Option Addr} {m c : Nat} (hx : a.eval x = .slice A m c) {ys : List α} (HR : Rd enc sz W A m ys)
    (ht : P.underlying t = some (.slice e)) {z : Value} {bytes : Nat} (hinfo : (P.info? e).map (fun i => (i.zero, i.size, i.bytes)) = some (some z, sz, bytes)) (hz : z.cells.size = sz) (hs0 : 0 < sz) (hb0 : 0 < bytes) (hlim : (xs.length + m) * bytes ≤ 140737488355328)
    (h : ∀ v1 w1 S1, SH w0 w1 (is.set n (row (flk enc sz hl h1) e v1 (xs ++ ys) S1)) → wpList P ops Q rest (a.put o.dst v1) w1) : WP P ops Q (o :: rest) a W := by
  refine ⟨?_⟩
  have HO := HS.at n hn
  have hok : ∀ k, v.ownBlock = some k → S k := HO.1
  refine unguard hw (Kd.R_append_rows (flk enc sz hl h1) (w0 := W) (Rr := fun x cs => cs = enc x) 0 rfl s x t e z bytes ho ht hinfo hz hs0 hb0 v xs ys A m c (fun k => S k ∨ W.heap.size ≤ k) (fun _ => False) hs hx
    (Kd.R_mono HO (fun k hk => .inl hk)) HR (fun _ _ hp => hp) (fun _ hk => hk.elim) (fun k hk => .inr hk) (Below.refl 0 W) (Nat.zero_le _) hlim ?_)
  intro v1 w1 HO1 _ hg _
  have HB := Kd.R_bound HO1
  have hsz := hg.size
  refine h v1 w1 (fun k => (S k ∨ W.heap.size ≤ k) ∧ k < w1.heap.size) (HS.upd n hn ((Chg.of_grown hg).mono (fun k _ hk => hok k hk)) (Kd.R_mono HB (fun k hk => ⟨hk.1, hk.2.2.1⟩)) (fun b hb => ⟨hb.1, hb.2⟩))
theorem reps_flat {α : Type} {enc : α → List Value} {sz : Nat} (hl : ∀ x, (enc x).length = sz) (xs : List α) : Reps (fun x cs => cs = enc x) sz xs (xs.flatMap enc) := by
  have : ∀ (ys zs : List α), Reps (fun x cs => cs = enc x) sz ys (ys.flatMap enc) → Reps (fun x cs => cs = enc x) sz (ys ++ zs) ((ys ++ zs).flatMap enc) := by
    intro ys zs
    induction zs generalizing ys with
    | nil => intro h; simpa using h
    | cons z zs ih =>
      intro h
      have h2 := ih (ys ++ [z]) (by
        rw [List.flatMap_append, List.flatMap_singleton]
        exact h.snoc rfl (hl z))
      rw [List.append_assoc] at h2
      exact h2
  simpa using this [] xs (by simpa using Reps.none (fun (x : α) cs => cs = enc x) sz)
theorem length_flat {α : Type} {enc : α → List Value} {sz : Nat} (hl : ∀ x, (enc x).length = sz) (xs : List α) : (xs.flatMap enc).length = xs.length * sz := (reps_flat hl xs).1
/-- A literal's block as a row. -/
theorem blk_row {α : Type} {enc : α → List Value} {sz : Nat} (hl : ∀ x, (enc x).length = sz) (h1 : ∀ x, (enc x).all (·.oneCell') = true) {w : World} {g : Nat} {e : TypeId} {xs : List α} {cs : List Value} (hcs : cs = xs.flatMap enc) (hm : xs.length ≤ 9223372036854775807)
    (h : w.heap[g]? = some (.cells cs.toArray e (0, 0))) : (row (flk enc sz hl h1) e (.slice (some ⟨g, 0, none⟩) xs.length xs.length) xs (fun b => b = g)).ok w := by
  subst hcs
  have hlen := length_flat hl xs
  refine ⟨fun k hk => (by simpa [Value.ownBlock] using hk.symm), xs.flatMap enc, ⟨hlen, .inr ⟨g, xs.length, (xs.flatMap enc).toArray, rfl, Nat.zero_le _, h, Nat.le_refl _, by simpa [maxLen] using hm, ?_, ?_⟩⟩, reps_flat hl xs⟩
  · rw [List.size_toArray]; exact hlen
  · show (xs.flatMap enc).take (xs.length * sz) = _
    rw [← hlen, List.take_length]
/-- A literal's block as what is read. -/
theorem Rd.lit {α : Type} {enc : α → List Value} {sz : Nat} (hl : ∀ x, (enc x).length = sz) {w : World} {g : Nat} {e : TypeId} {xs : List α} {cs : List Value} (h : w.heap[g]? = some (.cells cs.toArray e (0, 0))) {n : Nat} (hn : n = xs.length) (hcs : cs = xs.flatMap enc) (hm : xs.length ≤ 9223372036854775807) : Rd enc sz w (some ⟨g, 0, none⟩) n xs := by
  subst hcs hn
  refine ⟨rfl, hm, fun _ => ⟨_, rfl, fun j p hj => ?_⟩⟩
  have hr := (reps_flat hl xs).2 j p hj
  refine ⟨enc p, hl p, rfl, fun i u hu => ?_⟩
  rw [add_plain2, Nat.zero_add, blk_cell h, List.getElem?_toArray]
  rw [← hr, List.getElem?_take] at hu
  split at hu
  · rwa [List.getElem?_drop] at hu
  · cases hu
/-- append to a literal. -/
theorem sh_append_blk {α : Type} {enc : α → List Value} {sz : Nat} (hl : ∀ x, (enc x).length = sz) (h1 : ∀ x, (enc x).all (·.oneCell') = true) {w0 W : World} {is : List HP} (HS : SH w0 W is) (hw : Region.wanted o (yielded ops a.tmps) = true) {s x : Operand} {t : TypeId} (ho : o.op = .call { callee := .builtin .append, args := #[s, x], argTypes := #[t, t] })
    (n : Nat) {g : Nat} {cs : List Value} {e : TypeId} (xs : List α) (hs : a.eval s = .slice (some ⟨g, 0, none⟩) xs.length xs.length) (hn : is[n]? = some (blk g cs e)) (hcs : cs = xs.flatMap enc) {A : Option Addr} {m c : Nat} (hx : a.eval x = .slice A m c) {ys : List α} (HR : Rd enc sz W A m ys)
    (ht : P.underlying t = some (.slice e)) {z : Value} {bytes : Nat} (hinfo : (P.info? e).map (fun i => (i.zero, i.size, i.bytes)) = some (some z, sz, bytes)) (hz : z.cells.size = sz) (hs0 : 0 < sz) (hb0 : 0 < bytes) (hlim : (xs.length + m) * bytes ≤ 140737488355328)
    (h : ∀ v1 w1 S1, SH w0 w1 (is.set n (row (flk enc sz hl h1) e v1 (xs ++ ys) S1)) → wpList P ops Q rest (a.put o.dst v1) w1) : WP P ops Q (o :: rest) a W := by
  have hlen : xs.length ≤ 140737488355328 := Nat.le_trans (Nat.le_trans (Nat.le_add_right _ m) (Nat.le_mul_of_pos_right _ hb0)) hlim
  have HS2 := HS.say n (i' := row (flk enc sz hl h1) e (.slice (some ⟨g, 0, none⟩) xs.length xs.length) xs (fun b => b = g)) hn (fun hb => blk_row hl h1 hcs (by omega) hb) (fun b hb => hb)
  have hnl : n < is.length := (List.getElem?_eq_some_iff.1 hn).1
  refine sh_append (hl := hl) (h1 := h1) HS2 hw ho hs n (by rw [List.getElem?_set_self hnl]) hx HR ht hinfo hz hs0 hb0 hlim (fun v1 w1 S1 HS1 => h v1 w1 S1 ?_)
  rwa [List.set_set] at HS1
/-- append to a nil slice: a row more. -/
theorem sh_append_nil {α : Type} {enc : α → List Value} {sz : Nat} (hl : ∀ x, (enc x).length = sz) (h1 : ∀ x, (enc x).all (·.oneCell') = true) {w0 W : World} {is : List HP} (HS : SH w0 W is) (hw : Region.wanted o (yielded ops a.tmps) = true) {s x : Operand} {t : TypeId} (ho : o.op = .call { callee := .builtin .append, args := #[s, x], argTypes := #[t, t] })
    (hs : a.eval s = .slice none 0 0) {A : Option Addr} {m c : Nat} (hx : a.eval x = .slice A m c) {ys : List α} (HR : Rd enc sz W A m ys) {e : TypeId}
    (ht : P.underlying t = some (.slice e)) {z : Value} {bytes : Nat} (hinfo : (P.info? e).map (fun i => (i.zero, i.size, i.bytes)) = some (some z, sz, bytes)) (hz : z.cells.size = sz) (hs0 : 0 < sz) (hb0 : 0 < bytes) (hlim : m * bytes ≤ 140737488355328)
    (h : ∀ v1 w1 S1, SH w0 w1 (is ++ [row (flk enc sz hl h1) e v1 ys S1]) → wpList P ops Q rest (a.put o.dst v1) w1) : WP P ops Q (o :: rest) a W := by
  refine sh_append (hl := hl) (h1 := h1) (HS.nil (flk enc sz hl h1) e) hw ho hs is.length (xs := []) (S := fun _ => False) (by simp) hx HR ht hinfo hz hs0 hb0 (by simpa using hlim) (fun v1 w1 S1 HS1 => h v1 w1 S1 ?_)
  simpa using HS1
def ints (k : IntKind) (x : Int) : List Value := [.int k x]
theorem ints_len (k : IntKind) (x : Int) : (ints k x).length = 1 := rfl
theorem ints_one (k : IntKind) (x : Int) : (ints k x).all (·.oneCell') = true := rfl
theorem run_rd1 {α : Type} {enc : α → Value} {W : World} {ad : Addr} {n : Nat} {xs : List α} (HR : Rd (fun x => [enc x]) 1 W (some ad) n xs) {t : TypeId} {p : Operand} (ho : o.op = .load t p)
    {i : Nat} (haddr : a.eval p = .pointer (some (ad.add i))) (hi : i < n) (z : α) (hd : (P.underlying t).map aggD = some false) :
    (execOp a.eval o).run P W = .ok (.value (enc (xs.getD i z))) W := by
  obtain ⟨d, hd, hd1⟩ := Option.map_eq_some_iff.1 hd
  have hc := HR.cell z hi 0 (u := enc (xs.getD i z)) rfl
  rw [Nat.mul_one, Nat.add_zero] at hc
  unfold execOp
  simp only [ho, haddr]
  cases d <;> first | (simp [aggD] at hd1; done) | simp [Instr.loadAt, Instr.sureAddr, loadVar, isAgg, underlying, go_sem, hd, hc]
/-- A load of a one-cell element of a slice that is read. -/
theorem rd_load1 {α : Type} {enc : α → Value} {W : World} {ad : Addr} {n : Nat} {xs : List α} (HR : Rd (fun x => [enc x]) 1 W (some ad) n xs) (hw : Region.wanted o (yielded ops a.tmps) = true) {t : TypeId} {p : Operand} (ho : o.op = .load t p)
    {i : Nat} (haddr : a.eval p = .pointer (some (ad.add i))) (hi : i < n) (z : α) (hd : (P.underlying t).map aggD = some false)
    (h : ∀ x, xs.getD i z = x → wpList P ops Q rest (a.put o.dst (enc x)) W) : WP P ops Q (o :: rest) a W :=
  ⟨run_step hw (run_rd1 HR ho haddr hi z hd) (h _ rfl)⟩
end
end Go.Proofs.YtgcgnhcjjlnloaaDoor.Sl
