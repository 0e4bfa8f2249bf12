/- Lemmas towards the law: what of the text SlX it needs. -/
import Derived.Test.YtgcgnhcjjlnloaaDoorSlq
import Derived.Deep.QuietTactic
import Derived.BigQuiet
import Derived.WalkKit
import Derived.Test.YtgcgnhcjjlnloaaDoorTyq
import Derived.BigGuard
import Derived.Lib.SliceRun
import Derived.Deep.RegionHeld
import Derived.Lib.AppendZerosOnto
import Derived.Laws.IdiomCopy
import Derived.Lib.Overlaps
namespace Go.Proofs.YtgcgnhcjjlnloaaDoor.Sl
open Go.RowKit Go.Proofs.YtgcgnhcjjlnloaaDoorW.PrintWords
set_option linter.unusedVariables false
set_option linter.unusedSimpArgs false
theorem SH.drew {w0 w : World} {is : List HP} (h : SH w0 w is) : SH w0 w.drew is := h.quiet (below_drew (Below.refl _ _))
section
variable {P : Program} {ops : Array Oper} {rest : List Oper} {o : Oper} {a : Act} {Q : Exit → Act → World → Prop} {Qa : Act → Prop} {w0 : World} {is : List HP}
/-- A region that draws its order, whose operations hand back one value each in every world in which the items hold, and leave such a world. -/
theorem wp_region_sh {id : Nat} {W : World} {l : List Oper} (hm : P.follows .mixedOrders = true) (hB : Region.lexB .any l.toArray = true) (HS : SH w0 W is)
    (h : wpQuiet P l.toArray (fun w => SH w0 w is) (fun a' => ∀ w', SH w0 w' is → Q .normal a' w') l a) : (Code.region id l.toArray true).wp P Q a W :=
  wp_region_quiet (C := fun w => SH w0 w is) hm hB HS.drew (by simpa using h)
/-- the same in a region that draws -/
structure WQ (P : Program) (ops : Array Oper) (C : World → Prop) (Qa : Act → Prop) (l : List Oper) (a : Act) : Prop where
  out : wpQuiet P ops C Qa l a
theorem q_val (hw : Region.wanted o (yielded ops a.tmps) = true) {v : Value} (hrun : ∀ w, SH w0 w is → (execOp a.eval o).run P w = .ok (.value v) w) (h : wpQuiet P ops (fun w => SH w0 w is) Qa rest (a.put o.dst v)) :
    WQ P ops (fun w => SH w0 w is) Qa (o :: rest) a := by
  refine ⟨?_⟩
  refine wpQuiet_step fun K hK => ?_
  rw [if_pos hw]
  refine ⟨v, fun w hc => ?_, hK _ h⟩
  unfold Oper.quietAt
  rw [hrun w hc]
  exact ⟨rfl, rfl⟩
theorem qAny {C : World → Prop} {Qa : Act → Prop} (h : WQ P ops C Qa (o :: rest) a) : wpQuiet P ops C Qa (o :: rest) a := h.out
theorem qMv {C : World → Prop} {x : Operand} (_ho : o.op = .move x) (h : wpQuiet P ops C Qa (o :: rest) a) : wpQuiet P ops C Qa (o :: rest) a := h
theorem qAs {C : World → Prop} {x : Operand} (_ho : o.op = .assign x) (h : wpQuiet P ops C Qa (o :: rest) a) : wpQuiet P ops C Qa (o :: rest) a := h
theorem qLd {C : World → Prop} {ty : TypeId} {x : Operand} (_ho : o.op = .load ty x) (h : WQ P ops C Qa (o :: rest) a) : wpQuiet P ops C Qa (o :: rest) a := h.out
/-- A one-cell element of what is read in every world of the class. -/
theorem q_rd1 {α : Type} {enc : α → Value} {ad : Addr} {n : Nat} {xs : List α} (HR : ∀ w, SH w0 w is → Rd (fun x => [enc x]) 1 w (some ad) n xs) (hw : Region.wanted o (yielded ops a.tmps) = true) {t : TypeId} {p : Operand} (ho : o.op = .load t p)
    {i : Nat} (haddr : a.eval p = .pointer (some (ad.add i))) (hi : i < n) (z : α) (hd : (P.underlying t).map aggD = some false)
    (h : ∀ x, xs.getD i z = x → wpQuiet P ops (fun w => SH w0 w is) Qa rest (a.put o.dst (enc x))) : WQ P ops (fun w => SH w0 w is) Qa (o :: rest) a :=
  q_val hw (fun w hs => run_rd1 (HR w hs) ho haddr hi z hd) (h _ rfl)
end
/-- What a row holds is read, in every world of the class. -/
theorem row_rds {α : Type} {enc : α → List Value} {sz : Nat} {hl : ∀ x, (enc x).length = sz} {h1 : ∀ x, (enc x).all (·.oneCell') = true} {w0 : World} {is : List HP} (n : Nat) {e : TypeId} {A : Option Addr} {m c : Nat} {xs : List α} {S : Nat → Prop}
    (hn : is[n]? = some (row (flk enc sz hl h1) e (.slice A m c) xs S)) : ∀ w, SH w0 w is → Rd enc sz w A m xs := by
  intro w hs
  obtain ⟨A', c', he, _, hr⟩ := row_rd hs n hn
  injection he with ha hm hc
  subst ha hm hc
  exact hr
end Go.Proofs.YtgcgnhcjjlnloaaDoor.Sl
namespace Go.Proofs.YtgcgnhcjjlnloaaDoor.Sl
open Go.RowKit Go.Proofs.YtgcgnhcjjlnloaaDoorW.PrintWords
set_option linter.unusedVariables false
set_option linter.unusedSimpArgs false
set_option linter.unusedSectionVars false
section
variable {κ ν : Type} [DecidableEq κ]
def mget (m : List (κ × ν)) (k : κ) : Option ν := (m.find? (fun p => p.1 == k)).map (·.2)
def mput : List (κ × ν) → κ → ν → List (κ × ν)
  | [], k, v => [(k, v)]
  | p :: m, k, v => if p.1 = k then (k, v) :: m else p :: mput m k v
theorem mget_put : ∀ (m : List (κ × ν)) (k k' : κ) (v : ν), mget (mput m k v) k' = if k = k' then some v else mget m k'
  | [], k, k', v => by
    by_cases h : k = k'
    · simp [mput, mget, h]
    · simp [mput, mget, h]
  | p :: m, k, k', v => by
    have ih := mget_put m k k' v
    unfold mput
    by_cases h : p.1 = k
    · rw [if_pos h]
      by_cases h' : k = k'
      · simp [mget, h']
      · have hp : ¬ p.1 = k' := fun e => h' (h.symm.trans e)
        simp [mget, h', hp]
    · rw [if_neg h]
      unfold mget at ih ⊢
      by_cases hp : p.1 = k'
      · have h' : ¬ k = k' := fun e => h (hp.trans e.symm)
        simp [List.find?_cons, hp, h']
      · have hb : (p.1 == k') = false := beq_eq_false_iff_ne.2 hp
        rw [List.find?_cons, hb, List.find?_cons, hb]
        exact ih
theorem mput_keys {m : List (κ × ν)} {k : κ} {v : ν} {q : κ → Prop} (h : ∀ p ∈ m, q p.1) (hk : q k) : ∀ p ∈ mput m k v, q p.1 := by
  induction m with
  | nil => intro p hp; simp [mput] at hp; subst hp; exact hk
  | cons x m ih =>
    intro p hp
    unfold mput at hp
    split at hp
    · rcases List.mem_cons.1 hp with rfl | hp
      · exact hk
      · exact h p (List.mem_cons_of_mem _ hp)
    · rcases List.mem_cons.1 hp with rfl | hp
      · exact h _ List.mem_cons_self
      · exact ih (fun p hp => h p (List.mem_cons_of_mem _ hp)) p hp
end
structure KeyOK (P : Program) (kt : TypeId) {κ : Type} [DecidableEq κ] (enc : κ → Value) (q : κ → Prop) : Prop where
  eq : ∀ x y w, q x → q y → (Op.equal kt (enc x) (enc y)).run P w = .ok (decide (x = y)) w
  chk : ∀ b x w, q x → (Instr.checkKey b 10000 kt (enc x)).run P w = .ok () w
  same : ∀ x, q x → Instr.sameBits 10000 (enc x) (enc x) = true
  und : ∃ d, P.underlying kt = some d ∧ ((∀ x y, Instr.sameNow d (enc x) (enc y) = none) ∨ (∀ x y, Instr.sameNow d (enc x) (enc y) = some (decide (x = y))))
section
variable {P : Program} {κ ν : Type} [DecidableEq κ] {kt : TypeId} {enc : κ → Value} {encV : ν → Value} {q : κ → Prop}
/-- what the entries hold -/
def pairs (es : List MapEntry) : List (Value × Value) := es.map fun e => (e.key, e.val)
def encP (enc : κ → Value) (encV : ν → Value) (m : List (κ × ν)) : List (Value × Value) := m.map fun p => (enc p.1, encV p.2)
def atFrom : List (κ × ν) → κ → Nat → Option (Nat × ν)
  | [], _, _ => none
  | p :: m, k, i => if p.1 = k then some (i, p.2) else atFrom m k (i + 1)
theorem mget_atFrom : ∀ (m : List (κ × ν)) (k : κ) (i : Nat), (atFrom m k i).map (·.2) = mget m k
  | [], _, _ => rfl
  | p :: m, k, i => by
    unfold atFrom mget
    by_cases h : p.1 = k
    · simp [h]
    · have := mget_atFrom m k (i + 1)
      unfold mget at this
      have hb : (p.1 == k) = false := beq_eq_false_iff_ne.2 h
      rw [if_neg h, List.find?_cons, hb]
      exact this
theorem run_findAsking (K : KeyOK P kt enc q) {k : κ} (hk : q k) (w : World) : ∀ (m : List (κ × ν)) (es : List MapEntry) (i : Nat), pairs es = encP enc encV m → (∀ p ∈ m, q p.1) →
    (Instr.findAsking kt (enc k) es i).run P w = .ok ((atFrom m k i).map fun r => (r.1, encV r.2)) w
  | [], es, i, h, _ => by
    have : es = [] := by cases es <;> simp_all [pairs, encP]
    subst this
    simp [Instr.findAsking, atFrom]
  | p :: m, es, i, h, hq => by
    cases es with
    | nil => simp [pairs, encP] at h
    | cons e es =>
      simp only [pairs, encP, List.map_cons, List.cons.injEq, Prod.mk.injEq] at h
      obtain ⟨⟨h1, h2⟩, h3⟩ := h
      have he := K.eq k p.1 w hk (hq p List.mem_cons_self)
      rw [Instr.findAsking]
      simp only [Sem.run_bind, h1, he, Result.andThen_ok]
      by_cases hp : p.1 = k
      · have : decide (k = p.1) = true := decide_eq_true hp.symm
        rw [this]
        simp [atFrom, hp, h2]
      · have : decide (k = p.1) = false := decide_eq_false (fun e => hp e.symm)
        rw [this]
        have ih := run_findAsking K hk w m es (i + 1) h3 (fun p hp => hq p (List.mem_cons_of_mem _ hp))
        simp only [Bool.false_eq_true, if_false, ih, atFrom, if_neg hp]
theorem findNow_some {d : TypeDesc} (hs : ∀ x y, Instr.sameNow d (enc x) (enc y) = some (decide (x = y))) (k : κ) : ∀ (m : List (κ × ν)) (es : List MapEntry) (i : Nat), pairs es = encP enc encV m →
    Instr.findNow d (enc k) es i = some ((atFrom m k i).map fun r => (r.1, encV r.2))
  | [], es, i, h => by
    have : es = [] := by cases es <;> simp_all [pairs, encP]
    subst this
    simp [Instr.findNow, atFrom]
  | p :: m, es, i, h => by
    cases es with
    | nil => simp [pairs, encP] at h
    | cons e es =>
      simp only [pairs, encP, List.map_cons, List.cons.injEq, Prod.mk.injEq] at h
      obtain ⟨⟨h1, h2⟩, h3⟩ := h
      rw [Instr.findNow, h1, hs]
      by_cases hp : p.1 = k
      · have : decide (k = p.1) = true := decide_eq_true hp.symm
        rw [this]
        simp [atFrom, hp, h2]
      · have : decide (k = p.1) = false := decide_eq_false (fun e => hp e.symm)
        rw [this]
        have ih := findNow_some hs k m es (i + 1) h3
        simp only [ih, atFrom, if_neg hp]
theorem run_findKey (K : KeyOK P kt enc q) {k : κ} (hk : q k) (w : World) (m : List (κ × ν)) (es : List MapEntry) (h : pairs es = encP enc encV m) (hq : ∀ p ∈ m, q p.1) :
    (Instr.findKey kt (enc k) es).run P w = .ok ((atFrom m k 0).map fun r => (r.1, encV r.2)) w := by
  obtain ⟨d, hd, hs⟩ := K.und
  unfold Instr.findKey
  simp only [Sem.run_bind, run_underlying hd, Result.andThen_ok]
  rcases hs with hs | hs
  · cases m with
    | nil =>
      have : es = [] := by cases es <;> simp_all [pairs, encP]
      subst this
      simp [Instr.findNow, atFrom]
    | cons p m =>
      cases es with
      | nil => simp [pairs, encP] at h
      | cons e es =>
        have h1 : e.key = enc p.1 := by
          simp only [pairs, encP, List.map_cons, List.cons.injEq, Prod.mk.injEq] at h
          exact h.1.1
        have : Instr.findNow d (enc k) (e :: es) 0 = none := by
          rw [Instr.findNow, h1, hs]
        rw [this]
        exact run_findAsking K hk w (p :: m) (e :: es) 0 h hq
  · rw [findNow_some hs k m es 0 h]
    simp
theorem atFrom_bound : ∀ (m : List (κ × ν)) (k : κ) (i j : Nat) (v : ν), atFrom m k i = some (j, v) → ∃ n, j = i + n ∧ n < m.length ∧ (m[n]?).map (·.1) = some k
  | [], _, _, _, _, h => by simp [atFrom] at h
  | p :: m, k, i, j, v, h => by
    unfold atFrom at h
    split at h
    · rename_i hp
      simp at h
      exact ⟨0, by omega, by simp, by simp [hp]⟩
    · obtain ⟨n, h1, h2, h3⟩ := atFrom_bound m k (i + 1) j v h
      exact ⟨n + 1, by omega, by simp; omega, by simpa using h3⟩
theorem mput_at : ∀ (m : List (κ × ν)) (k : κ) (v : ν) (i : Nat), (match atFrom m k i with | some (j, _) => m.set (j - i) (k, v) | none => m ++ [(k, v)]) = mput m k v
  | [], k, v, i => by simp [atFrom, mput]
  | p :: m, k, v, i => by
    have ih := mput_at m k v (i + 1)
    unfold atFrom mput
    by_cases hp : p.1 = k
    · simp [hp]
    · rw [if_neg hp, if_neg hp]
      cases ha : atFrom m k (i + 1) with
      | none => rw [ha] at ih; simp only at ih; simp [← ih]
      | some r =>
        obtain ⟨j, u⟩ := r
        rw [ha] at ih
        simp only at ih
        obtain ⟨n, h1, _, _⟩ := atFrom_bound m k (i + 1) j u ha
        simp only
        rw [← ih, show j - i = (j - (i + 1)) + 1 from by omega, List.set_cons_succ]
def mp (g : Nat) (enc : κ → Value) (encV : ν → Value) (q : κ → Prop) (m : List (κ × ν)) : HP where
  fp := fun b => b = g
  ok := fun w => ∃ es clock, w.heap[g]? = some (.map es clock) ∧ pairs es.toList = encP enc encV m ∧ (∀ p ∈ m, q p.1) ∧ (∀ e ∈ es.toList, e.born < clock) ∧ (es.toList.map (·.born)).Nodup
  loc := by
    rintro w w' h ⟨es, clock, h1, h2⟩
    exact ⟨es, clock, (h _ rfl).trans h1, h2⟩
theorem run_getObj {w : World} {g : Nat} {es : Array MapEntry} {c : Nat} (h : w.heap[g]? = some (.map es c)) : (getObj g).run P w = .ok (.map es c) w := by
  simp [getObj, Sem.run, h]
theorem run_setObj {w : World} {g : Nat} {es : Array MapEntry} {c : Nat} (h : w.heap[g]? = some (.map es c)) (o : Obj) : (setObj g o).run P w = .ok () { w with heap := w.heap.setIfInBounds g o } := by
  simp [setObj, Sem.run, h]
theorem Chg.setObj {w : World} {g : Nat} (o : Obj) (h : g < w.heap.size) : Chg (fun b => b = g) w { w with heap := w.heap.setIfInBounds g o } :=
  ⟨rfl, rfl, rfl, by simp, fun k hk hs => by
    show (w.heap.setIfInBounds g o)[k]? = _
    rw [Array.getElem?_setIfInBounds_ne (fun e => hs e.symm)]⟩
section
variable {ops : Array Oper} {rest : List Oper} {o : Oper} {a : Act} {Q : Exit → Act → World → Prop}
theorem gMm {W : World} {t : TypeId} {r : Option Operand} (_ho : o.op = .makeMap t r) (h : WP P ops Q (o :: rest) a W) : wpList P ops Q (o :: rest) a W := h.out
theorem gMu {W : World} {t : TypeId} {m k v : Operand} (_ho : o.op = .mapUpdate t m k v) (h : WP P ops Q (o :: rest) a W) : wpList P ops Q (o :: rest) a W := h.out
theorem gLk {W : World} {t : TypeId} {m k : Operand} {c : Bool} (_ho : o.op = .lookup t m k c) (h : WP P ops Q (o :: rest) a W) : wpList P ops Q (o :: rest) a W := h.out
/-- make(map[K]V) -/
theorem sh_makeMap {w0 W : World} {is : List HP} (HS : SH w0 W is) (hw : Region.wanted o (yielded ops a.tmps) = true) {t : TypeId} (ho : o.op = .makeMap t none) (enc : κ → Value) (encV : ν → Value) (q : κ → Prop)
    (h : ∀ g w1, w0.heap.size ≤ g → SH w0 w1 (is ++ [mp g enc encV q []]) → wpList P ops Q rest (a.put o.dst (.map (some g))) w1) : WP P ops Q (o :: rest) a W := by
  refine ⟨?_⟩
  refine run_step hw (w1 := W.alloc (.map #[] 0)) (v := .map (some W.heap.size)) ?_ (h _ _ HS.size (HS.push (below_alloc (Below.refl _ _) _) ⟨#[], 0, heap_alloc_new _ _, rfl, by simp, by simp, by simp⟩ (fun b hb => by cases hb; exact ⟨Nat.le_refl _, by simp⟩)))
  unfold execOp
  simp only [ho]
  rfl
/-- m[k] = v -/
theorem sh_upd0 {w0 W : World} {is : List HP} (HS : SH w0 W is) (hw : Region.wanted o (yielded ops a.tmps) = true) (hN : o.dst = none) {t : TypeId} {m k v : Operand} (ho : o.op = .mapUpdate t m k v ∨ o.op = .insert t m k v)
    {g : Nat} (hm : a.eval m = .map (some g)) (n : Nat) {mm : List (κ × ν)} (hn : is[n]? = some (mp g enc encV q mm)) (kk : κ) (hk : a.eval k = enc kk) (hq : q kk) (vv : ν) (hv : a.eval v = encV vv)
    {et : TypeId} (ht : P.underlying t = some (.map kt et)) (K : KeyOK P kt enc q)
    (h : ∀ w1, SH w0 w1 (is.set n (mp g enc encV q (mput mm kk vv))) → wpList P ops Q rest a w1) : WP P ops Q (o :: rest) a W := by
  refine ⟨?_⟩
  obtain ⟨es, clock, hh, hp, hqs, hb, hnd⟩ := HS.at n hn
  have hg : g < W.heap.size := (Array.getElem?_eq_some_iff.1 hh).1
  have hf := run_findKey (encV := encV) K hq W mm es.toList hp hqs
  have hpa := mput_at mm kk vv 0
  refine wpList_step fun KK hKK => ?_
  rw [if_pos hw]
  have key : ∃ es' clock', (Instr.mapUpdate t (.map (some g)) (enc kk) (encV vv)).run P W = .ok () { W with heap := W.heap.setIfInBounds g (.map es' clock') } ∧ pairs es'.toList = encP enc encV (mput mm kk vv) ∧ (∀ e ∈ es'.toList, e.born < clock') ∧ (es'.toList.map (·.born)).Nodup := by
    cases ha : atFrom mm kk 0 with
    | none =>
      rw [ha] at hf hpa
      refine ⟨es.push { key := enc kk, val := encV vv, born := clock }, clock + 1, ?_, ?_, ?_, ?_⟩
      · simp only [Instr.mapUpdate, Sem.run_bind, run_underlying ht, Result.andThen_ok, run_getObj hh, K.chk _ _ _ hq, hf, Option.map_none, run_setObj hh, Sem.run_pure]
      · rw [← hpa]
        simp only [pairs, encP, Array.toList_push, List.map_append, List.map_cons, List.map_nil]
        rw [show es.toList.map (fun e => (e.key, e.val)) = _ from hp]
        rfl
      · intro e he
        rw [Array.toList_push] at he
        rcases List.mem_append.1 he with he | he
        · have := hb e he; omega
        · rw [List.mem_singleton] at he; subst he; simp
      · rw [Array.toList_push, List.map_append, List.nodup_append]
        refine ⟨hnd, by simp, ?_⟩
        intro x hx y hy
        obtain ⟨e, he, rfl⟩ := List.mem_map.1 hx
        simp at hy
        have := hb e he
        omega
    | some r =>
      obtain ⟨j, u⟩ := r
      rw [ha] at hf hpa
      obtain ⟨n', hj, hjl, hjk⟩ := atFrom_bound mm kk 0 j u ha
      have hj' : j = n' := by omega
      subst hj'
      have hlen : es.toList.length = mm.length := by
        have := congrArg List.length hp
        simpa [pairs, encP] using this
      have hjs : j < es.size := by rw [Array.length_toList] at hlen; omega
      have hkey : es[j].key = enc kk := by
        have h1 := congrArg (fun l => l[j]?) hp
        simp only [pairs, encP, List.getElem?_map] at h1
        rw [List.getElem?_eq_getElem (by rw [Array.length_toList]; exact hjs), List.getElem?_eq_getElem hjl] at h1
        rw [List.getElem?_eq_getElem hjl] at hjk
        simp at h1 hjk
        rw [← hjk]; exact h1.1
      refine ⟨es.modify j fun e => { e with key := enc kk, val := encV vv }, clock, ?_, ?_, ?_, ?_⟩
      · have hst : (Instr.keyThatStays (((es[j]?).map (·.key)).getD (enc kk)) (enc kk)).run P W = .ok (enc kk) W := by
          rw [Array.getElem?_eq_getElem hjs]
          simp only [Option.map_some, Option.getD_some, hkey, Instr.keyThatStays, K.same _ hq, if_true, Sem.run_pure]
        simp only [Instr.mapUpdate, Sem.run_bind, run_underlying ht, Result.andThen_ok, run_getObj hh, K.chk _ _ _ hq, hf, Option.map_some, hst, run_setObj hh, Sem.run_pure]
      · simp only [Nat.sub_zero] at hpa
        rw [← hpa]
        apply List.ext_getElem?
        intro i
        have h1 := congrArg (fun l => l[i]?) hp
        simp only [pairs, encP, List.getElem?_map] at h1 ⊢
        rw [Array.getElem?_toList, Array.getElem?_modify, List.getElem?_set]
        rw [Array.getElem?_toList] at h1
        by_cases hij : j = i
        · subst hij
          rw [if_pos rfl, if_pos rfl, if_pos hjl, Array.getElem?_eq_getElem hjs]
          rfl
        · rw [if_neg hij, if_neg hij]
          exact h1
      · intro e he
        rw [Array.mem_toList_iff, Array.mem_iff_getElem] at he
        obtain ⟨i, hi, rfl⟩ := he
        rw [Array.getElem_modify]
        split
        · rename_i hij; exact hb (es[i]'(by simpa using hi)) (by simp)
        · exact hb (es[i]'(by simpa using hi)) (by simp)
      · have : (es.modify j fun e => { e with key := enc kk, val := encV vv }).toList.map (·.born) = es.toList.map (·.born) := by
          apply List.ext_getElem?
          intro i
          rw [List.getElem?_map, List.getElem?_map, Array.getElem?_toList, Array.getElem?_toList, Array.getElem?_modify]
          split
          · rename_i hij
            subst hij
            cases es[j]? <;> rfl
          · rfl
        rw [this]; exact hnd
  obtain ⟨es', clock', hrun, hp', hb', hnd'⟩ := key
  have hex : (execOp a.eval o).run P W = .ok .skip { W with heap := W.heap.setIfInBounds g (.map es' clock') } := by
    unfold execOp
    rcases ho with ho | ho <;> simp only [ho, hm, hk, hv, Sem.run_bind, Sem.run_pure, Result.andThen_ok, hrun]
  unfold Oper.wp
  rw [hex]
  show KK (a.put o.dst undef) _
  rw [hN]
  refine hKK a _ (h _ (HS.upd n hn (Chg.setObj _ hg) ⟨es', clock', ?_, hp', mput_keys hqs hq, hb', hnd'⟩ (fun b hb => ?_)))
  · show (W.heap.setIfInBounds g _)[g]? = _
    rw [Array.getElem?_setIfInBounds_self_of_lt hg]
  · cases hb
    exact ⟨.inl rfl, by simpa using hg⟩
theorem sh_update {w0 W : World} {is : List HP} (HS : SH w0 W is) (hw : Region.wanted o (yielded ops a.tmps) = true) (hN : o.dst = none) {t : TypeId} {m k v : Operand} (ho : o.op = .mapUpdate t m k v)
    {g : Nat} (hm : a.eval m = .map (some g)) (n : Nat) {mm : List (κ × ν)} (hn : is[n]? = some (mp g enc encV q mm)) (kk : κ) (hk : a.eval k = enc kk) (hq : q kk) (vv : ν) (hv : a.eval v = encV vv)
    {et : TypeId} (ht : P.underlying t = some (.map kt et)) (K : KeyOK P kt enc q)
    (h : ∀ w1, SH w0 w1 (is.set n (mp g enc encV q (mput mm kk vv))) → wpList P ops Q rest a w1) : WP P ops Q (o :: rest) a W := sh_upd0 HS hw hN (.inl ho) hm n hn kk hk hq vv hv ht K h
/-- m[k], of one result -/
theorem sh_lookup {w0 W : World} {is : List HP} (HS : SH w0 W is) (hw : Region.wanted o (yielded ops a.tmps) = true) {t : TypeId} {m k : Operand} (ho : o.op = .lookup t m k false)
    {g : Nat} (hm : a.eval m = .map (some g)) (n : Nat) {mm : List (κ × ν)} (hn : is[n]? = some (mp g enc encV q mm)) (kk : κ) (hk : a.eval k = enc kk) (hq : q kk)
    {et : TypeId} (ht : P.underlying t = some (.map kt et)) (K : KeyOK P kt enc q) {z : ν} (hz : (P.info? et).bind (·.zero) = some (encV z))
    (h : wpList P ops Q rest (a.put o.dst (encV ((mget mm kk).getD z))) W) : WP P ops Q (o :: rest) a W := by
  refine ⟨?_⟩
  obtain ⟨es, clock, hh, hp, hqs, hb, hnd⟩ := HS.at n hn
  have hf := run_findKey (encV := encV) K hq W mm es.toList hp hqs
  obtain ⟨inf, hi, hz⟩ := Option.bind_eq_some_iff.1 hz
  have hzv : (zeroValue et).run P W = .ok (encV z) W := by simp [zeroValue, typeInfo, hi, hz]
  have hl := mget_atFrom mm kk 0
  refine run_step hw ?_ h
  unfold execOp
  simp only [ho, hm, hk]
  cases ha : atFrom mm kk 0 with
  | none =>
    rw [ha] at hf hl
    simp only [Option.map_none] at hf hl
    rw [← hl]
    simp [Instr.lookup, run_underlying ht, run_getObj hh, K.chk _ _ _ hq, hf, hzv]
  | some r =>
    rw [ha] at hf hl
    simp only [Option.map_some] at hf hl
    rw [← hl]
    simp [Instr.lookup, run_underlying ht, run_getObj hh, K.chk _ _ _ hq, hf, hzv]
end
end
end Go.Proofs.YtgcgnhcjjlnloaaDoor.Sl
namespace Go.Proofs.YtgcgnhcjjlnloaaDoor.Sl
open Go.RowKit Go.Proofs.YtgcgnhcjjlnloaaDoorW.PrintWords
set_option linter.unusedVariables false
set_option linter.unusedSimpArgs false
section
variable {P : Program} {ops : Array Oper} {rest : List Oper} {o : Oper} {a : Act} {Q : Exit → Act → World → Prop}
/-- what the slot of operation j holds -/
def slotOf (ops : Array Oper) (a : Act) (j : Nat) : Value :=
  match ops[j]? with
  | some o => match o.dst with
    | some d => a.tmps.getD d undef
    | none => undef
  | none => undef
end
end Go.Proofs.YtgcgnhcjjlnloaaDoor.Sl
namespace Go.Proofs.YtgcgnhcjjlnloaaDoor.Sl
open Go.RowKit Go.Proofs.YtgcgnhcjjlnloaaDoorW.PrintWords
set_option linter.unusedVariables false
set_option linter.unusedSimpArgs false
section
variable {P : Program} {ops : Array Oper} {rest : List Oper} {o : Oper} {a : Act} {Q : Exit → Act → World → Prop}
theorem add0 (g i : Nat) : Addr.add ⟨g, 0, none⟩ i = ⟨g, i, none⟩ := by
  simp [Addr.add]
  intro h; omega
end
end Go.Proofs.YtgcgnhcjjlnloaaDoor.Sl
namespace Go.Proofs.YtgcgnhcjjlnloaaDoor.Sl
open Go.RowKit Go.Proofs.YtgcgnhcjjlnloaaDoorW.PrintWords
set_option linter.unusedVariables false
set_option linter.unusedSimpArgs false
section
variable {P : Program} {o : Oper} {a : Act} {Q : Exit → Act → World → Prop} {w0 w : World} {is : List HP} {fuel i : Nat} {listed : Array Bool}
theorem held_start {id : Nat} {W : World} {l : List Oper} {a : Act} (hm : P.follows .mixedOrders = true) (HS : SH w0 W is)
    (h : SH w0 W.drew is → wpAnyH P .any l.toArray Q (fun w => SH w0 w is) l.toArray.size (Array.replicate l.toArray.size false) a W.drew) : (Code.region id l.toArray true).wp P Q a W :=
  wp_region_held_drew (S := fun w => SH w0 w is) hm HS.drew h
variable {ops : Array Oper}
theorem h_val (i : Nat) {v : Value} (hi : ops[i]? = some o) (hs : Region.noSelect ops = true) (hf : Region.free .any ops listed i = true) (hr : (Region.ready .any ops listed).contains i = true)
    (hQ : ∀ c a w, Q (.panic c) (a.put o.dst v) w → Q (.panic c) a w) (hS : SH w0 w is) (hw : Region.wanted o (yielded ops a.tmps) = true) (hrun : ∀ w, SH w0 w is → (execOp a.eval o).run P w = .ok (.value v) w)
    (h : wpAnyH P .any ops Q (fun w => SH w0 w is) fuel (listed.setIfInBounds i true) (a.put o.dst v) w) : wpAnyH P .any ops Q (fun w => SH w0 w is) (fuel + 1) listed a w :=
  wpAnyH_take hi hs hf hr hQ (.inl ⟨hw, hrun⟩) hS h
theorem h_load (i : Nat) (hi : ops[i]? = some o) (hs : Region.noSelect ops = true) (hf : Region.free .any ops listed i = true) (hr : (Region.ready .any ops listed).contains i = true)
    {v : Value} (hQ : ∀ c a w, Q (.panic c) (a.put o.dst v) w → Q (.panic c) a w) (hS : SH w0 w is) (hw : Region.wanted o (yielded ops a.tmps) = true) {t : TypeId} {p : Operand} (ho : o.op = .load t p)
    {g j : Nat} (haddr : a.eval p = .pointer (some ⟨g, j, none⟩)) (n : Nat) {cs : List Value} {e : TypeId} (hn : is[n]? = some (blk g cs e)) (hd : (P.underlying t).map aggD = some false) (hv : cs[j]? = some v)
    (h : wpAnyH P .any ops Q (fun w => SH w0 w is) fuel (listed.setIfInBounds i true) (a.put o.dst v) w) : wpAnyH P .any ops Q (fun w => SH w0 w is) (fuel + 1) listed a w := by
  obtain ⟨d, hd, hd1⟩ := Option.map_eq_some_iff.1 hd
  refine h_val i hi hs hf hr hQ hS hw (fun w hs => ?_) h
  have hc := (hs.cells n hn).1 j
  rw [hv] at hc
  unfold execOp
  simp only [ho, haddr]
  cases d <;> first | (simp [aggD] at hd1; done) | simp [Instr.loadAt, Instr.sureAddr, loadVar, isAgg, underlying, go_sem, hd, hc]
theorem h_loads (i : Nat) (hi : ops[i]? = some o) (hs : Region.noSelect ops = true) (hf : Region.free .any ops listed i = true) (hr : (Region.ready .any ops listed).contains i = true)
    {v : Value} (hQ : ∀ c a w, Q (.panic c) (a.put o.dst v) w → Q (.panic c) a w) (hS : SH w0 w is) (hw : Region.wanted o (yielded ops a.tmps) = true) {t : TypeId} {p : Operand} (ho : o.op = .load t p)
    {g j : Nat} (haddr : a.eval p = .pointer (some ⟨g, j, none⟩)) (n : Nat) {cs : List Value} {e : TypeId} (hn : is[n]? = some (blk g cs e)) (hd : (P.underlying t).map aggD = some true) {k : Nat} (hk : (P.info? t).map (·.size) = some k) (hfit : j + k ≤ cs.length) (hv : v = .agg ((cs.drop j).take k).toArray)
    (h : wpAnyH P .any ops Q (fun w => SH w0 w is) fuel (listed.setIfInBounds i true) (a.put o.dst v) w) : wpAnyH P .any ops Q (fun w => SH w0 w is) (fuel + 1) listed a w := by
  subst hv
  obtain ⟨d, hd, hd1⟩ := Option.map_eq_some_iff.1 hd
  obtain ⟨inf, hinf, hsz⟩ := Option.map_eq_some_iff.1 hk
  refine h_val i hi hs hf hr hQ hS hw (fun w hs => ?_) h
  have hc := (hs.cells n hn).1
  have hl : ((cs.drop j).take k).length = k := by simp; omega
  have hr := run_loadCells_at (P := P) (w := w) g j ((cs.drop j).take k) (fun m v hj => by
    rw [hc]
    rw [List.getElem?_take] at hj
    split at hj
    · rw [List.getElem?_drop] at hj; exact hj
    · cases hj)
  rw [hl] at hr
  unfold loadCells at hr
  unfold execOp
  simp only [ho, haddr]
  cases d <;> first | (simp [aggD] at hd1; done) | simp [Instr.loadAt, Instr.sureAddr, loadVar, isAgg, sizeOf, typeInfo, underlying, go_sem, hd, hinf, hsz, hr]
theorem h_call (i : Nat) (hi : ops[i]? = some o) (hr : Region.ready .any ops listed = [i]) (hw : Region.wanted o (yielded ops a.tmps) = true)
    {f : FuncId} {xs : Array Operand} {ts : Array TypeId} (ho : o.op = .call { callee := .value (.func f), args := xs, argTypes := ts }) {vs : Array Value} (hvs : xs.map a.eval = vs) (hf : callable P f = true)
    {R : Ending → World → Prop} (hc : Calls P f vs w R)
    (h : ∀ e w', R e w' → ∃ v, e = .returned v ∧ SH w0 w' is ∧ wpAnyH P .any ops Q (fun w => SH w0 w is) fuel (listed.setIfInBounds i true) (a.put o.dst v) w') : wpAnyH P .any ops Q (fun w => SH w0 w is) (fuel + 1) listed a w := by
  refine wpAnyH_ready hr (by simp) (AllReadyH.cons hi (fun K hK => ?_) AllReadyH.nil)
  rw [if_pos hw]
  have he : (execOp a.eval o).run P w = .ok (.enter f vs) w := by
    subst hvs
    unfold execOp
    simp [ho, Act.eval, go_sem, run_callable hf]
  unfold Oper.wp
  rw [he]
  refine hc.mono fun e w' hR => ?_
  obtain ⟨v, rfl, hS, hrest⟩ := h e w' hR
  exact hK.out _ _ hS (fun _ => hrest)
/-- One event of a chain: by the laws of a plain walk. -/
def onlyN (K : Act → World → Prop) : Exit → Act → World → Prop
  | .normal, a, w => K a w
  | _, _, _ => False
theorem upon_only {K : Act → World → Prop} : ∀ r, o.upon P a K (onlyN K) r → o.upon P a K Q r
  | .ok (.value _) _, h => h
  | .ok .skip _, h => h
  | .ok (.defer _) _, h => h
  | .ok (.enter f args) w', h => by
    rw [Oper.upon_enter] at h ⊢
    refine Calls.mono h fun e w'' he => ?_
    cases e with
    | returned v => exact he
    | panicked c => exact he.elim
    | outgrown => obtain ⟨_, _, h⟩ := he; exact h.elim
  | .ok (.row _ _) _, h => h
  | .halt (.panic _) _, h => h.elim
end
end Go.Proofs.YtgcgnhcjjlnloaaDoor.Sl
namespace Go.Proofs.YtgcgnhcjjlnloaaDoor.Sl
open Go.RowKit Go.Proofs.YtgcgnhcjjlnloaaDoorW.PrintWords
set_option linter.unusedVariables false
set_option linter.unusedSimpArgs false
section
variable {P : Program} {ops : Array Oper} {rest : List Oper} {o : Oper} {a : Act} {Q : Exit → Act → World → Prop}
theorem rd_loadf {W : World} {α : Type} {enc : α → List Value} {sz : Nat} {ad : Addr} {n : Nat} {xs : List α} (HR : Rd enc sz W (some ad) n xs) (hw : Region.wanted o (yielded ops a.tmps) = true) {t : TypeId} {p : Operand} (ho : o.op = .load t p)
    {i : Nat} (j : Nat) (haddr : a.eval p = .pointer (some (ad.add (i * sz + j)))) (hi : i < n) (z : α) (hd : (P.underlying t).map aggD = some false) (f : α → Value) (hf : ∀ x, (enc x)[j]? = some (f x))
    (h : ∀ x, xs.getD i z = x → wpList P ops Q rest (a.put o.dst (f x)) W) : WP P ops Q (o :: rest) a W := by
  obtain ⟨d, hd, hd1⟩ := Option.map_eq_some_iff.1 hd
  refine ⟨run_step hw ?_ (h _ rfl)⟩
  have hc := HR.cell z hi j (hf _)
  unfold execOp
  simp only [ho, haddr]
  cases d <;> first | (simp [aggD] at hd1; done) | simp [Instr.loadAt, Instr.sureAddr, loadVar, isAgg, underlying, go_sem, hd, hc]
end
end Go.Proofs.YtgcgnhcjjlnloaaDoor.Sl
namespace Go.Proofs.YtgcgnhcjjlnloaaDoor.Sl
open Go.RowKit Go.Proofs.YtgcgnhcjjlnloaaDoorW.PrintWords
set_option linter.unusedVariables false
set_option linter.unusedSimpArgs false
theorem cell_loc {w w' : World} {a : Addr} (h : w'.heap[a.block]? = w.heap[a.block]?) : w'.cell? a = w.cell? a := by
  unfold World.cell?
  rw [h]
theorem add_block (a : Addr) (n : Nat) : (a.add n).block = a.block := by
  unfold Addr.add
  split <;> rfl
/-- What is read hangs on its own block alone. -/
theorem Rd.loc {α : Type} {enc : α → List Value} {sz : Nat} {w w' : World} {A : Option Addr} {n : Nat} {xs : List α} (h : Rd enc sz w A n xs) (hb : ∀ ad, A = some ad → w'.heap[ad.block]? = w.heap[ad.block]?) : Rd enc sz w' A n xs := by
  refine ⟨h.1, h.2.1, fun hn => ?_⟩
  obtain ⟨ad, e, hc⟩ := h.2.2 hn
  refine ⟨ad, e, fun j p hj => ?_⟩
  obtain ⟨c, h1, h2, h3⟩ := hc j p hj
  refine ⟨c, h1, h2, fun i u hu => ?_⟩
  rw [← h3 i u hu]
  refine cell_loc ?_
  simp only [add_block]
  exact hb ad e
/-- A slice's block is among those. -/
def inS (S : Nat → Prop) (A : Option Addr) : Prop := ∀ ad, A = some ad → S ad.block
theorem inS.mono {S T : Nat → Prop} {A : Option Addr} (h : inS S A) (k : ∀ b, S b → T b) : inS T A := fun ad e => k _ (h ad e)
/-- What is read, and where it lies. -/
def rdI {α : Type} (enc : α → List Value) (sz : Nat) (A : Option Addr) (n : Nat) (xs : List α) (S : Nat → Prop) : HP where
  fp := S
  ok := fun w => Rd enc sz w A n xs ∧ inS S A
  loc := fun h k => ⟨k.1.loc (fun ad e => h _ (k.2 ad e)), k.2⟩
/-- Nothing. -/
def noI : HP where
  fp := fun _ => False
  ok := fun _ => True
  loc := fun _ k => k
/-- A row of the call's own as what is read. -/
theorem SH.toRd {α : Type} {enc : α → List Value} {sz : Nat} {hl : ∀ x, (enc x).length = sz} {h1 : ∀ x, (enc x).all (·.oneCell') = true} {w0 w : World} {is : List HP} (h : SH w0 w is) (n : Nat) {e : TypeId} {A : Option Addr} {m c : Nat} {xs : List α} {S : Nat → Prop} (hn : is[n]? = some (row (flk enc sz hl h1) e (.slice A m c) xs S)) :
    SH w0 w (is.set n (rdI enc sz A m xs S)) := by
  have hr := row_rds n hn w h
  have hok := h.at n hn
  refine h.say n hn (fun k => ⟨hr, fun ad e' => ?_⟩) (fun b hb => hb)
  subst e'
  exact k.1 ad.block rfl
/-- Two items as one: it stands at the first's place, nothing at the second's. -/
theorem SH.merge {w0 w : World} {is : List HP} (h : SH w0 w is) (n m : Nat) (hne : n ≠ m) {i j i' : HP} (hn : is[n]? = some i) (hm : is[m]? = some j) (hk : i.ok w → j.ok w → i'.ok w) (hf : ∀ b, i'.fp b → i.fp b ∨ j.fp b) : SH w0 w ((is.set m noI).set n i') := by
  have hnl := (List.getElem?_eq_some_iff.1 hn).1
  have hml := (List.getElem?_eq_some_iff.1 hm).1
  have hi := h.each n i hn
  have hj := h.each m j hm
  refine ⟨h.below, fun k x hx => ?_, fun k k' x x' hkk hx hx' b hb hb' => ?_⟩
  · rw [List.getElem?_set] at hx
    split at hx
    · rw [if_pos (by rw [List.length_set]; exact hnl)] at hx
      injection hx with hx
      subst hx
      refine ⟨hk hi.1 hj.1, fun b hb => ?_⟩
      rcases hf b hb with h1 | h1
      · exact hi.2 b h1
      · exact hj.2 b h1
    · rw [List.getElem?_set] at hx
      split at hx
      · (try rw [if_pos hml] at hx)
        injection hx with hx
        subst hx
        exact ⟨trivial, fun b hb => hb.elim⟩
      · exact h.each k x hx
  · have key : ∀ q (y : HP), ((is.set m noI).set n i')[q]? = some y → ∀ b, y.fp b → (q = n ∧ (i.fp b ∨ j.fp b)) ∨ (q ≠ n ∧ q ≠ m ∧ is[q]? = some y) := by
      intro q y hy b hb
      rw [List.getElem?_set] at hy
      split at hy
      · rename_i e
        rw [if_pos (by rw [List.length_set]; exact hnl)] at hy
        injection hy with hy
        subst hy
        exact .inl ⟨e.symm, hf b hb⟩
      · rename_i e
        rw [List.getElem?_set] at hy
        split at hy
        · (try rw [if_pos hml] at hy)
          injection hy with hy
          subst hy
          exact hb.elim
        · rename_i e2
          exact .inr ⟨fun h => e h.symm, fun h => e2 h.symm, hy⟩
    rcases key k x hx b hb with ⟨e1, h1⟩ | ⟨e1, e2, h1⟩ <;> rcases key k' x' hx' b hb' with ⟨e1', h1'⟩ | ⟨e1', e2', h1'⟩
    · exact hkk (e1.trans e1'.symm)
    · rcases h1 with h1 | h1
      · exact h.apart n k' i x' (fun e => e1' e.symm) hn h1' b h1 hb'
      · exact h.apart m k' j x' (fun e => e2' e.symm) hm h1' b h1 hb'
    · rcases h1' with h1' | h1'
      · exact h.apart n k i x (fun e => e1 e.symm) hn h1 b h1' hb
      · exact h.apart m k j x (fun e => e2 e.symm) hm h1 b h1' hb
    · exact h.apart k k' x x' hkk h1 h1' b hb hb'
end Go.Proofs.YtgcgnhcjjlnloaaDoor.Sl
namespace Go.Proofs.YtgcgnhcjjlnloaaDoor.Sl
open Go.RowKit Go.Proofs.YtgcgnhcjjlnloaaDoorW.PrintWords
set_option linter.unusedVariables false
set_option linter.unusedSimpArgs false
def allI (is : List HP) : HP where
  fp := fun b => ∃ i, i ∈ is ∧ i.fp b
  ok := fun w => (∀ i, i ∈ is → i.ok w) ∧ ∀ (n m : Nat) (i j : HP), n ≠ m → is[n]? = some i → is[m]? = some j → ∀ b, i.fp b → ¬ j.fp b
  loc := fun h k => ⟨fun i hi => i.loc (fun b hb => h b ⟨i, hi, hb⟩) (k.1 i hi), k.2⟩
theorem SH.pack {w0 w : World} {is : List HP} (js : List HP) (h : SH w0 w (is ++ js)) : SH w0 w (is ++ [allI js]) := by
  have hj : ∀ m j, js[m]? = some j → (is ++ js)[is.length + m]? = some j := fun m j hm => by
    rw [List.getElem?_append_right (by omega), Nat.add_sub_cancel_left]; exact hm
  have hi : ∀ m j, m < is.length → is[m]? = some j → (is ++ js)[m]? = some j := fun m j hl hm => by
    rw [List.getElem?_append_left hl]; exact hm
  have key : ∀ n i, (is ++ [allI js])[n]? = some i → (n < is.length ∧ is[n]? = some i) ∨ (n = is.length ∧ i = allI js) := fun n i hn => by
    rcases Nat.lt_or_ge n is.length with hl | hl
    · rw [List.getElem?_append_left hl] at hn
      exact .inl ⟨hl, hn⟩
    · rw [List.getElem?_append_right hl] at hn
      have h0 := (List.getElem?_eq_some_iff.1 hn).1
      simp only [List.length_singleton] at h0
      have h1 : n - is.length = 0 := by omega
      rw [h1] at hn
      exact .inr ⟨by omega, by simpa using hn.symm⟩
  refine ⟨h.below, fun n i hn => ?_, fun n m i j hne hn hm b hb hb' => ?_⟩
  · rcases key n i hn with ⟨hl, h1⟩ | ⟨rfl, rfl⟩
    · exact h.each n i (hi n i hl h1)
    · refine ⟨⟨fun i hi => ?_, fun n m i j hne hn hm => h.apart _ _ i j (by omega) (hj n i hn) (hj m j hm)⟩, fun b hb => ?_⟩
      · obtain ⟨m, hm⟩ := List.getElem?_of_mem hi
        exact (h.each _ _ (hj m i hm)).1
      · obtain ⟨i, hi, hb⟩ := hb
        obtain ⟨m, hm⟩ := List.getElem?_of_mem hi
        exact (h.each _ _ (hj m i hm)).2 b hb
  · rcases key n i hn with ⟨hl, h1⟩ | ⟨rfl, rfl⟩ <;> rcases key m j hm with ⟨hl', h1'⟩ | ⟨rfl, rfl⟩
    · exact h.apart n m i j hne (hi n i hl h1) (hi m j hl' h1') b hb hb'
    · obtain ⟨k, hk, hb'⟩ := hb'
      obtain ⟨q, hq⟩ := List.getElem?_of_mem hk
      exact h.apart n (is.length + q) i k (by omega) (hi n i hl h1) (hj q k hq) b hb hb'
    · obtain ⟨k, hk, hb⟩ := hb
      obtain ⟨q, hq⟩ := List.getElem?_of_mem hk
      exact h.apart (is.length + q) m k j (by omega) (hj q k hq) (hi m j hl' h1') b hb hb'
    · exact hne rfl
theorem SH.unpack {w0 w : World} {is : List HP} (js : List HP) (h : SH w0 w (is ++ [allI js])) : SH w0 w (is ++ js) := by
  have hA : (is ++ [allI js])[is.length]? = some (allI js) := by rw [List.getElem?_append_right (Nat.le_refl _), Nat.sub_self]; rfl
  have hi : ∀ m j, m < is.length → is[m]? = some j → (is ++ [allI js])[m]? = some j := fun m j hl hm => by
    rw [List.getElem?_append_left hl]; exact hm
  have key : ∀ n i, (is ++ js)[n]? = some i → (n < is.length ∧ is[n]? = some i) ∨ (is.length ≤ n ∧ js[n - is.length]? = some i) := fun n i hn => by
    rcases Nat.lt_or_ge n is.length with hl | hl
    · rw [List.getElem?_append_left hl] at hn
      exact .inl ⟨hl, hn⟩
    · rw [List.getElem?_append_right hl] at hn
      exact .inr ⟨hl, hn⟩
  have hk := h.each _ _ hA
  refine ⟨h.below, fun n i hn => ?_, fun n m i j hne hn hm b hb hb' => ?_⟩
  · rcases key n i hn with ⟨hl, h1⟩ | ⟨hl, h1⟩
    · exact h.each n i (hi n i hl h1)
    · have hm := List.mem_of_getElem? h1
      exact ⟨hk.1.1 i hm, fun b hb => hk.2 b ⟨i, hm, hb⟩⟩
  · rcases key n i hn with ⟨hl, h1⟩ | ⟨hl, h1⟩ <;> rcases key m j hm with ⟨hl', h1'⟩ | ⟨hl', h1'⟩
    · exact h.apart n m i j hne (hi n i hl h1) (hi m j hl' h1') b hb hb'
    · exact h.apart n is.length i _ (by omega) (hi n i hl h1) hA b hb ⟨j, List.mem_of_getElem? h1', hb'⟩
    · exact h.apart is.length m _ j (by omega) hA (hi m j hl' h1') b ⟨i, List.mem_of_getElem? h1, hb⟩ hb'
    · exact hk.1.2 _ _ i j (by omega) h1 h1' b hb hb'
theorem reps_flat_eq {α : Type} {enc : α → List Value} {sz : Nat} : ∀ {xs : List α} {inner : List Value}, Reps (fun x cs => cs = enc x) sz xs inner → inner = xs.flatMap enc
  | [], inner, h => by
    have := h.1
    simp at this
    simpa using this
  | x :: xs, inner, h => by
    have h0 : inner.take sz = enc x := by
      have := h.2 0 x rfl
      simpa using this
    have h1 : inner.drop sz = xs.flatMap enc := reps_flat_eq (xs := xs) ⟨by rw [List.length_drop, h.1, List.length_cons, Nat.succ_mul, Nat.add_sub_cancel], fun j p hj => by
      have := h.2 (j + 1) p (by simpa using hj)
      rw [List.drop_drop]
      rw [show sz + j * sz = (j + 1) * sz by rw [Nat.succ_mul, Nat.add_comm]]
      exact this⟩
    rw [List.flatMap_cons, ← h0, ← h1, List.take_append_drop]
theorem SH.rowBlkF {α : Type} {enc : α → List Value} {sz : Nat} {hl : ∀ x, (enc x).length = sz} {h1 : ∀ x, (enc x).all (·.oneCell') = true} {w0 w : World} {is : List HP} (HS : SH w0 w is) (n : Nat) {e : TypeId} {A : Option Addr} {m c : Nat} {xs : List α} {S : Nat → Prop} (hn : is[n]? = some (row (flk enc sz hl h1) e (.slice A m c) xs S)) (hp : 0 < m) :
    ∃ (g : Nat) (tl : List Value), A = some ⟨g, 0, none⟩ ∧ m = xs.length ∧ m ≤ c ∧ c ≤ 9223372036854775807 ∧ (xs.flatMap enc ++ tl).length = c * sz ∧ SH w0 w (is.set n (Sl.blk g (xs.flatMap enc ++ tl) e)) := by
  have HO := HS.at n hn
  have hm := (Kd.R_reads' HO).1
  obtain ⟨hok, inner, hown, hr⟩ := HO
  have hin := reps_flat_eq (enc := enc) (sz := sz) hr
  rcases hown.2 with ⟨hv, _⟩ | ⟨g, cap, cur, hv, hb, hh, hnc, hcm, hcs, hx⟩
  · injection hv with _ h2 _
    omega
  · injection hv with h1' h2 h3
    subst h1' h3
    have hsz : (flk enc sz hl h1).sz = sz := rfl
    have hcl : cur.toList.length = c * sz := by rw [Array.length_toList, hcs, hsz]
    have e1 : xs.flatMap enc ++ cur.toList.drop (xs.length * sz) = cur.toList := by
      rw [← hin, ← hx]
      exact List.take_append_drop _ _
    refine ⟨g, cur.toList.drop (xs.length * sz), rfl, hm, by omega, by simpa [maxLen] using hcm, by rw [e1]; exact hcl, ?_⟩
    rw [e1]
    refine HS.upd n hn (Chg.refl _ _) (by simpa [Sl.blk] using hh) (fun b hbb => ?_)
    have e : b = g := hbb
    subst e
    refine ⟨.inl (hok _ rfl), ?_⟩
    exact (Array.getElem?_eq_some_iff.1 hh).1
theorem SH.blkRowF {α : Type} {enc : α → List Value} {sz : Nat} (hl : ∀ x, (enc x).length = sz) (h1 : ∀ x, (enc x).all (·.oneCell') = true) {w0 w : World} {is : List HP} (HS : SH w0 w is) (n : Nat) {g : Nat} {cs : List Value} {e : TypeId} (hn : is[n]? = some (Sl.blk g cs e)) (xs : List α) (tl : List Value) {k c : Nat} (hk : k = xs.length) (hcs : cs = xs.flatMap enc ++ tl) (hlen : cs.length = c * sz) (hc : k ≤ c) (hcm : c ≤ 9223372036854775807) :
    SH w0 w (is.set n (row (flk enc sz hl h1) e (.slice (some ⟨g, 0, none⟩) k c) xs (fun b => b = g))) := by
  subst hk
  refine HS.say n hn (fun hb => ?_) (fun b hb => hb)
  have hb' : w.heap[g]? = some (.cells cs.toArray e (0, 0)) := hb
  have hfl := length_flat hl xs
  refine ⟨fun k hk => (by simpa [Value.ownBlock] using hk.symm), xs.flatMap enc, ⟨hfl, .inr ⟨g, c, cs.toArray, rfl, Nat.zero_le _, hb', hc, by simpa [maxLen] using hcm, ?_, ?_⟩⟩, reps_flat hl xs⟩
  · rw [List.size_toArray]; exact hlen
  · show cs.take (xs.length * sz) = _
    rw [hcs, ← hfl, List.take_left]
end Go.Proofs.YtgcgnhcjjlnloaaDoor.Sl
namespace Go.Proofs.YtgcgnhcjjlnloaaDoor.Sl
open Go.RowKit Go.Proofs.YtgcgnhcjjlnloaaDoorW.PrintWords
set_option linter.unusedVariables false
set_option linter.unusedSimpArgs false
section
variable {P : Program} {ops : Array Oper} {Q : Exit → Act → World → Prop}
/-- one of ks has come up -/
def kDone (ks : List Nat) (listed : Array Bool) : Bool := ks.any fun k => listed.getD k false
/-- each of ks waits for number i -/
def kWait (ops : Array Oper) (ks : List Nat) (i : Nat) : Bool := ks.all fun k => (k != i) && match ops[k]? with
  | some ok => ok.after.any fun e => Region.binds .any e && e.on == i
  | none => false
/-- In whatever order: what is left goes well, and S holds till one of ks comes up. -/
def wpAnyK (P : Program) (ops : Array Oper) (Q : Exit → Act → World → Prop) (S : World → Prop) (ks : List Nat) : Nat → Array Bool → Act → World → Prop
  | 0, listed, a, w => Region.ready .any ops listed = [] ∧ Q .normal a w
  | fuel + 1, listed, a, w =>
    (Region.ready .any ops listed = [] → Q .normal a w) ∧
    ∀ i ∈ Region.ready .any ops listed, wpOp P ops Q i (fun a' w' => (kDone ks (listed.setIfInBounds i true) = false → S w') ∧ wpAnyK P ops Q S ks fuel (listed.setIfInBounds i true) a' w') a w
variable {S : World → Prop} {ks : List Nat}
theorem wpAny_of_K : ∀ (fuel : Nat) (listed : Array Bool) (a : Act) (w : World), wpAnyK P ops Q S ks fuel listed a w → wpAny P .any ops Q fuel listed a w
  | 0, _, _, _, h => h
  | fuel + 1, _, _, _, h => ⟨h.1, fun i hi => wpOp_mono (fun a' w' h' => wpAny_of_K fuel _ a' w' h'.2) (h.2 i hi)⟩
theorem kWait_not {i j : Nat} {listed : Array Bool} (hw : kWait ops ks i = true) (hi : listed.getD i true = false) (hj : j ∈ Region.ready .any ops listed) : j ∉ ks := fun hk => by
  have h1 := List.all_eq_true.1 hw j hk
  obtain ⟨hjun, oj, hoj, hall⟩ := mem_ready.1 hj
  rw [Bool.and_eq_true, hoj] at h1
  obtain ⟨e, he, hb⟩ := Array.any_eq_true'.1 h1.2
  rw [Bool.and_eq_true, beq_iff_eq] at hb
  have h2 := hall e he hb.1
  rw [hb.2] at h2
  rcases Nat.lt_or_ge i listed.size with h' | h'
  · simp [h'] at hi h2; rw [hi] at h2; cases h2
  · simp [Array.getElem?_eq_none h'] at h2
theorem kDone_set {j : Nat} {listed : Array Bool} (hj : j ∉ ks) : kDone ks (listed.setIfInBounds j true) = kDone ks listed := by
  unfold kDone
  rw [Bool.eq_iff_iff, List.any_eq_true, List.any_eq_true]
  constructor
  · rintro ⟨k, hk, h⟩
    refine ⟨k, hk, ?_⟩
    have hne : j ≠ k := fun e => hj (e ▸ hk)
    simpa [Array.getElem?_setIfInBounds_ne hne] using h
  · rintro ⟨k, hk, h⟩
    refine ⟨k, hk, ?_⟩
    have hne : j ≠ k := fun e => hj (e ▸ hk)
    simpa [Array.getElem?_setIfInBounds_ne hne] using h
/-- What yields its value in every world of S0 may be taken first; S0 is all, or S and each of ks waits for it. -/
theorem wpAnyK_first {S0 : World → Prop} {i : Nat} {oi : Oper} {v : Value} (hi : ops[i]? = some oi) (hsel : ∀ (j : Nat) (o : Oper) cs b, ops[j]? = some o → o.op ≠ .select cs b)
    (hQ : ∀ c a w, Q (.panic c) (a.put oi.dst v) w → Q (.panic c) a w) :
    ∀ (fuel : Nat) (listed : Array Bool) (a : Act) (w : World), i ∉ ks → (∀ w, S0 w) ∨ ((∀ w, S w → S0 w) ∧ kWait ops ks i = true ∧ kDone ks listed = false) →
      (∀ j oj, ops[j]? = some oj → j ≠ i → listed.getD j true = false → (∀ e ∈ oj.after, Region.binds .any e = true → e.on ≠ i) → oi.apart ops oj = true) →
      i ∈ Region.ready .any ops listed → YieldsIf P ops S0 oi v a → S0 w → (kDone ks (listed.setIfInBounds i true) = false → S w) →
      wpAnyK P ops Q S ks fuel (listed.setIfInBounds i true) (a.put oi.dst v) w → wpAnyK P ops Q S ks (fuel + 1) listed a w
  | 0, listed, a, w, _, _, _, hr, hy, hS0, hS, H => by
    refine ⟨fun h => (by rw [h] at hr; cases hr), fun j hj => ?_⟩
    by_cases hji : j = i
    · subst hji
      exact hy.wpOp hi hS0 ⟨hS, H⟩
    · have := ready_mono hj hji
      rw [H.1] at this
      cases this
  | fuel + 1, listed, a, w, hik, hp, hfree, hr, hy, hS0, hS, H => by
    refine ⟨fun h => (by rw [h] at hr; cases hr), fun j hj => ?_⟩
    by_cases hji : j = i
    · subst hji
      exact hy.wpOp hi hS0 ⟨hS, H⟩
    · have hiun := (mem_ready.1 hr).1
      obtain ⟨hjun, oj, hoj, hall⟩ := mem_ready.1 hj
      have hnot : ∀ e ∈ oj.after, Region.binds .any e = true → e.on ≠ i := fun e he hb heq => by
        have h1 := hall e he hb
        rw [heq] at h1
        rcases Nat.lt_or_ge i listed.size with h' | h'
        · simp [h'] at hiun h1; rw [hiun] at h1; cases h1
        · simp [Array.getElem?_eq_none h'] at h1
      have h2 := wpOp_putIf hoj (hfree j oj hoj hji hjun hnot) (fun cs b => hsel i oi cs b hi) (fun cs b => hsel j oj cs b hoj) hQ hy (H.2 j (ready_mono hj hji))
      have hset : kDone ks ((listed.setIfInBounds i true).setIfInBounds j true) = kDone ks ((listed.setIfInBounds j true).setIfInBounds i true) := by rw [Array.setIfInBounds_comm _ _ hji]
      refine wpOp_mono (fun a' w' h3 => ?_) h2
      have hnd : (kDone ks ((listed.setIfInBounds j true).setIfInBounds i true) = false → S w') := fun h => h3.2.1 (by rw [hset]; exact h)
      have hw' : (∀ w, S0 w) ∨ ((∀ w, S w → S0 w) ∧ kWait ops ks i = true ∧ kDone ks (listed.setIfInBounds j true) = false) := by
        rcases hp with hp | ⟨h4, h5, h6⟩
        · exact .inl hp
        · exact .inr ⟨h4, h5, by rw [kDone_set (kWait_not h5 hiun hj)]; exact h6⟩
      have hS0' : S0 w' := by
        rcases hw' with hp | ⟨h4, h5, h6⟩
        · exact hp w'
        · refine h4 w' (hnd ?_)
          rw [kDone_set hik]
          exact h6
      have hSj : kDone ks (listed.setIfInBounds j true) = false → S w' := fun h => hnd (by rw [kDone_set hik]; exact h)
      refine ⟨hSj, wpAnyK_first hi hsel hQ fuel (listed.setIfInBounds j true) a' w' hik hw' (fun k ok hk hki hun hno => ?_) (ready_mono hr (Ne.symm hji)) h3.1 hS0' hnd ?_⟩
      · refine hfree k ok hk hki ?_ hno
        by_cases hjk : j = k
        · subst hjk; exact hjun
        · rw [getD_set_ne true hjk] at hun; exact hun
      · rw [Array.setIfInBounds_comm _ _ hji]
        exact h3.2.2
end
section
variable {P : Program} {o : Oper} {a : Act} {Q : Exit → Act → World → Prop} {w0 w : World} {is : List HP} {fuel i : Nat} {listed : Array Bool} {ks : List Nat}
theorem kheld_start {id : Nat} {W : World} {l : List Oper} {a : Act} (ks : List Nat) (hm : P.follows .mixedOrders = true) (HS : SH w0 W is)
    (h : SH w0 W.drew is → wpAnyK P l.toArray Q (fun w => SH w0 w is) ks l.toArray.size (Array.replicate l.toArray.size false) a W.drew) : (Code.region id l.toArray true).wp P Q a W :=
  wp_region_any hm (wpAny_of_K _ _ _ _ (h HS.drew))
variable {ops : Array Oper}
theorem k_done {listed : Array Bool} {S : World → Prop} (hr : Region.ready .any ops listed = []) (h : Q .normal a w) : ∀ fuel, wpAnyK P ops Q S ks fuel listed a w
  | 0 => ⟨hr, h⟩
  | _ + 1 => ⟨fun _ => h, by rw [hr]; simp⟩
/-- a value that is the same in every world -/
theorem k_any (i : Nat) {v : Value} (hi : ops[i]? = some o) (hs : Region.noSelect ops = true) (hf : Region.free .any ops listed i = true) (hr : (Region.ready .any ops listed).contains i = true) (hk : ks.contains i = false)
    (hQ : ∀ c a w, Q (.panic c) (a.put o.dst v) w → Q (.panic c) a w) (hS : kDone ks listed = true ∨ SH w0 w is) (hw : Region.wanted o (yielded ops a.tmps) = true) (hrun : ∀ w, (execOp a.eval o).run P w = .ok (.value v) w)
    (h : wpAnyK P ops Q (fun w => SH w0 w is) ks fuel (listed.setIfInBounds i true) (a.put o.dst v) w) : wpAnyK P ops Q (fun w => SH w0 w is) ks (fuel + 1) listed a w := by
  have hik : i ∉ ks := fun h => by rw [List.contains_iff_mem.2 h] at hk; cases hk
  exact wpAnyK_first (S0 := fun _ => True) hi (Region.noSelect_spec hs) hQ fuel listed a w hik (.inl fun _ => trivial) (Region.free_spec hi hf) (by simpa using hr) (.inl ⟨hw, fun w _ => hrun w⟩) trivial
    (fun h0 => hS.elim (fun h1 => by rw [kDone_set hik, h1] at h0; cases h0) id) h
/-- a value that is read: it is the same in every world of the class -/
theorem k_val (i : Nat) {v : Value} (hi : ops[i]? = some o) (hs : Region.noSelect ops = true) (hf : Region.free .any ops listed i = true) (hr : (Region.ready .any ops listed).contains i = true) (hk : (kWait ops ks i && !kDone ks listed) = true)
    (hQ : ∀ c a w, Q (.panic c) (a.put o.dst v) w → Q (.panic c) a w) (hS : SH w0 w is) (hw : Region.wanted o (yielded ops a.tmps) = true) (hrun : ∀ w, SH w0 w is → (execOp a.eval o).run P w = .ok (.value v) w)
    (h : wpAnyK P ops Q (fun w => SH w0 w is) ks fuel (listed.setIfInBounds i true) (a.put o.dst v) w) : wpAnyK P ops Q (fun w => SH w0 w is) ks (fuel + 1) listed a w := by
  rw [Bool.and_eq_true, Bool.not_eq_true'] at hk
  have hik : i ∉ ks := fun h => by
    have := List.all_eq_true.1 hk.1 i h
    simp at this
  exact wpAnyK_first (S0 := fun w => SH w0 w is) hi (Region.noSelect_spec hs) hQ fuel listed a w hik (.inr ⟨fun _ h => h, hk.1, hk.2⟩) (Region.free_spec hi hf) (by simpa using hr) (.inl ⟨hw, hrun⟩) hS (fun _ => hS) h
theorem k_load (i : Nat) (hi : ops[i]? = some o) (hs : Region.noSelect ops = true) (hf : Region.free .any ops listed i = true) (hr : (Region.ready .any ops listed).contains i = true) (hk : (kWait ops ks i && !kDone ks listed) = true)
    {v : Value} (hQ : ∀ c a w, Q (.panic c) (a.put o.dst v) w → Q (.panic c) a w) (hS : SH w0 w is) (hw : Region.wanted o (yielded ops a.tmps) = true) {t : TypeId} {p : Operand} (ho : o.op = .load t p)
    {g j : Nat} (haddr : a.eval p = .pointer (some ⟨g, j, none⟩)) (n : Nat) {cs : List Value} {e : TypeId} (hn : is[n]? = some (blk g cs e)) (hd : (P.underlying t).map aggD = some false) (hv : cs[j]? = some v)
    (h : wpAnyK P ops Q (fun w => SH w0 w is) ks fuel (listed.setIfInBounds i true) (a.put o.dst v) w) : wpAnyK P ops Q (fun w => SH w0 w is) ks (fuel + 1) listed a w := by
  obtain ⟨d, hd, hd1⟩ := Option.map_eq_some_iff.1 hd
  refine k_val i hi hs hf hr hk hQ hS hw (fun w hs => ?_) h
  have hc := (hs.cells n hn).1 j
  rw [hv] at hc
  unfold execOp
  simp only [ho, haddr]
  cases d <;> first | (simp [aggD] at hd1; done) | simp [Instr.loadAt, Instr.sureAddr, loadVar, isAgg, underlying, go_sem, hd, hc]
theorem k_loads (i : Nat) (hi : ops[i]? = some o) (hs : Region.noSelect ops = true) (hf : Region.free .any ops listed i = true) (hr : (Region.ready .any ops listed).contains i = true) (hk : (kWait ops ks i && !kDone ks listed) = true)
    {v : Value} (hQ : ∀ c a w, Q (.panic c) (a.put o.dst v) w → Q (.panic c) a w) (hS : SH w0 w is) (hw : Region.wanted o (yielded ops a.tmps) = true) {t : TypeId} {p : Operand} (ho : o.op = .load t p)
    {g j : Nat} (haddr : a.eval p = .pointer (some ⟨g, j, none⟩)) (n : Nat) {cs : List Value} {e : TypeId} (hn : is[n]? = some (blk g cs e)) (hd : (P.underlying t).map aggD = some true) {k : Nat} (hsz : (P.info? t).map (·.size) = some k) (hfit : j + k ≤ cs.length) (hv : v = .agg ((cs.drop j).take k).toArray)
    (h : wpAnyK P ops Q (fun w => SH w0 w is) ks fuel (listed.setIfInBounds i true) (a.put o.dst v) w) : wpAnyK P ops Q (fun w => SH w0 w is) ks (fuel + 1) listed a w := by
  subst hv
  obtain ⟨d, hd, hd1⟩ := Option.map_eq_some_iff.1 hd
  obtain ⟨inf, hinf, hsz⟩ := Option.map_eq_some_iff.1 hsz
  refine k_val i hi hs hf hr hk hQ hS hw (fun w hs => ?_) h
  have hc := (hs.cells n hn).1
  have hl : ((cs.drop j).take k).length = k := by simp; omega
  have hr := run_loadCells_at (P := P) (w := w) g j ((cs.drop j).take k) (fun m v hj => by
    rw [hc]
    rw [List.getElem?_take] at hj
    split at hj
    · rw [List.getElem?_drop] at hj; exact hj
    · cases hj)
  rw [hl] at hr
  unfold loadCells at hr
  unfold execOp
  simp only [ho, haddr]
  cases d <;> first | (simp [aggD] at hd1; done) | simp [Instr.loadAt, Instr.sureAddr, loadVar, isAgg, sizeOf, typeInfo, underlying, go_sem, hd, hinf, hsz, hr]
/-- One event of a chain: by the laws of a plain walk. -/
theorem k_one (i : Nat) (hi : ops[i]? = some o) (hr : Region.ready .any ops listed = [i])
    (h : wpList P ops (onlyN fun a' w' => (kDone ks (listed.setIfInBounds i true) = false → SH w0 w' is) ∧ wpAnyK P ops Q (fun w => SH w0 w is) ks fuel (listed.setIfInBounds i true) a' w') [o] a w) : wpAnyK P ops Q (fun w => SH w0 w is) ks (fuel + 1) listed a w := by
  refine ⟨fun h0 => absurd (hr ▸ h0) (by simp), fun j hj => ?_⟩
  rw [hr] at hj
  obtain rfl : j = i := by simpa using hj
  unfold wpOp
  rw [hi]
  unfold wpList at h
  split at h
  · rename_i hw
    show if _ then _ else _
    rw [if_pos hw]
    rcases h with h | ⟨_, _, _, h⟩
    · exact .inl (upon_only _ h)
    · exact h.elim
  · rename_i hw
    show if _ then _ else _
    rw [if_neg hw]
    exact h
theorem k_nil {i : Nat} (hS : kDone ks (listed.setIfInBounds i true) = true ∨ SH w0 w is) (h : wpAnyK P ops Q (fun w => SH w0 w is) ks fuel (listed.setIfInBounds i true) a w) : wpList P ops (onlyN fun a' w' => (kDone ks (listed.setIfInBounds i true) = false → SH w0 w' is) ∧ wpAnyK P ops Q (fun w => SH w0 w is) ks fuel (listed.setIfInBounds i true) a' w') [] a w :=
  ⟨fun h0 => hS.elim (fun h1 => by rw [h1] at h0; cases h0) id, h⟩
end
end Go.Proofs.YtgcgnhcjjlnloaaDoor.Sl
