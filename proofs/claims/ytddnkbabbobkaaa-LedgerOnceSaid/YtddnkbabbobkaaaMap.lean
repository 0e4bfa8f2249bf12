/- Maps of the call's own: an item, and the laws of making, storing, asking. -/
import Derived.Test.YtddnkbabbobkaaaSl2
import Derived.WalkKit
namespace Go.Proofs.Ytddnkbabbobkaaa.Sl
open Go.RowKit Go.Proofs.YtddnkbabbobkaaaW.PrintWords
set_option linter.unusedVariables false
set_option linter.unusedSimpArgs false
set_option linter.unusedSectionVars false

/-! ### Maps in plain Lean -/
section
variable {κ ν : Type} [DecidableEq κ]
def mget (m : List (κ × ν)) (k : κ) : Option ν := (m.find? (fun p => p.1 == k)).map (·.2)
def mput : List (κ × ν) → κ → ν → List (κ × ν)
  | [], k, v => [(k, v)]
  | p :: m, k, v => if p.1 = k then (k, v) :: m else p :: mput m k v
theorem mget_nil (k : κ) : mget ([] : List (κ × ν)) k = none := rfl
theorem mget_put : ∀ (m : List (κ × ν)) (k k' : κ) (v : ν), mget (mput m k v) k' = if k = k' then some v else mget m k'
  | [], k, k', v => by
    by_cases h : k = k'
    · simp [mput, mget, h]
    · simp [mput, mget, h]
  | p :: m, k, k', v => by
    have ih := mget_put m k k' v
    unfold mput
    by_cases h : p.1 = k
    · rw [if_pos h]
      by_cases h' : k = k'
      · simp [mget, h']
      · have hp : ¬ p.1 = k' := fun e => h' (h.symm.trans e)
        simp [mget, h', hp]
    · rw [if_neg h]
      unfold mget at ih ⊢
      by_cases hp : p.1 = k'
      · have h' : ¬ k = k' := fun e => h (hp.trans e.symm)
        simp [List.find?_cons, hp, h']
      · have hb : (p.1 == k') = false := beq_eq_false_iff_ne.2 hp
        rw [List.find?_cons, hb, List.find?_cons, hb]
        exact ih
theorem mput_keys {m : List (κ × ν)} {k : κ} {v : ν} {q : κ → Prop} (h : ∀ p ∈ m, q p.1) (hk : q k) : ∀ p ∈ mput m k v, q p.1 := by
  induction m with
  | nil => intro p hp; simp [mput] at hp; subst hp; exact hk
  | cons x m ih =>
    intro p hp
    unfold mput at hp
    split at hp
    · rcases List.mem_cons.1 hp with rfl | hp
      · exact hk
      · exact h p (List.mem_cons_of_mem _ hp)
    · rcases List.mem_cons.1 hp with rfl | hp
      · exact h _ List.mem_cons_self
      · exact ih (fun p hp => h p (List.mem_cons_of_mem _ hp)) p hp
end

/-! ### Keys -/
/-- What is asked of a map's keys. -/
structure KeyOK (P : Program) (kt : TypeId) {κ : Type} [DecidableEq κ] (enc : κ → Value) (q : κ → Prop) : Prop where
  eq : ∀ x y w, q x → q y → (Op.equal kt (enc x) (enc y)).run P w = .ok (decide (x = y)) w
  chk : ∀ b x w, q x → (Instr.checkKey b 10000 kt (enc x)).run P w = .ok () w
  same : ∀ x, q x → Instr.sameBits 10000 (enc x) (enc x) = true
  und : ∃ d, P.underlying kt = some d ∧ ((∀ x y, Instr.sameNow d (enc x) (enc y) = none) ∨ (∀ x y, Instr.sameNow d (enc x) (enc y) = some (decide (x = y))))
section
variable {P : Program} {κ ν : Type} [DecidableEq κ] {kt : TypeId} {enc : κ → Value} {encV : ν → Value} {q : κ → Prop}
/-- what the entries hold -/
def pairs (es : List MapEntry) : List (Value × Value) := es.map fun e => (e.key, e.val)
def encP (enc : κ → Value) (encV : ν → Value) (m : List (κ × ν)) : List (Value × Value) := m.map fun p => (enc p.1, encV p.2)
/-- where a key stands -/
def at_ (m : List (κ × ν)) (k : κ) : Option (Nat × ν) := (m.findIdx? (fun p => p.1 == k)).bind fun i => (m[i]?).map fun p => (i, p.2)
def atFrom : List (κ × ν) → κ → Nat → Option (Nat × ν)
  | [], _, _ => none
  | p :: m, k, i => if p.1 = k then some (i, p.2) else atFrom m k (i + 1)
theorem mget_atFrom : ∀ (m : List (κ × ν)) (k : κ) (i : Nat), (atFrom m k i).map (·.2) = mget m k
  | [], _, _ => rfl
  | p :: m, k, i => by
    unfold atFrom mget
    by_cases h : p.1 = k
    · simp [h]
    · have := mget_atFrom m k (i + 1)
      unfold mget at this
      have hb : (p.1 == k) = false := beq_eq_false_iff_ne.2 h
      rw [if_neg h, List.find?_cons, hb]
      exact this
theorem run_findAsking (K : KeyOK P kt enc q) {k : κ} (hk : q k) (w : World) : ∀ (m : List (κ × ν)) (es : List MapEntry) (i : Nat), pairs es = encP enc encV m → (∀ p ∈ m, q p.1) →
    (Instr.findAsking kt (enc k) es i).run P w = .ok ((atFrom m k i).map fun r => (r.1, encV r.2)) w
  | [], es, i, h, _ => by
    have : es = [] := by cases es <;> simp_all [pairs, encP]
    subst this
    simp [Instr.findAsking, atFrom]
  | p :: m, es, i, h, hq => by
    cases es with
    | nil => simp [pairs, encP] at h
    | cons e es =>
      simp only [pairs, encP, List.map_cons, List.cons.injEq, Prod.mk.injEq] at h
      obtain ⟨⟨h1, h2⟩, h3⟩ := h
      have he := K.eq k p.1 w hk (hq p List.mem_cons_self)
      rw [Instr.findAsking]
      simp only [Sem.run_bind, h1, he, Result.andThen_ok]
      by_cases hp : p.1 = k
      · have : decide (k = p.1) = true := decide_eq_true hp.symm
        rw [this]
        simp [atFrom, hp, h2]
      · have : decide (k = p.1) = false := decide_eq_false (fun e => hp e.symm)
        rw [this]
        have ih := run_findAsking K hk w m es (i + 1) h3 (fun p hp => hq p (List.mem_cons_of_mem _ hp))
        simp only [Bool.false_eq_true, if_false, ih, atFrom, if_neg hp]
theorem findNow_some {d : TypeDesc} (hs : ∀ x y, Instr.sameNow d (enc x) (enc y) = some (decide (x = y))) (k : κ) : ∀ (m : List (κ × ν)) (es : List MapEntry) (i : Nat), pairs es = encP enc encV m →
    Instr.findNow d (enc k) es i = some ((atFrom m k i).map fun r => (r.1, encV r.2))
  | [], es, i, h => by
    have : es = [] := by cases es <;> simp_all [pairs, encP]
    subst this
    simp [Instr.findNow, atFrom]
  | p :: m, es, i, h => by
    cases es with
    | nil => simp [pairs, encP] at h
    | cons e es =>
      simp only [pairs, encP, List.map_cons, List.cons.injEq, Prod.mk.injEq] at h
      obtain ⟨⟨h1, h2⟩, h3⟩ := h
      rw [Instr.findNow, h1, hs]
      by_cases hp : p.1 = k
      · have : decide (k = p.1) = true := decide_eq_true hp.symm
        rw [this]
        simp [atFrom, hp, h2]
      · have : decide (k = p.1) = false := decide_eq_false (fun e => hp e.symm)
        rw [this]
        have ih := findNow_some hs k m es (i + 1) h3
        simp only [ih, atFrom, if_neg hp]
theorem run_findKey (K : KeyOK P kt enc q) {k : κ} (hk : q k) (w : World) (m : List (κ × ν)) (es : List MapEntry) (h : pairs es = encP enc encV m) (hq : ∀ p ∈ m, q p.1) :
    (Instr.findKey kt (enc k) es).run P w = .ok ((atFrom m k 0).map fun r => (r.1, encV r.2)) w := by
  obtain ⟨d, hd, hs⟩ := K.und
  unfold Instr.findKey
  simp only [Sem.run_bind, run_underlying hd, Result.andThen_ok]
  rcases hs with hs | hs
  · cases m with
    | nil =>
      have : es = [] := by cases es <;> simp_all [pairs, encP]
      subst this
      simp [Instr.findNow, atFrom]
    | cons p m =>
      cases es with
      | nil => simp [pairs, encP] at h
      | cons e es =>
        have h1 : e.key = enc p.1 := by
          simp only [pairs, encP, List.map_cons, List.cons.injEq, Prod.mk.injEq] at h
          exact h.1.1
        have : Instr.findNow d (enc k) (e :: es) 0 = none := by
          rw [Instr.findNow, h1, hs]
        rw [this]
        exact run_findAsking K hk w (p :: m) (e :: es) 0 h hq
  · rw [findNow_some hs k m es 0 h]
    simp
theorem atFrom_bound : ∀ (m : List (κ × ν)) (k : κ) (i j : Nat) (v : ν), atFrom m k i = some (j, v) → ∃ n, j = i + n ∧ n < m.length ∧ (m[n]?).map (·.1) = some k
  | [], _, _, _, _, h => by simp [atFrom] at h
  | p :: m, k, i, j, v, h => by
    unfold atFrom at h
    split at h
    · rename_i hp
      simp at h
      exact ⟨0, by omega, by simp, by simp [hp]⟩
    · obtain ⟨n, h1, h2, h3⟩ := atFrom_bound m k (i + 1) j v h
      exact ⟨n + 1, by omega, by simp; omega, by simpa using h3⟩
theorem mput_at : ∀ (m : List (κ × ν)) (k : κ) (v : ν) (i : Nat), (match atFrom m k i with | some (j, _) => m.set (j - i) (k, v) | none => m ++ [(k, v)]) = mput m k v
  | [], k, v, i => by simp [atFrom, mput]
  | p :: m, k, v, i => by
    have ih := mput_at m k v (i + 1)
    unfold atFrom mput
    by_cases hp : p.1 = k
    · simp [hp]
    · rw [if_neg hp, if_neg hp]
      cases ha : atFrom m k (i + 1) with
      | none => rw [ha] at ih; simp only at ih; simp [← ih]
      | some r =>
        obtain ⟨j, u⟩ := r
        rw [ha] at ih
        simp only at ih
        obtain ⟨n, h1, _, _⟩ := atFrom_bound m k (i + 1) j u ha
        simp only
        rw [← ih, show j - i = (j - (i + 1)) + 1 from by omega, List.set_cons_succ]

/-! ### The item -/
/-- A map of the call's own. -/
def mp (g : Nat) (enc : κ → Value) (encV : ν → Value) (q : κ → Prop) (m : List (κ × ν)) : HP where
  fp := fun b => b = g
  ok := fun w => ∃ es clock, w.heap[g]? = some (.map es clock) ∧ pairs es.toList = encP enc encV m ∧ (∀ p ∈ m, q p.1) ∧ (∀ e ∈ es.toList, e.born < clock) ∧ (es.toList.map (·.born)).Nodup
  loc := by
    rintro w w' h ⟨es, clock, h1, h2⟩
    exact ⟨es, clock, (h _ rfl).trans h1, h2⟩
theorem run_getObj {w : World} {g : Nat} {es : Array MapEntry} {c : Nat} (h : w.heap[g]? = some (.map es c)) : (getObj g).run P w = .ok (.map es c) w := by
  simp [getObj, Sem.run, h]
theorem run_setObj {w : World} {g : Nat} {es : Array MapEntry} {c : Nat} (h : w.heap[g]? = some (.map es c)) (o : Obj) : (setObj g o).run P w = .ok () { w with heap := w.heap.setIfInBounds g o } := by
  simp [setObj, Sem.run, h]
theorem Chg.setObj {w : World} {g : Nat} (o : Obj) (h : g < w.heap.size) : Chg (fun b => b = g) w { w with heap := w.heap.setIfInBounds g o } :=
  ⟨rfl, rfl, rfl, by simp, fun k hk hs => by
    show (w.heap.setIfInBounds g o)[k]? = _
    rw [Array.getElem?_setIfInBounds_ne (fun e => hs e.symm)]⟩
section
variable {ops : Array Oper} {rest : List Oper} {o : Oper} {a : Act} {Q : Exit → Act → World → Prop}
theorem gMm {W : World} {t : TypeId} {r : Option Operand} (_ho : o.op = .makeMap t r) (h : WP P ops Q (o :: rest) a W) : wpList P ops Q (o :: rest) a W := h.out
theorem gMu {W : World} {t : TypeId} {m k v : Operand} (_ho : o.op = .mapUpdate t m k v) (h : WP P ops Q (o :: rest) a W) : wpList P ops Q (o :: rest) a W := h.out
theorem gLk {W : World} {t : TypeId} {m k : Operand} {c : Bool} (_ho : o.op = .lookup t m k c) (h : WP P ops Q (o :: rest) a W) : wpList P ops Q (o :: rest) a W := h.out
theorem run_skip {W w1 : World} (hw : Region.wanted o (yielded ops a.tmps) = true) (hN : o.dst = none) {v : Value} (hrun : (execOp a.eval o).run P W = .ok (.value v) w1) (h : wpList P ops Q rest a w1) : wpList P ops Q (o :: rest) a W := by
  refine run_step hw hrun ?_
  rw [hN]; exact h
/-- make(map[K]V) -/
theorem sh_makeMap {w0 W : World} {is : List HP} (HS : SH w0 W is) (hw : Region.wanted o (yielded ops a.tmps) = true) {t : TypeId} (ho : o.op = .makeMap t none) (enc : κ → Value) (encV : ν → Value) (q : κ → Prop)
    (h : ∀ g w1, w0.heap.size ≤ g → SH w0 w1 (is ++ [mp g enc encV q []]) → wpList P ops Q rest (a.put o.dst (.map (some g))) w1) : WP P ops Q (o :: rest) a W := by
  refine ⟨?_⟩
  refine run_step hw (w1 := W.alloc (.map #[] 0)) (v := .map (some W.heap.size)) ?_ (h _ _ HS.size (HS.push (below_alloc (Below.refl _ _) _) ⟨#[], 0, heap_alloc_new _ _, rfl, by simp, by simp, by simp⟩ (fun b hb => by cases hb; exact ⟨Nat.le_refl _, by simp⟩)))
  unfold execOp
  simp only [ho]
  rfl
/-- m[k] = v -/
theorem sh_upd0 {w0 W : World} {is : List HP} (HS : SH w0 W is) (hw : Region.wanted o (yielded ops a.tmps) = true) (hN : o.dst = none) {t : TypeId} {m k v : Operand} (ho : o.op = .mapUpdate t m k v ∨ o.op = .insert t m k v)
    {g : Nat} (hm : a.eval m = .map (some g)) (n : Nat) {mm : List (κ × ν)} (hn : is[n]? = some (mp g enc encV q mm)) (kk : κ) (hk : a.eval k = enc kk) (hq : q kk) (vv : ν) (hv : a.eval v = encV vv)
    {et : TypeId} (ht : P.underlying t = some (.map kt et)) (K : KeyOK P kt enc q)
    (h : ∀ w1, SH w0 w1 (is.set n (mp g enc encV q (mput mm kk vv))) → wpList P ops Q rest a w1) : WP P ops Q (o :: rest) a W := by
  refine ⟨?_⟩
  obtain ⟨es, clock, hh, hp, hqs, hb, hnd⟩ := HS.at n hn
  have hg : g < W.heap.size := (Array.getElem?_eq_some_iff.1 hh).1
  have hf := run_findKey (encV := encV) K hq W mm es.toList hp hqs
  have hpa := mput_at mm kk vv 0
  refine wpList_step fun KK hKK => ?_
  rw [if_pos hw]
  have key : ∃ es' clock', (Instr.mapUpdate t (.map (some g)) (enc kk) (encV vv)).run P W = .ok () { W with heap := W.heap.setIfInBounds g (.map es' clock') } ∧ pairs es'.toList = encP enc encV (mput mm kk vv) ∧ (∀ e ∈ es'.toList, e.born < clock') ∧ (es'.toList.map (·.born)).Nodup := by
    cases ha : atFrom mm kk 0 with
    | none =>
      rw [ha] at hf hpa
      refine ⟨es.push { key := enc kk, val := encV vv, born := clock }, clock + 1, ?_, ?_, ?_, ?_⟩
      · simp only [Instr.mapUpdate, Sem.run_bind, run_underlying ht, Result.andThen_ok, run_getObj hh, K.chk _ _ _ hq, hf, Option.map_none, run_setObj hh, Sem.run_pure]
      · rw [← hpa]
        simp only [pairs, encP, Array.toList_push, List.map_append, List.map_cons, List.map_nil]
        rw [show es.toList.map (fun e => (e.key, e.val)) = _ from hp]
        rfl
      · intro e he
        rw [Array.toList_push] at he
        rcases List.mem_append.1 he with he | he
        · have := hb e he; omega
        · rw [List.mem_singleton] at he; subst he; simp
      · rw [Array.toList_push, List.map_append, List.nodup_append]
        refine ⟨hnd, by simp, ?_⟩
        intro x hx y hy
        obtain ⟨e, he, rfl⟩ := List.mem_map.1 hx
        simp at hy
        have := hb e he
        omega
    | some r =>
      obtain ⟨j, u⟩ := r
      rw [ha] at hf hpa
      obtain ⟨n', hj, hjl, hjk⟩ := atFrom_bound mm kk 0 j u ha
      have hj' : j = n' := by omega
      subst hj'
      have hlen : es.toList.length = mm.length := by
        have := congrArg List.length hp
        simpa [pairs, encP] using this
      have hjs : j < es.size := by rw [Array.length_toList] at hlen; omega
      have hkey : es[j].key = enc kk := by
        have h1 := congrArg (fun l => l[j]?) hp
        simp only [pairs, encP, List.getElem?_map] at h1
        rw [List.getElem?_eq_getElem (by rw [Array.length_toList]; exact hjs), List.getElem?_eq_getElem hjl] at h1
        rw [List.getElem?_eq_getElem hjl] at hjk
        simp at h1 hjk
        rw [← hjk]; exact h1.1
      refine ⟨es.modify j fun e => { e with key := enc kk, val := encV vv }, clock, ?_, ?_, ?_, ?_⟩
      · have hst : (Instr.keyThatStays (((es[j]?).map (·.key)).getD (enc kk)) (enc kk)).run P W = .ok (enc kk) W := by
          rw [Array.getElem?_eq_getElem hjs]
          simp only [Option.map_some, Option.getD_some, hkey, Instr.keyThatStays, K.same _ hq, if_true, Sem.run_pure]
        simp only [Instr.mapUpdate, Sem.run_bind, run_underlying ht, Result.andThen_ok, run_getObj hh, K.chk _ _ _ hq, hf, Option.map_some, hst, run_setObj hh, Sem.run_pure]
      · simp only [Nat.sub_zero] at hpa
        rw [← hpa]
        apply List.ext_getElem?
        intro i
        have h1 := congrArg (fun l => l[i]?) hp
        simp only [pairs, encP, List.getElem?_map] at h1 ⊢
        rw [Array.getElem?_toList, Array.getElem?_modify, List.getElem?_set]
        rw [Array.getElem?_toList] at h1
        by_cases hij : j = i
        · subst hij
          rw [if_pos rfl, if_pos rfl, if_pos hjl, Array.getElem?_eq_getElem hjs]
          rfl
        · rw [if_neg hij, if_neg hij]
          exact h1
      · intro e he
        rw [Array.mem_toList_iff, Array.mem_iff_getElem] at he
        obtain ⟨i, hi, rfl⟩ := he
        rw [Array.getElem_modify]
        split
        · rename_i hij; exact hb (es[i]'(by simpa using hi)) (by simp)
        · exact hb (es[i]'(by simpa using hi)) (by simp)
      · have : (es.modify j fun e => { e with key := enc kk, val := encV vv }).toList.map (·.born) = es.toList.map (·.born) := by
          apply List.ext_getElem?
          intro i
          rw [List.getElem?_map, List.getElem?_map, Array.getElem?_toList, Array.getElem?_toList, Array.getElem?_modify]
          split
          · rename_i hij
            subst hij
            cases es[j]? <;> rfl
          · rfl
        rw [this]; exact hnd
  obtain ⟨es', clock', hrun, hp', hb', hnd'⟩ := key
  have hex : (execOp a.eval o).run P W = .ok .skip { W with heap := W.heap.setIfInBounds g (.map es' clock') } := by
    unfold execOp
    rcases ho with ho | ho <;> simp only [ho, hm, hk, hv, Sem.run_bind, Sem.run_pure, Result.andThen_ok, hrun]
  unfold Oper.wp
  rw [hex]
  show KK (a.put o.dst undef) _
  rw [hN]
  refine hKK a _ (h _ (HS.upd n hn (Chg.setObj _ hg) ⟨es', clock', ?_, hp', mput_keys hqs hq, hb', hnd'⟩ (fun b hb => ?_)))
  · show (W.heap.setIfInBounds g _)[g]? = _
    rw [Array.getElem?_setIfInBounds_self_of_lt hg]
  · cases hb
    exact ⟨.inl rfl, by simpa using hg⟩
theorem sh_update {w0 W : World} {is : List HP} (HS : SH w0 W is) (hw : Region.wanted o (yielded ops a.tmps) = true) (hN : o.dst = none) {t : TypeId} {m k v : Operand} (ho : o.op = .mapUpdate t m k v)
    {g : Nat} (hm : a.eval m = .map (some g)) (n : Nat) {mm : List (κ × ν)} (hn : is[n]? = some (mp g enc encV q mm)) (kk : κ) (hk : a.eval k = enc kk) (hq : q kk) (vv : ν) (hv : a.eval v = encV vv)
    {et : TypeId} (ht : P.underlying t = some (.map kt et)) (K : KeyOK P kt enc q)
    (h : ∀ w1, SH w0 w1 (is.set n (mp g enc encV q (mput mm kk vv))) → wpList P ops Q rest a w1) : WP P ops Q (o :: rest) a W := sh_upd0 HS hw hN (.inl ho) hm n hn kk hk hq vv hv ht K h
/-- an entry of a map's literal -/
theorem sh_insert {w0 W : World} {is : List HP} (HS : SH w0 W is) (hw : Region.wanted o (yielded ops a.tmps) = true) (hN : o.dst = none) {t : TypeId} {m k v : Operand} (ho : o.op = .insert t m k v)
    {g : Nat} (hm : a.eval m = .map (some g)) (n : Nat) {mm : List (κ × ν)} (hn : is[n]? = some (mp g enc encV q mm)) (kk : κ) (hk : a.eval k = enc kk) (hq : q kk) (vv : ν) (hv : a.eval v = encV vv)
    {et : TypeId} (ht : P.underlying t = some (.map kt et)) (K : KeyOK P kt enc q)
    (h : ∀ w1, SH w0 w1 (is.set n (mp g enc encV q (mput mm kk vv))) → wpList P ops Q rest a w1) : WP P ops Q (o :: rest) a W := sh_upd0 HS hw hN (.inr ho) hm n hn kk hk hq vv hv ht K h
theorem gIn {W : World} {t : TypeId} {m k v : Operand} (_ho : o.op = .insert t m k v) (h : WP P ops Q (o :: rest) a W) : wpList P ops Q (o :: rest) a W := h.out
/-- a map that is read only -/
theorem mp_below {w w1 : World} {g : Nat} {mm : List (κ × ν)} (h : (mp g enc encV q mm).ok w) (hb : Below w.heap.size w w1) : (mp g enc encV q mm).ok w1 :=
  (mp g enc encV q mm).loc (fun b hbb => by
    have e : b = g := hbb
    subst e
    obtain ⟨es, clock, hh, _⟩ := h
    exact hb.block b (Array.getElem?_eq_some_iff.1 hh).1) h
theorem mp_sh {w0 w : World} {is : List HP} {g : Nat} {mm : List (κ × ν)} (h : (mp g enc encV q mm).ok w0) (HS : SH w0 w is) : (mp g enc encV q mm).ok w := mp_below h HS.below
theorem rd_lookup {W : World} (hw : Region.wanted o (yielded ops a.tmps) = true) {t : TypeId} {m k : Operand} (ho : o.op = .lookup t m k false)
    {g : Nat} (hm : a.eval m = .map (some g)) {mm : List (κ × ν)} (hmp : (mp g enc encV q mm).ok W) (kk : κ) (hk : a.eval k = enc kk) (hq : q kk)
    {et : TypeId} (ht : P.underlying t = some (.map kt et)) (K : KeyOK P kt enc q) {z : ν} (hz : (P.info? et).bind (·.zero) = some (encV z))
    (h : wpList P ops Q rest (a.put o.dst (encV ((mget mm kk).getD z))) W) : WP P ops Q (o :: rest) a W := by
  refine ⟨?_⟩
  obtain ⟨es, clock, hh, hp, hqs, hb, hnd⟩ := hmp
  have hf := run_findKey (encV := encV) K hq W mm es.toList hp hqs
  obtain ⟨inf, hi, hz⟩ := Option.bind_eq_some_iff.1 hz
  have hzv : (zeroValue et).run P W = .ok (encV z) W := by simp [zeroValue, typeInfo, hi, hz]
  have hl := mget_atFrom mm kk 0
  refine run_step hw ?_ h
  unfold execOp
  simp only [ho, hm, hk]
  cases ha : atFrom mm kk 0 with
  | none =>
    rw [ha] at hf hl
    simp only [Option.map_none] at hf hl
    rw [← hl]
    simp [Instr.lookup, run_underlying ht, run_getObj hh, K.chk _ _ _ hq, hf, hzv]
  | some r =>
    rw [ha] at hf hl
    simp only [Option.map_some] at hf hl
    rw [← hl]
    simp [Instr.lookup, run_underlying ht, run_getObj hh, K.chk _ _ _ hq, hf, hzv]
/-- len(m) -/
theorem mp_len {W : World} (hw : Region.wanted o (yielded ops a.tmps) = true) {m : Operand} {t : TypeId} (ho : o.op = .call { callee := .builtin .len, args := #[m], argTypes := #[t] })
    {g : Nat} (hm : a.eval m = .map (some g)) {mm : List (κ × ν)} (hmp : (mp g enc encV q mm).ok W) {et : TypeId} (ht : P.underlying t = some (.map kt et)) (h : wpList P ops Q rest (a.put o.dst (goInt mm.length)) W) : WP P ops Q (o :: rest) a W := by
  refine ⟨?_⟩
  obtain ⟨es, clock, hh, hp, hqs, hb, hnd⟩ := hmp
  have hlen : es.size = mm.length := by
    have := congrArg List.length hp
    simpa [pairs, encP] using this
  refine run_step hw ?_ h
  have hrun : (Builtin.len_ #[t] o.type #[a.eval m]).run P W = .ok (goInt mm.length) W := by
    rw [hm]
    simp [Builtin.len_, run_underlying ht, run_getObj hh, hlen]
  unfold execOp
  generalize a.eval = ev at hrun ⊢
  simp [ho, go_sem, hrun]
/-- m[k], of one result -/
theorem sh_lookup {w0 W : World} {is : List HP} (HS : SH w0 W is) (hw : Region.wanted o (yielded ops a.tmps) = true) {t : TypeId} {m k : Operand} (ho : o.op = .lookup t m k false)
    {g : Nat} (hm : a.eval m = .map (some g)) (n : Nat) {mm : List (κ × ν)} (hn : is[n]? = some (mp g enc encV q mm)) (kk : κ) (hk : a.eval k = enc kk) (hq : q kk)
    {et : TypeId} (ht : P.underlying t = some (.map kt et)) (K : KeyOK P kt enc q) {z : ν} (hz : (P.info? et).bind (·.zero) = some (encV z))
    (h : wpList P ops Q rest (a.put o.dst (encV ((mget mm kk).getD z))) W) : WP P ops Q (o :: rest) a W := by
  refine ⟨?_⟩
  obtain ⟨es, clock, hh, hp, hqs, hb, hnd⟩ := HS.at n hn
  have hf := run_findKey (encV := encV) K hq W mm es.toList hp hqs
  obtain ⟨inf, hi, hz⟩ := Option.bind_eq_some_iff.1 hz
  have hzv : (zeroValue et).run P W = .ok (encV z) W := by simp [zeroValue, typeInfo, hi, hz]
  have hl := mget_atFrom mm kk 0
  refine run_step hw ?_ h
  unfold execOp
  simp only [ho, hm, hk]
  cases ha : atFrom mm kk 0 with
  | none =>
    rw [ha] at hf hl
    simp only [Option.map_none] at hf hl
    rw [← hl]
    simp [Instr.lookup, run_underlying ht, run_getObj hh, K.chk _ _ _ hq, hf, hzv]
  | some r =>
    rw [ha] at hf hl
    simp only [Option.map_some] at hf hl
    rw [← hl]
    simp [Instr.lookup, run_underlying ht, run_getObj hh, K.chk _ _ _ hq, hf, hzv]
end
end
end Go.Proofs.Ytddnkbabbobkaaa.Sl
