/- Lemmas towards the law: what of the text MapR it needs. -/
import Derived.Test.YtgcgnhcjjlnloaaDoorSlXq
import Derived.Maps.RangeRun
namespace Go.Proofs.YtgcgnhcjjlnloaaDoor.Sl
open Go.RowKit Go.Proofs.YtgcgnhcjjlnloaaDoorW.PrintWords
set_option linter.unusedVariables false
set_option linter.unusedSimpArgs false
set_option linter.unusedSectionVars false
section
variable {κ ν : Type} [DecidableEq κ]
def mdel : List (κ × ν) → κ → List (κ × ν)
  | [], _ => []
  | p :: m, k => if p.1 = k then m else p :: mdel m k
def keysOf (m : List (κ × ν)) : List κ := m.map (·.1)
theorem mdel_sub : ∀ (m : List (κ × ν)) (k : κ), (mdel m k).Sublist m
  | [], _ => List.Sublist.refl _
  | p :: m, k => by
    unfold mdel
    split
    · exact List.sublist_cons_self _ _
    · exact (mdel_sub m k).cons_cons _
theorem mget_none {m : List (κ × ν)} {k : κ} (h : k ∉ keysOf m) : mget m k = none := by
  unfold mget
  rw [List.find?_eq_none.2, Option.map_none]
  intro p hp e
  exact h (List.mem_map.2 ⟨p, hp, by simpa using e⟩)
theorem mget_del : ∀ (m : List (κ × ν)) (k k' : κ), (keysOf m).Nodup → mget (mdel m k) k' = if k = k' then none else mget m k'
  | [], k, k', _ => by simp [mdel, mget]
  | p :: m, k, k', h => by
    have h' : p.1 ∉ keysOf m ∧ (keysOf m).Nodup := List.nodup_cons.1 h
    unfold mdel
    by_cases e : p.1 = k
    · rw [if_pos e]
      by_cases e' : k = k'
      · rw [if_pos e', ← e', ← e]; exact mget_none h'.1
      · rw [if_neg e']
        have hp : ¬ p.1 = k' := fun x => e' (e.symm.trans x)
        simp [mget, List.find?_cons, hp]
    · rw [if_neg e]
      have ih := mget_del m k k' h'.2
      unfold mget at ih ⊢
      by_cases hp : p.1 = k'
      · have : ¬ k = k' := fun x => e (hp.trans x.symm)
        simp [List.find?_cons, hp, this]
      · have hb : (p.1 == k') = false := beq_eq_false_iff_ne.2 hp
        rw [List.find?_cons, hb, List.find?_cons, hb]
        exact ih
theorem nodup_del {m : List (κ × ν)} (k : κ) (h : (keysOf m).Nodup) : (keysOf (mdel m k)).Nodup := List.Nodup.sublist ((mdel_sub m k).map _) h
theorem keys_put : ∀ (m : List (κ × ν)) (k : κ) (v : ν), keysOf (mput m k v) = if k ∈ keysOf m then keysOf m else keysOf m ++ [k]
  | [], k, v => by simp [mput, keysOf]
  | p :: m, k, v => by
    have ih := keys_put m k v
    unfold mput
    by_cases e : p.1 = k
    · rw [if_pos e]
      have : k ∈ keysOf (p :: m) := List.mem_map.2 ⟨p, List.mem_cons_self, e⟩
      rw [if_pos this]
      simp [keysOf, e]
    · rw [if_neg e]
      show p.1 :: keysOf (mput m k v) = _
      rw [ih]
      have hm : k ∈ keysOf (p :: m) ↔ k ∈ keysOf m := by
        show k ∈ p.1 :: keysOf m ↔ _
        rw [List.mem_cons]
        exact ⟨fun h => h.elim (fun x => absurd x.symm e) id, .inr⟩
      by_cases hk : k ∈ keysOf m
      · rw [if_pos hk, if_pos (hm.2 hk)]; rfl
      · rw [if_neg hk, if_neg (fun x => hk (hm.1 x))]; rfl
theorem nodup_put {m : List (κ × ν)} (k : κ) (v : ν) (h : (keysOf m).Nodup) : (keysOf (mput m k v)).Nodup := by
  rw [keys_put]
  split
  · exact h
  · rename_i hk
    rw [List.nodup_append]
    refine ⟨h, by simp, fun x hx y hy => ?_⟩
    rw [List.mem_singleton] at hy
    subst hy
    rintro rfl
    exact hk hx
theorem mdel_at : ∀ (m : List (κ × ν)) (k : κ) (i : Nat), (match atFrom m k i with | some (j, _) => m.eraseIdx (j - i) | none => m) = mdel m k
  | [], k, i => by simp [atFrom, mdel]
  | p :: m, k, i => by
    have ih := mdel_at m k (i + 1)
    unfold atFrom mdel
    by_cases hp : p.1 = k
    · simp [hp]
    · rw [if_neg hp, if_neg hp]
      cases ha : atFrom m k (i + 1) with
      | none => rw [ha] at ih; simp only at ih; simp [← ih]
      | some r =>
        obtain ⟨j, u⟩ := r
        rw [ha] at ih
        simp only at ih
        obtain ⟨n, h1, _, _⟩ := atFrom_bound m k (i + 1) j u ha
        simp only
        rw [← ih, show j - i = (j - (i + 1)) + 1 from by omega, List.eraseIdx_cons_succ]
theorem map_erase {α β : Type} (f : α → β) : ∀ (l : List α) (j : Nat), (l.eraseIdx j).map f = (l.map f).eraseIdx j
  | [], j => by simp
  | x :: l, 0 => by simp
  | x :: l, j + 1 => by simp [map_erase f l j]
end
section
variable {P : Program} {κ ν : Type} [DecidableEq κ] {kt : TypeId} {enc : κ → Value} {encV : ν → Value} {q : κ → Prop}
theorem run_del (K : KeyOK P kt enc q) {W : World} {g : Nat} {es : Array MapEntry} {clock : Nat} {mm : List (κ × ν)} (hh : W.heap[g]? = some (.map es clock)) (hp : pairs es.toList = encP enc encV mm) (hqs : ∀ p ∈ mm, q p.1) {kk : κ} (hq : q kk) {t et : TypeId} (ht : P.underlying t = some (.map kt et)) (ty : TypeId) :
    ∃ es' : Array MapEntry, (Builtin.delete_ #[t, kt] ty #[.map (some g), enc kk]).run P W = .ok (.tuple #[]) { W with heap := W.heap.setIfInBounds g (.map es' clock) } ∧ pairs es'.toList = encP enc encV (mdel mm kk) ∧ (es' = es ∨ ∃ j e, es.toList[j]? = some e ∧ e.key = enc kk ∧ es'.toList = es.toList.eraseIdx j) := by
  have hf := run_findKey (encV := encV) K hq W mm es.toList hp hqs
  have hda := mdel_at mm kk 0
  cases ha : atFrom mm kk 0 with
  | none =>
    rw [ha] at hf hda
    refine ⟨es, ?_, ?_, .inl rfl⟩
    · simp [Builtin.delete_, run_underlying ht, run_getObj hh, K.chk _ _ _ hq, hf, run_setObj hh]
    · simp only at hda; rw [← hda]; exact hp
  | some r =>
    obtain ⟨j, u⟩ := r
    rw [ha] at hf hda
    obtain ⟨n', hj, hjl, hjk⟩ := atFrom_bound mm kk 0 j u ha
    have hj' : j = n' := by omega
    subst hj'
    simp only [Nat.sub_zero] at hda
    have hlen : es.toList.length = mm.length := by
      have := congrArg List.length hp
      simpa [pairs, encP] using this
    have hjs : j < es.size := by rw [Array.length_toList] at hlen; omega
    have hkey : es[j].key = enc kk := by
      have h1 := congrArg (fun l => l[j]?) hp
      simp only [pairs, encP, List.getElem?_map] at h1
      rw [List.getElem?_eq_getElem (by rw [Array.length_toList]; exact hjs), List.getElem?_eq_getElem hjl] at h1
      rw [List.getElem?_eq_getElem hjl] at hjk
      simp at h1 hjk
      rw [← hjk]; exact h1.1
    have hel : (es.eraseIdxIfInBounds j).toList = es.toList.eraseIdx j := by
      unfold Array.eraseIdxIfInBounds
      rw [dif_pos hjs]
      simp
    refine ⟨es.eraseIdxIfInBounds j, ?_, ?_, .inr ⟨j, es[j], ?_, hkey, hel⟩⟩
    · simp [Builtin.delete_, run_underlying ht, run_getObj hh, K.chk _ _ _ hq, hf, run_setObj hh]
    · rw [hel, ← hda]
      show (es.toList.eraseIdx j).map _ = (mm.eraseIdx j).map _
      rw [map_erase, map_erase]
      exact congrArg (·.eraseIdx j) hp
    · rw [Array.getElem?_toList, Array.getElem?_eq_getElem hjs]
/-- A map (block g) over which a range goes on (block r): left: the keys that are still to come. -/
def mpr (g r : Nat) (enc : κ → Value) (encV : ν → Value) (q : κ → Prop) (m : List (κ × ν)) (left : List κ) : HP where
  fp := fun b => b = g ∨ b = r
  ok := fun w => g ≠ r ∧ ∃ es clock since seen c0, w.heap[g]? = some (.map es clock) ∧ w.heap[r]? = some (.mapIter (some g) since seen c0) ∧ pairs es.toList = encP enc encV m ∧ (∀ p ∈ m, q p.1) ∧ (∀ e ∈ es.toList, e.born < clock) ∧ (es.toList.map (·.born)).Nodup ∧
    (∀ e ∈ es.toList, e.born < since) ∧ since ≤ c0 ∧ since ≤ clock ∧ (es.toList.filter (fun e => !seen.contains e.born)).map (·.key) = left.map enc
  loc := by
    rintro w w' h ⟨hne, es, clock, since, seen, c0, h1, h2, h3⟩
    exact ⟨hne, es, clock, since, seen, c0, (h _ (.inl rfl)).trans h1, (h _ (.inr rfl)).trans h2, h3⟩
section
variable {ops : Array Oper} {rest : List Oper} {o : Oper} {a : Act} {Q : Exit → Act → World → Prop}
theorem gRg {W : World} {t : TypeId} {m : Operand} (_ho : o.op = .range t m) (h : WP P ops Q (o :: rest) a W) : wpList P ops Q (o :: rest) a W := h.out
theorem gNx {W : World} {m : Operand} {b : Bool} (_ho : o.op = .next m b) (h : WP P ops Q (o :: rest) a W) : wpList P ops Q (o :: rest) a W := h.out
/-- delete(m, k) -/
theorem sh_delete {w0 W : World} {is : List HP} (HS : SH w0 W is) (hw : Region.wanted o (yielded ops a.tmps) = true) {t : TypeId} {m k : Operand} (ho : o.op = .call { callee := .builtin .delete, args := #[m, k], argTypes := #[t, kt] })
    {g : Nat} (hm : a.eval m = .map (some g)) (n : Nat) {mm : List (κ × ν)} (hn : is[n]? = some (mp g enc encV q mm)) (kk : κ) (hk : a.eval k = enc kk) (hq : q kk)
    {et : TypeId} (ht : P.underlying t = some (.map kt et)) (K : KeyOK P kt enc q)
    (h : ∀ w1, SH w0 w1 (is.set n (mp g enc encV q (mdel mm kk))) → wpList P ops Q rest (a.put o.dst (.tuple #[])) w1) : WP P ops Q (o :: rest) a W := by
  refine ⟨?_⟩
  obtain ⟨es, clock, hh, hp, hqs, hb, hnd⟩ := HS.at n hn
  have hg : g < W.heap.size := (Array.getElem?_eq_some_iff.1 hh).1
  obtain ⟨es', hrun, hp', hcase⟩ := run_del (et := et) K hh hp hqs hq ht o.type
  have hsub : es'.toList.Sublist es.toList := by
    rcases hcase with rfl | ⟨j, e, _, _, h3⟩
    · exact List.Sublist.refl _
    · rw [h3]; exact List.eraseIdx_sublist _ _
  refine run_step hw (w1 := { W with heap := W.heap.setIfInBounds g (.map es' clock) }) (v := .tuple #[]) ?_ (h _ (HS.upd n hn (Chg.setObj _ hg) ⟨es', clock, ?_, hp', fun p hp => hqs p ((mdel_sub _ _).subset hp), fun e he => hb e (hsub.subset he), List.Nodup.sublist (hsub.map _) hnd⟩ (fun b hb => ?_)))
  · rw [← hm, ← hk] at hrun
    unfold execOp
    generalize a.eval = ev at hrun ⊢
    simp [ho, go_sem, hrun]
  · show (W.heap.setIfInBounds g _)[g]? = _
    rw [Array.getElem?_setIfInBounds_self_of_lt hg]
  · cases hb
    exact ⟨.inl rfl, by simpa using hg⟩
/-- range m -/
theorem sh_range {w0 W : World} {is : List HP} (HS : SH w0 W is) (hw : Region.wanted o (yielded ops a.tmps) = true) {t : TypeId} {m : Operand} (ho : o.op = .range t m)
    {g : Nat} (hm : a.eval m = .map (some g)) (n : Nat) {mm : List (κ × ν)} (hn : is[n]? = some (mp g enc encV q mm)) {et : TypeId} (ht : P.underlying t = some (.map kt et))
    (h : ∀ r w1, w0.heap.size ≤ r → SH w0 w1 (is.set n (mpr g r enc encV q mm (keysOf mm))) → wpList P ops Q rest (a.put o.dst (.pointer (some ⟨r, 0, none⟩))) w1) : WP P ops Q (o :: rest) a W := by
  refine ⟨?_⟩
  obtain ⟨es, clock, hh, hp, hqs, hb, hnd⟩ := HS.at n hn
  have hg : g < W.heap.size := (Array.getElem?_eq_some_iff.1 hh).1
  have hkeys : (es.toList.filter (fun e => !(#[] : Array Nat).contains e.born)).map (·.key) = (keysOf mm).map enc := by
    have e1 : es.toList.filter (fun e => !(#[] : Array Nat).contains e.born) = es.toList := List.filter_eq_self.2 (fun x _ => by simp)
    rw [e1]
    have h2 := congrArg (List.map Prod.fst) hp
    simpa [pairs, encP, keysOf, List.map_map, Function.comp_def] using h2
  have hgo : (W.alloc (.mapIter (some g) clock #[] clock)).heap[g]? = some (.map es clock) := ((MapKept.heap_alloc W _).2 g hg).trans hh
  refine run_step hw (w1 := W.alloc (.mapIter (some g) clock #[] clock)) (v := .pointer (some ⟨W.heap.size, 0, none⟩)) ?_ (h _ _ HS.size (HS.upd n hn (Chg.of_below (below_alloc (Below.refl _ _) _)) ⟨by omega, es, clock, clock, #[], clock, hgo, heap_alloc_new _ _, hp, hqs, hb, hnd, hb, Nat.le_refl _, Nat.le_refl _, hkeys⟩ (fun b hb => ?_)))
  · have hrun := Go.run_range_map W t kt et g es clock ht hh
    rw [← hm] at hrun
    unfold execOp
    generalize a.eval = ev at hrun ⊢
    simp [ho, hrun]
  · rcases hb with rfl | rfl
    · exact ⟨.inl rfl, by simp; omega⟩
    · exact ⟨.inr (Nat.le_refl _), by simp⟩
theorem split_filter {l : List MapEntry} (seen : Array Nat) {e : MapEntry} (hnd : (l.map (·.born)).Nodup) (he : e ∈ l.filter (fun e => !seen.contains e.born)) :
    ∃ l1 l2, l.filter (fun e => !seen.contains e.born) = l1 ++ e :: l2 ∧ l.filter (fun x => !(seen.push e.born).contains x.born) = l1 ++ l2 := by
  obtain ⟨l1, l2, h⟩ := List.append_of_mem he
  refine ⟨l1, l2, h, ?_⟩
  have e1 : l.filter (fun x => !(seen.push e.born).contains x.born) = (l.filter (fun e => !seen.contains e.born)).filter (fun x => !(x.born == e.born)) := by
    rw [List.filter_filter]
    congr 1
    funext x
    rw [Go.contains_push]
    cases seen.contains x.born <;> cases (x.born == e.born) <;> rfl
  have hnd' : ((l1 ++ e :: l2).map (·.born)).Nodup := by
    rw [← h]
    exact List.Nodup.sublist ((List.filter_sublist).map _) hnd
  rw [List.map_append, List.map_cons, List.nodup_append] at hnd'
  obtain ⟨_, hc, hd⟩ := hnd'
  rw [List.nodup_cons] at hc
  rw [e1, h, List.filter_append, List.filter_cons_of_neg (by simp), List.filter_eq_self.2, List.filter_eq_self.2]
  · intro x hx
    have : x.born ≠ e.born := fun ee => hc.1 (ee ▸ List.mem_map.2 ⟨x, hx, rfl⟩)
    simpa using this
  · intro x hx
    have : x.born ≠ e.born := fun ee => hd x.born (List.mem_map.2 ⟨x, hx, rfl⟩) e.born List.mem_cons_self ee
    simpa using this
theorem below_setBlock {w : World} {r : Nat} (o' : Obj) : Chg (fun b => b = r) w (Go.ChangeMaps.setBlock w r o') :=
  ⟨rfl, rfl, rfl, by simp [Go.ChangeMaps.setBlock], fun k hk hs => by
    show (w.heap.setIfInBounds r o')[k]? = _
    rw [Array.getElem?_setIfInBounds_ne (fun e => hs e.symm)]⟩
/-- the next entry -/
theorem sh_next {w0 W : World} {is : List HP} (HS : SH w0 W is) (hw : Region.wanted o (yielded ops a.tmps) = true) {it : Operand} (ho : o.op = .next it false)
    {r : Nat} (hit : a.eval it = .pointer (some ⟨r, 0, none⟩)) (n : Nat) {g : Nat} {mm : List (κ × ν)} {left : List κ} (hn : is[n]? = some (mpr g r enc encV q mm left)) (hinj : ∀ x y, enc x = enc y → x = y)
    (h0 : left = [] → wpList P ops Q rest (a.put o.dst (.tuple #[.bool false])) W)
    (h1 : ∀ k v l1 l2 w1, left = l1 ++ k :: l2 → (k, v) ∈ mm → SH w0 w1 (is.set n (mpr g r enc encV q mm (l1 ++ l2))) → (Instr.entry (.pointer (some ⟨r, 0, none⟩))).run P w1 = .ok (.tuple #[enc k, encV v]) w1 → wpList P ops Q rest (a.put o.dst (.tuple #[.bool true, enc k, encV v])) w1) : WP P ops Q (o :: rest) a W := by
  refine ⟨?_⟩
  obtain ⟨hne, es, clock, since, seen, c0, hh, hr, hp, hqs, hb, hnd, hs1, hs2, hs3, hleft⟩ := HS.at n hn
  have hg : g < W.heap.size := (Array.getElem?_eq_some_iff.1 hh).1
  have hrl : r < W.heap.size := (Array.getElem?_eq_some_iff.1 hr).1
  have hlo : (Go.leftOf es seen).toList = es.toList.filter (fun e => !seen.contains e.born) := by simp [Go.leftOf]
  rcases Go.run_next_at (P := P) W o.type r g since c0 seen es clock hr hh hs1 hs2 with ⟨hz, hrun⟩ | ⟨e, he, w1, hal, hrun⟩
  · have hl0 : left = [] := by
      have : (Go.leftOf es seen).toList = [] := List.eq_nil_of_length_eq_zero (by simpa using hz)
      rw [hlo] at this
      rw [this] at hleft
      cases left with
      | nil => rfl
      | cons x l => simp at hleft
    refine run_step hw ?_ (h0 hl0)
    rw [← hit] at hrun
    unfold execOp
    generalize a.eval = ev at hrun ⊢
    simp [ho, hrun]
  · rw [hlo] at he
    obtain ⟨l1, l2, hs, hs'⟩ := split_filter seen hnd he
    rw [hs, List.map_append, List.map_cons] at hleft
    obtain ⟨k1, k2, hk, hk1, hk2⟩ := List.append_eq_map_iff.1 hleft
    obtain ⟨k, k3, rfl, hke0, hk3⟩ := List.map_eq_cons_iff.1 hk2
    have hke := hke0.symm
    have hem : e ∈ es.toList := (List.mem_filter.1 he).1
    obtain ⟨v, hv, hev⟩ : ∃ v, (k, v) ∈ mm ∧ e.val = encV v := by
      have : (e.key, e.val) ∈ pairs es.toList := List.mem_map.2 ⟨e, hem, rfl⟩
      rw [hp] at this
      obtain ⟨p, hp1, hp2⟩ := List.mem_map.1 this
      injection hp2 with h3 h4
      have : p.1 = k := hinj _ _ (h3.trans hke)
      exact ⟨p.2, by rw [← this]; exact hp1, h4.symm⟩
    have hbel : Below W.heap.size W w1 := by
      rcases hal with rfl | rfl
      · exact Below.refl _ _
      · exact below_drew (Below.refl _ _)
    have hh1 : w1.heap[g]? = some (.map es clock) := (hbel.block g hg).trans hh
    have hr1 : w1.heap[r]? = some (.mapIter (some g) since seen c0) := (hbel.block r hrl).trans hr
    have hr2 : (Go.ChangeMaps.setBlock w1 r (.mapIter (some g) since (seen.push e.born) clock)).heap[r]? = some (.mapIter (some g) since (seen.push e.born) clock) := Array.getElem?_setIfInBounds_self_of_lt (Array.getElem?_eq_some_iff.1 hr1).1
    have hh2 : (Go.ChangeMaps.setBlock w1 r (.mapIter (some g) since (seen.push e.born) clock)).heap[g]? = some (.map es clock) := by
      show (w1.heap.setIfInBounds r _)[g]? = _
      rw [Array.getElem?_setIfInBounds_ne (fun e => hne e.symm)]; exact hh1
    have hw1s := hbel.size
    refine run_step hw (v := .tuple #[.bool true, enc k, encV v]) (w1 := Go.ChangeMaps.setBlock w1 r (.mapIter (some g) since (seen.push e.born) clock)) ?_ (h1 k v k1 k3 _ hk hv ?_ ?_)
    · rw [← hit, hke, hev] at hrun
      unfold execOp
      generalize a.eval = ev at hrun ⊢
      simp [ho, hrun]
    · refine HS.upd n hn ((Chg.of_below (S := fun b => b = g ∨ b = r) hbel).trans ((below_setBlock _).mono (fun b _ e => .inr e))) ⟨hne, es, clock, since, seen.push e.born, clock, hh2, hr2, hp, hqs, hb, hnd, hs1, hs3, hs3, ?_⟩ (fun b hb => ⟨.inl hb, ?_⟩)
      · rw [hs', List.map_append, List.map_append, hk1, hk3]
      · have : (Go.ChangeMaps.setBlock w1 r (.mapIter (some g) since (seen.push e.born) clock)).heap.size = w1.heap.size := by simp [Go.ChangeMaps.setBlock]
        rw [this]
        rcases hb with rfl | rfl <;> omega
    · have := Go.run_entry_at (P := P) _ r g since seen es clock e hr2 hh2 hem hnd
      rw [hke, hev] at this
      exact this
end
end
end Go.Proofs.YtgcgnhcjjlnloaaDoor.Sl
