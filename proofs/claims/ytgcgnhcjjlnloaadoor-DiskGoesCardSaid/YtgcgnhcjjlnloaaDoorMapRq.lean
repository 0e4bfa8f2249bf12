/- Lemmas towards the law: what of the text MapR it needs. -/
import Derived.Test.YtgcgnhcjjlnloaaDoorSlXq
import Derived.Maps.RangeRun
namespace Go.Proofs.YtgcgnhcjjlnloaaDoor.Sl
open Go.RowKit Go.Proofs.YtgcgnhcjjlnloaaDoorW.PrintWords
set_option linter.unusedVariables false
set_option linter.unusedSimpArgs false
set_option linter.unusedSectionVars false
section
variable {κ ν : Type} [DecidableEq κ]
def mdel : List (κ × ν) → κ → List (κ × ν)
  | [], _ => []
  | p :: m, k => if p.1 = k then m else p :: mdel m k
def keysOf (m : List (κ × ν)) : List κ := m.map (·.1)
theorem mdel_sub : ∀ (m : List (κ × ν)) (k : κ), (mdel m k).Sublist m
  | [], _ => List.Sublist.refl _
  | p :: m, k => by
    unfold mdel
    split
    · exact List.sublist_cons_self _ _
    · exact (mdel_sub m k).cons_cons _
theorem mget_none {m : List (κ × ν)} {k : κ} (h : k ∉ keysOf m) : mget m k = none := by
  unfold mget
  rw [List.find?_eq_none.2, Option.map_none]
  intro p hp e
  exact h (List.mem_map.2 ⟨p, hp, by simpa using e⟩)
theorem mget_del : ∀ (m : List (κ × ν)) (k k' : κ), (keysOf m).Nodup → mget (mdel m k) k' = if k = k' then none else mget m k'
  | [], k, k', _ => by simp [mdel, mget]
  | p :: m, k, k', h => by
    have h' : p.1 ∉ keysOf m ∧ (keysOf m).Nodup := List.nodup_cons.1 h
    unfold mdel
    by_cases e : p.1 = k
    · rw [if_pos e]
      by_cases e' : k = k'
      · rw [if_pos e', ← e', ← e]; exact mget_none h'.1
      · rw [if_neg e']
        have hp : ¬ p.1 = k' := fun x => e' (e.symm.trans x)
        simp [mget, List.find?_cons, hp]
    · rw [if_neg e]
      have ih := mget_del m k k' h'.2
      unfold mget at ih ⊢
      by_cases hp : p.1 = k'
      · have : ¬ k = k' := fun x => e (hp.trans x.symm)
        simp [List.find?_cons, hp, this]
      · have hb : (p.1 == k') = false := beq_eq_false_iff_ne.2 hp
        rw [List.find?_cons, hb, List.find?_cons, hb]
        exact ih
theorem nodup_del {m : List (κ × ν)} (k : κ) (h : (keysOf m).Nodup) : (keysOf (mdel m k)).Nodup := List.Nodup.sublist ((mdel_sub m k).map _) h
theorem keys_put : ∀ (m : List (κ × ν)) (k : κ) (v : ν), keysOf (mput m k v) = if k ∈ keysOf m then keysOf m else keysOf m ++ [k]
  | [], k, v => by simp [mput, keysOf]
  | p :: m, k, v => by
    have ih := keys_put m k v
    unfold mput
    by_cases e : p.1 = k
    · rw [if_pos e]
      have : k ∈ keysOf (p :: m) := List.mem_map.2 ⟨p, List.mem_cons_self, e⟩
      rw [if_pos this]
      simp [keysOf, e]
    · rw [if_neg e]
      show p.1 :: keysOf (mput m k v) = _
      rw [ih]
      have hm : k ∈ keysOf (p :: m) ↔ k ∈ keysOf m := by
        show k ∈ p.1 :: keysOf m ↔ _
        rw [List.mem_cons]
        exact ⟨fun h => h.elim (fun x => absurd x.symm e) id, .inr⟩
      by_cases hk : k ∈ keysOf m
      · rw [if_pos hk, if_pos (hm.2 hk)]; rfl
      · rw [if_neg hk, if_neg (fun x => hk (hm.1 x))]; rfl
theorem mdel_at : ∀ (m : List (κ × ν)) (k : κ) (i : Nat), (match atFrom m k i with | some (j, _) => m.eraseIdx (j - i) | none => m) = mdel m k
  | [], k, i => by simp [atFrom, mdel]
  | p :: m, k, i => by
    have ih := mdel_at m k (i + 1)
    unfold atFrom mdel
    by_cases hp : p.1 = k
    · simp [hp]
    · rw [if_neg hp, if_neg hp]
      cases ha : atFrom m k (i + 1) with
      | none => rw [ha] at ih; simp only at ih; simp [← ih]
      | some r =>
        obtain ⟨j, u⟩ := r
        rw [ha] at ih
        simp only at ih
        obtain ⟨n, h1, _, _⟩ := atFrom_bound m k (i + 1) j u ha
        simp only
        rw [← ih, show j - i = (j - (i + 1)) + 1 from by omega, List.eraseIdx_cons_succ]
theorem map_erase {α β : Type} (f : α → β) : ∀ (l : List α) (j : Nat), (l.eraseIdx j).map f = (l.map f).eraseIdx j
  | [], j => by simp
  | x :: l, 0 => by simp
  | x :: l, j + 1 => by simp [map_erase f l j]
end
section
variable {P : Program} {κ ν : Type} [DecidableEq κ] {kt : TypeId} {enc : κ → Value} {encV : ν → Value} {q : κ → Prop}
theorem run_del (K : KeyOK P kt enc q) {W : World} {g : Nat} {es : Array MapEntry} {clock : Nat} {mm : List (κ × ν)} (hh : W.heap[g]? = some (.map es clock)) (hp : pairs es.toList = encP enc encV mm) (hqs : ∀ p ∈ mm, q p.1) {kk : κ} (hq : q kk) {t et : TypeId} (ht : P.underlying t = some (.map kt et)) (ty : TypeId) :
    ∃ es' : Array MapEntry, (Builtin.delete_ #[t, kt] ty #[.map (some g), enc kk]).run P W = .ok (.tuple #[]) { W with heap := W.heap.setIfInBounds g (.map es' clock) } ∧ pairs es'.toList = encP enc encV (mdel mm kk) ∧ (es' = es ∨ ∃ j e, es.toList[j]? = some e ∧ e.key = enc kk ∧ es'.toList = es.toList.eraseIdx j) := by
  have hf := run_findKey (encV := encV) K hq W mm es.toList hp hqs
  have hda := mdel_at mm kk 0
  cases ha : atFrom mm kk 0 with
  | none =>
    rw [ha] at hf hda
    refine ⟨es, ?_, ?_, .inl rfl⟩
    · simp [Builtin.delete_, run_underlying ht, run_getObj hh, K.chk _ _ _ hq, hf, run_setObj hh]
    · simp only at hda; rw [← hda]; exact hp
  | some r =>
    obtain ⟨j, u⟩ := r
    rw [ha] at hf hda
    obtain ⟨n', hj, hjl, hjk⟩ := atFrom_bound mm kk 0 j u ha
    have hj' : j = n' := by omega
    subst hj'
    simp only [Nat.sub_zero] at hda
    have hlen : es.toList.length = mm.length := by
      have := congrArg List.length hp
      simpa [pairs, encP] using this
    have hjs : j < es.size := by rw [Array.length_toList] at hlen; omega
    have hkey : es[j].key = enc kk := by
      have h1 := congrArg (fun l => l[j]?) hp
      simp only [pairs, encP, List.getElem?_map] at h1
      rw [List.getElem?_eq_getElem (by rw [Array.length_toList]; exact hjs), List.getElem?_eq_getElem hjl] at h1
      rw [List.getElem?_eq_getElem hjl] at hjk
      simp at h1 hjk
      rw [← hjk]; exact h1.1
    have hel : (es.eraseIdxIfInBounds j).toList = es.toList.eraseIdx j := by
      unfold Array.eraseIdxIfInBounds
      rw [dif_pos hjs]
      simp
    refine ⟨es.eraseIdxIfInBounds j, ?_, ?_, .inr ⟨j, es[j], ?_, hkey, hel⟩⟩
    · simp [Builtin.delete_, run_underlying ht, run_getObj hh, K.chk _ _ _ hq, hf, run_setObj hh]
    · rw [hel, ← hda]
      show (es.toList.eraseIdx j).map _ = (mm.eraseIdx j).map _
      rw [map_erase, map_erase]
      exact congrArg (·.eraseIdx j) hp
    · rw [Array.getElem?_toList, Array.getElem?_eq_getElem hjs]
section
variable {ops : Array Oper} {rest : List Oper} {o : Oper} {a : Act} {Q : Exit → Act → World → Prop}
/-- delete(m, k) -/
theorem sh_delete {w0 W : World} {is : List HP} (HS : SH w0 W is) (hw : Region.wanted o (yielded ops a.tmps) = true) {t : TypeId} {m k : Operand} (ho : o.op = .call { callee := .builtin .delete, args := #[m, k], argTypes := #[t, kt] })
    {g : Nat} (hm : a.eval m = .map (some g)) (n : Nat) {mm : List (κ × ν)} (hn : is[n]? = some (mp g enc encV q mm)) (kk : κ) (hk : a.eval k = enc kk) (hq : q kk)
    {et : TypeId} (ht : P.underlying t = some (.map kt et)) (K : KeyOK P kt enc q)
    (h : ∀ w1, SH w0 w1 (is.set n (mp g enc encV q (mdel mm kk))) → wpList P ops Q rest (a.put o.dst (.tuple #[])) w1) : WP P ops Q (o :: rest) a W := by
  refine ⟨?_⟩
  obtain ⟨es, clock, hh, hp, hqs, hb, hnd⟩ := HS.at n hn
  have hg : g < W.heap.size := (Array.getElem?_eq_some_iff.1 hh).1
  obtain ⟨es', hrun, hp', hcase⟩ := run_del (et := et) K hh hp hqs hq ht o.type
  have hsub : es'.toList.Sublist es.toList := by
    rcases hcase with rfl | ⟨j, e, _, _, h3⟩
    · exact List.Sublist.refl _
    · rw [h3]; exact List.eraseIdx_sublist _ _
  refine run_step hw (w1 := { W with heap := W.heap.setIfInBounds g (.map es' clock) }) (v := .tuple #[]) ?_ (h _ (HS.upd n hn (Chg.setObj _ hg) ⟨es', clock, ?_, hp', fun p hp => hqs p ((mdel_sub _ _).subset hp), fun e he => hb e (hsub.subset he), List.Nodup.sublist (hsub.map _) hnd⟩ (fun b hb => ?_)))
  · rw [← hm, ← hk] at hrun
    unfold execOp
    generalize a.eval = ev at hrun ⊢
    simp [ho, go_sem, hrun]
  · show (W.heap.setIfInBounds g _)[g]? = _
    rw [Array.getElem?_setIfInBounds_self_of_lt hg]
  · cases hb
    exact ⟨.inl rfl, by simpa using hg⟩
end
end
end Go.Proofs.YtgcgnhcjjlnloaaDoor.Sl
