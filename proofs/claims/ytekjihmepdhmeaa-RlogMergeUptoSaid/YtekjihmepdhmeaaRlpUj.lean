import Derived.Test.YtekjihmepdhmeaaRlpSj
/- Lemmas towards the law: what of the text RlpU it needs. -/
namespace Go.Proofs.Ytekjihmepdhmeaa.Rlo
open Go.RowKit Go.Proofs.YtekjihmepdhmeaaW.PrintWords Go.Proofs.Ytekjihmepdhmeaa.Sl
set_option linter.unusedVariables false
set_option linter.unusedSimpArgs false
theorem termOf_eq {d : Hrd} (hl : lastOf d = d.s.si + d.log.length) (i : Int) : termOf d i = if i = d.s.si then (d.s.st, true) else if i < d.s.si ∨ d.s.si + d.log.length < i then (0, false) else ((d.log.getD (i - d.s.si - 1).toNat default).term, true) := by
  unfold termOf
  rw [hl]
/-- where the search ends -/
theorem skipM_spec {d : Hrd} {commit : Int} : ∀ (l : List Ent) (i : Int) {S : Skp}, skipM d commit l i = S → S.bad = false → ∃ pre : List Ent, l = pre ++ S.l ∧ S.i = i + pre.length ∧ (∀ k < pre.length, termOf d (i + k + 1) = ((pre.getD k default).term, true)) ∧ (S.cut = true → commit ≤ S.i ∧ (termOf d (S.i + 1)).2 = true) ∧ (S.cut = false → S.l = [] ∨ (termOf d (S.i + 1)).2 = false)
  | [], i, S, h, _ => by
    subst h
    exact ⟨[], rfl, by simp [skipM], fun k hk => by simp at hk, fun h => (by cases h), fun _ => .inl rfl⟩
  | x :: l, i, S, h, hb => by
    rw [skipM_cons] at h
    split at h
    · rename_i h1
      subst h
      exact ⟨[], rfl, by simp, fun k hk => by simp at hk, fun h => (by cases h), fun _ => .inr h1⟩
    · rename_i h1
      split at h
      · rename_i h2
        obtain ⟨pre, e1, e2, e3, e4, e5⟩ := skipM_spec l (i + 1) h hb
        refine ⟨x :: pre, by rw [e1]; rfl, by rw [e2, List.length_cons]; omega, fun k hk => ?_, e4, e5⟩
        cases k with
        | zero =>
          have h3 : (termOf d (i + 1)).2 = true := by simpa using h1
          show termOf d (i + (0 : Nat) + 1) = (x.term, true)
          rw [show i + ((0 : Nat) : Int) + 1 = i + 1 by omega]
          exact Prod.ext h2 h3
        | succ k =>
          have := e3 k (by simpa using hk)
          rw [show i + ((k + 1 : Nat) : Int) + 1 = i + 1 + (k : Int) + 1 by omega]
          exact this
      · split at h
        · subst h; cases hb
        · rename_i h3
          subst h
          exact ⟨[], rfl, by simp, fun k hk => by simp at hk, fun _ => ⟨by show commit ≤ i; omega, by simpa using h1⟩, fun h => (by cases h)⟩
theorem headM_cases {d : Hrd} {ix t : Int} {l l2 : List Ent} {i2 : Int} (h : headM d ix t l = some (some (l2, i2))) : (ix < d.s.si ∧ d.s.si - ix < l.length ∧ l2 = l.drop (d.s.si - ix).toNat ∧ i2 = d.s.si) ∨ (d.s.si ≤ ix ∧ termOf d ix = (t, true) ∧ l2 = l ∧ i2 = ix) := by
  unfold headM at h
  split at h
  · rename_i h1
    split at h
    · cases h
    · rename_i h2
      injection h with h; injection h with h; injection h with h3 h4
      exact .inl ⟨h1, by omega, h3.symm, h4.symm⟩
  · rename_i h1
    split at h
    · rename_i h2
      injection h with h; injection h with h; injection h with h3 h4
      exact .inr ⟨by omega, Prod.ext h2.2 h2.1, h3.symm, h4.symm⟩
    · cases h
theorem skip_facts {d : Hrd} {w : World} {ix t commit : Int} {l l2 : List Ent} {i2 : Int} {S : Skp} (hk : d.ok w) (hg : hardOk d = true) (hh : headM d ix t l = some (some (l2, i2))) (hs : skipM d commit l2 i2 = S) (hb : S.bad = false) : d.s.si ≤ i2 ∧ d.s.si ≤ S.i ∧ S.i ≤ d.s.si + d.log.length := by
  have hLd := (hardOk_last hk hg).1
  obtain ⟨pre, e1, e2, e3, e4, e5⟩ := skipM_spec l2 i2 hs hb
  have hi2 : d.s.si ≤ i2 := by
    rcases headM_cases hh with ⟨_, _, _, h⟩ | ⟨h, _, _, h'⟩ <;> omega
  have hSi : d.s.si ≤ S.i := by omega
  have hSl : S.i ≤ d.s.si + d.log.length := by
    rw [e2]
    rcases Nat.eq_zero_or_pos pre.length with h0 | h0
    · rw [h0]
      rcases headM_cases hh with ⟨_, _, _, h⟩ | ⟨h, h1, _, h'⟩
      · omega
      · rw [termOf_eq hLd] at h1
        split at h1
        · omega
        · split at h1
          · cases h1
          · omega
    · have := e3 (pre.length - 1) (by omega)
      rw [show i2 + ((pre.length - 1 : Nat) : Int) + 1 = i2 + pre.length by omega, termOf_eq hLd] at this
      split at this
      · omega
      · split at this
        · have := congrArg Prod.snd this
          cases this
        · omega
  exact ⟨hi2, hSi, hSl⟩
theorem same_term2 {d dx : Hrd} (h : d.same dx) (i : Int) : termOf dx i = termOf d i := by
  unfold termOf lastOf
  rw [h.s.si, h.s.st, same_len h]
  have : ∀ k, (dx.log.getD k default).term = (d.log.getD k default).term := fun k => by
    have := congrArg (fun l => (l[k]?).map Ent.term) h.log
    simp only [List.getElem?_map] at this
    rw [List.getD_eq_getElem?_getD, List.getD_eq_getElem?_getD]
    revert this
    cases dx.log[k]? <;> cases d.log[k]? <;> intro this <;> simp_all [Ent.data]
  rw [this]
theorem same_skip {d dx : Hrd} (h : d.same dx) (commit : Int) : ∀ (l : List Ent) (i : Int), skipM dx commit l i = skipM d commit l i
  | [], i => rfl
  | x :: l, i => by rw [skipM_cons, skipM_cons, same_term2 h, same_skip h commit l (i + 1)]
theorem same_head {d dx : Hrd} (h : d.same dx) (ix t : Int) (l : List Ent) : headM dx ix t l = headM d ix t l := by
  unfold headM
  rw [h.s.si, same_term2 h]
end Go.Proofs.Ytekjihmepdhmeaa.Rlo

