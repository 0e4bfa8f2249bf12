import Derived.Test.YtekjihmepdhmeaaRlpSj
/- Lemmas towards the law: what of the text RlpU it needs. -/
namespace Go.Proofs.Ytekjihmepdhmeaa.Rlo
open Go.RowKit Go.Proofs.YtekjihmepdhmeaaW.PrintWords Go.Proofs.Ytekjihmepdhmeaa.Sl
set_option linter.unusedVariables false
set_option linter.unusedSimpArgs false
theorem termOf_eq {d : Hrd} (hl : lastOf d = d.s.si + d.log.length) (i : Int) : termOf d i = if i = d.s.si then (d.s.st, true) else if i < d.s.si ∨ d.s.si + d.log.length < i then (0, false) else ((d.log.getD (i - d.s.si - 1).toNat default).term, true) := by
  unfold termOf
  rw [hl]
/-- where the search ends -/
theorem skipM_spec {d : Hrd} {commit : Int} : ∀ (l : List Ent) (i : Int) {S : Skp}, skipM d commit l i = S → S.bad = false → ∃ pre : List Ent, l = pre ++ S.l ∧ S.i = i + pre.length ∧ (∀ k < pre.length, termOf d (i + k + 1) = ((pre.getD k default).term, true)) ∧ (S.cut = true → commit ≤ S.i ∧ (termOf d (S.i + 1)).2 = true) ∧ (S.cut = false → S.l = [] ∨ (termOf d (S.i + 1)).2 = false)
  | [], i, S, h, _ => by
    subst h
    exact ⟨[], rfl, by simp [skipM], fun k hk => by simp at hk, fun h => (by cases h), fun _ => .inl rfl⟩
  | x :: l, i, S, h, hb => by
    rw [skipM_cons] at h
    split at h
    · rename_i h1
      subst h
      exact ⟨[], rfl, by simp, fun k hk => by simp at hk, fun h => (by cases h), fun _ => .inr h1⟩
    · rename_i h1
      split at h
      · rename_i h2
        obtain ⟨pre, e1, e2, e3, e4, e5⟩ := skipM_spec l (i + 1) h hb
        refine ⟨x :: pre, by rw [e1]; rfl, by rw [e2, List.length_cons]; omega, fun k hk => ?_, e4, e5⟩
        cases k with
        | zero =>
          have h3 : (termOf d (i + 1)).2 = true := by simpa using h1
          show termOf d (i + (0 : Nat) + 1) = (x.term, true)
          rw [show i + ((0 : Nat) : Int) + 1 = i + 1 by omega]
          exact Prod.ext h2 h3
        | succ k =>
          have := e3 k (by simpa using hk)
          rw [show i + ((k + 1 : Nat) : Int) + 1 = i + 1 + (k : Int) + 1 by omega]
          exact this
      · split at h
        · subst h; cases hb
        · rename_i h3
          subst h
          exact ⟨[], rfl, by simp, fun k hk => by simp at hk, fun _ => ⟨by show commit ≤ i; omega, by simpa using h1⟩, fun h => (by cases h)⟩
theorem skipM_all {d : Hrd} {commit : Int} : ∀ (l : List Ent) (i : Int), (∀ k < l.length, termOf d (i + k + 1) = ((l.getD k default).term, true)) → skipM d commit l i = ⟨[], i + l.length, false, false⟩
  | [], i, _ => by simp [skipM]
  | x :: l, i, h => by
    have h0 : termOf d (i + 1) = (x.term, true) := by
      have := h 0 (by simp)
      rw [show i + ((0 : Nat) : Int) + 1 = i + 1 by omega] at this
      exact this
    rw [skipM_cons, h0, if_neg (by simp), if_pos rfl, skipM_all l (i + 1) (fun k hk => ?_), List.length_cons]
    · congr 1; omega
    · have := h (k + 1) (by simpa using hk)
      rw [show i + ((k + 1 : Nat) : Int) + 1 = i + 1 + (k : Int) + 1 by omega] at this
      exact this
theorem doAll_adds : ∀ (l : List Ent) (d dy : Hrd) (i : Int), doAll d (addsM l i) = some dy → dy = { d with log := d.log ++ l }
  | [], d, dy, i, h => by
    injection h with h
    rw [List.append_nil, ← h]
  | x :: l, d, dy, i, h => by
    rw [addsM, doAll, doR_add] at h
    split at h
    · have := doAll_adds l _ dy (i + 1) h
      rw [this]
      simp [List.append_assoc]
    · cases h
theorem doAll_recs {d dy : Hrd} {S : Skp} (h1 : d.s.si ≤ S.i) (h : doAll d (recsM S) = some dy) : dy = { d with log := (if S.cut then d.log.take (S.i - d.s.si).toNat else d.log) ++ S.l } := by
  unfold recsM at h
  cases hc : S.cut with
  | false =>
    rw [hc, if_neg (by decide), List.nil_append] at h
    exact doAll_adds _ _ _ _ h
  | true =>
    obtain ⟨kk, hkk⟩ : ∃ kk : Nat, S.i = d.s.si + kk := ⟨(S.i - d.s.si).toNat, by omega⟩
    rw [hc, if_pos rfl, List.cons_append, List.nil_append, hkk, doAll, doR_cut] at h
    have := doAll_adds _ _ _ _ h
    rw [this, if_pos rfl, show (S.i - d.s.si).toNat = kk by omega]
/-- the log as it is then -/
structure FitsP (d dx : Hrd) (ix t commit : Int) (l : List Ent) : Prop where
  g : hardOk dx = true
  ents : ∀ k < l.length, d.s.si < ix + k + 1 → termOf dx (ix + k + 1) = ((l.getD k default).term, true)
  keep : ∀ i, d.s.si ≤ i → i ≤ commit → i ≤ d.s.si + d.log.length → termOf dx i = ((termOf d i).1, true)
  again : mergeG dx ix t commit l = (1, [])
theorem mergeG_fits {d : Hrd} {ix t commit : Int} {l l2 : List Ent} {i2 : Int} {S : Skp} (hg : hardOk d = true) (hh : headM d ix t l = some (some (l2, i2))) (hs : skipM d commit l2 i2 = S) (hb : S.bad = false) (hr : recsM S = []) : mergeG d ix t commit l = (1, []) := by
  unfold mergeG
  rw [hg, if_neg (by decide), hh]
  simp only
  rw [hs, hb, if_neg (by decide), hr]
  rfl
theorem headM_cases {d : Hrd} {ix t : Int} {l l2 : List Ent} {i2 : Int} (h : headM d ix t l = some (some (l2, i2))) : (ix < d.s.si ∧ d.s.si - ix < l.length ∧ l2 = l.drop (d.s.si - ix).toNat ∧ i2 = d.s.si) ∨ (d.s.si ≤ ix ∧ termOf d ix = (t, true) ∧ l2 = l ∧ i2 = ix) := by
  unfold headM at h
  split at h
  · rename_i h1
    split at h
    · cases h
    · rename_i h2
      injection h with h; injection h with h; injection h with h3 h4
      exact .inl ⟨h1, by omega, h3.symm, h4.symm⟩
  · rename_i h1
    split at h
    · rename_i h2
      injection h with h; injection h with h; injection h with h3 h4
      exact .inr ⟨by omega, Prod.ext h2.2 h2.1, h3.symm, h4.symm⟩
    · cases h
theorem headM_none {d : Hrd} {ix t : Int} {l : List Ent} (h : headM d ix t l = some none) : ix < d.s.si ∧ (l.length : Int) ≤ d.s.si - ix := by
  unfold headM at h
  split at h
  · rename_i h1
    split at h
    · rename_i h2; exact ⟨h1, h2⟩
    · cases h
  · split at h <;> cases h
theorem take_getD {l r : List Ent} {k n : Nat} (h : k < n) (hn : n ≤ l.length) : (l.take n ++ r).getD k default = l.getD k default := by
  rw [List.getD_eq_getElem?_getD, List.getD_eq_getElem?_getD, List.getElem?_append_left (by rw [List.length_take]; omega), List.getElem?_take_of_lt h]
theorem skip_facts {d : Hrd} {w : World} {ix t commit : Int} {l l2 : List Ent} {i2 : Int} {S : Skp} (hk : d.ok w) (hg : hardOk d = true) (hh : headM d ix t l = some (some (l2, i2))) (hs : skipM d commit l2 i2 = S) (hb : S.bad = false) : d.s.si ≤ i2 ∧ d.s.si ≤ S.i ∧ S.i ≤ d.s.si + d.log.length := by
  have hLd := (hardOk_last hk hg).1
  obtain ⟨pre, e1, e2, e3, e4, e5⟩ := skipM_spec l2 i2 hs hb
  have hi2 : d.s.si ≤ i2 := by
    rcases headM_cases hh with ⟨_, _, _, h⟩ | ⟨h, _, _, h'⟩ <;> omega
  have hSi : d.s.si ≤ S.i := by omega
  have hSl : S.i ≤ d.s.si + d.log.length := by
    rw [e2]
    rcases Nat.eq_zero_or_pos pre.length with h0 | h0
    · rw [h0]
      rcases headM_cases hh with ⟨_, _, _, h⟩ | ⟨h, h1, _, h'⟩
      · omega
      · rw [termOf_eq hLd] at h1
        split at h1
        · omega
        · split at h1
          · cases h1
          · omega
    · have := e3 (pre.length - 1) (by omega)
      rw [show i2 + ((pre.length - 1 : Nat) : Int) + 1 = i2 + pre.length by omega, termOf_eq hLd] at this
      split at this
      · omega
      · split at this
        · have := congrArg Prod.snd this
          cases this
        · omega
  exact ⟨hi2, hSi, hSl⟩
theorem fits_mk {d dy : Hrd} {w : World} {ix t commit : Int} {l l2 : List Ent} {i2 : Int} {S : Skp} (hk : d.ok w) (hg : hardOk d = true) (hgy : hardOk dy = true) (hky : lastOf dy = dy.s.si + dy.log.length) (hh : headM d ix t l = some (some (l2, i2))) (hs : skipM d commit l2 i2 = S) (hb : S.bad = false) (hd : doAll d (recsM S) = some dy) : FitsP d dy ix t commit l := by
  have hLd := (hardOk_last hk hg).1
  obtain ⟨hi2, hSi, hSl⟩ := skip_facts hk hg hh hs hb
  obtain ⟨pre, e1, e2, e3, e4, e5⟩ := skipM_spec l2 i2 hs hb
  have hlog := doAll_recs hSi hd
  obtain ⟨n, hn⟩ : ∃ n : Nat, S.i = d.s.si + n := ⟨(S.i - d.s.si).toNat, by omega⟩
  have hn' : (S.i - d.s.si).toNat = n := by omega
  rw [hn'] at hlog
  have hsy : dy.s = d.s := by rw [hlog]
  have hnl : n ≤ d.log.length := by omega
  -- what is not cut stays
  have hlo : ∀ i, d.s.si ≤ i → i ≤ S.i ∨ (S.cut = false ∧ i ≤ d.s.si + d.log.length) → termOf dy i = ((termOf d i).1, true) := by
    intro i h1 h2
    rw [termOf_eq hky, termOf_eq hLd, hsy]
    by_cases h3 : i = d.s.si
    · rw [if_pos h3, if_pos h3]
    · have hil : i ≤ d.s.si + d.log.length := by omega
      have hly : i ≤ d.s.si + dy.log.length := by
        rw [hlog]
        simp only [List.length_append]
        rcases h2 with h2 | ⟨h2, _⟩
        · split
          · rw [List.length_take]; omega
          · omega
        · rw [h2]; simp; omega
      rw [if_neg h3, if_neg h3, if_neg (by omega), if_neg (by omega)]
      have : dy.log.getD (i - d.s.si - 1).toNat default = d.log.getD (i - d.s.si - 1).toNat default := by
        rw [hlog]
        simp only
        split
        · rename_i hc
          exact take_getD (by rcases h2 with h2 | ⟨h2, _⟩; · omega
                              · rw [h2] at hc; cases hc) hnl
        · rw [List.getD_eq_getElem?_getD, List.getD_eq_getElem?_getD, List.getElem?_append_left (by omega)]
      rw [this]
  -- what came behind it
  have hhi : ∀ k < S.l.length, termOf dy (S.i + k + 1) = ((S.l.getD k default).term, true) := by
    intro k hkl
    have hpast : S.cut = false → S.i = d.s.si + d.log.length := by
      intro hc
      rcases e5 hc with h | h
      · rw [h] at hkl; simp at hkl
      · rw [termOf_eq hLd] at h
        split at h
        · cases h
        · split at h
          · omega
          · cases h
    have hlen : (if S.cut then d.log.take n else d.log).length = n := by
      split
      · rw [List.length_take]; omega
      · rename_i hc
        have := hpast (by simpa using hc)
        omega
    have hly : dy.log.length = n + S.l.length := by rw [hlog]; simp only [List.length_append, hlen]
    rw [termOf_eq hky, hsy, if_neg (by omega), if_neg (by omega), hlog]
    simp only
    rw [List.getD_eq_getElem?_getD, List.getElem?_append_right (by omega), List.getD_eq_getElem?_getD, hlen, show (S.i + (k : Int) + 1 - d.s.si - 1).toNat - n = k by omega]
  have hall : ∀ k < l2.length, termOf dy (i2 + k + 1) = ((l2.getD k default).term, true) := by
    intro k hkl
    rw [e1, List.length_append] at hkl
    rcases Nat.lt_or_ge k pre.length with h | h
    · rw [hlo _ (by omega) (.inl (by omega)), e3 k h, e1, List.getD_eq_getElem?_getD, List.getD_eq_getElem?_getD, List.getElem?_append_left h]
    · have := hhi (k - pre.length) (by omega)
      rw [show S.i + ((k - pre.length : Nat) : Int) + 1 = i2 + k + 1 by omega] at this
      rw [this, e1, List.getD_eq_getElem?_getD, List.getD_eq_getElem?_getD, List.getElem?_append_right h]
  have hsk := skipM_all (d := dy) (commit := commit) l2 i2 hall
  refine ⟨hgy, fun k hkl hat => ?_, fun i h1 h2 h3 => hlo i h1 ?_, ?_⟩
  · rcases headM_cases hh with ⟨h1, h2, h3, h4⟩ | ⟨h1, h2, h3, h4⟩
    · have := hall (k - (d.s.si - ix).toNat) (by rw [h3, List.length_drop]; omega)
      rw [h4, show d.s.si + ((k - (d.s.si - ix).toNat : Nat) : Int) + 1 = ix + k + 1 by omega, h3, List.getD_eq_getElem?_getD, List.getElem?_drop, show (d.s.si - ix).toNat + (k - (d.s.si - ix).toNat) = k by omega, ← List.getD_eq_getElem?_getD] at this
      exact this
    · have := hall k (by rw [h3]; exact hkl)
      rw [h4, h3] at this
      exact this
  · cases hc : S.cut with
    | false => exact .inr ⟨rfl, h3⟩
    | true => exact .inl (by have := (e4 hc).1; omega)
  · have hh2 : headM dy ix t l = some (some (l2, i2)) := by
      rcases headM_cases hh with ⟨h1, h2, h3, h4⟩ | ⟨h1, h2, h3, h4⟩
      · unfold headM
        rw [hsy, if_pos h1, if_neg (by omega), h3, h4]
      · unfold headM
        rw [hsy, if_neg (by omega), hlo ix h1 (.inl (by omega)), h2, if_pos ⟨rfl, rfl⟩, h3, h4]
    exact mergeG_fits hgy hh2 hsk rfl rfl
/-- nothing is asked beyond the snapshot -/
theorem fits_nil {d : Hrd} {w : World} {ix t commit : Int} {l : List Ent} (hk : d.ok w) (hg : hardOk d = true) (hh : headM d ix t l = some none) : FitsP d d ix t commit l := by
  obtain ⟨h1, h2⟩ := headM_none hh
  refine ⟨hg, fun k hkl h => by omega, fun i h1 h2 h3 => ?_, ?_⟩
  · obtain ⟨k, rfl⟩ : ∃ k : Nat, i = d.s.si + k := ⟨(i - d.s.si).toNat, by omega⟩
    exact Prod.ext rfl (term_is hk hg (by omega))
  · unfold mergeG
    rw [hg, if_neg (by decide), hh]
theorem same_term2 {d dx : Hrd} (h : d.same dx) (i : Int) : termOf dx i = termOf d i := by
  unfold termOf lastOf
  rw [h.s.si, h.s.st, same_len h]
  have : ∀ k, (dx.log.getD k default).term = (d.log.getD k default).term := fun k => by
    have := congrArg (fun l => (l[k]?).map Ent.term) h.log
    simp only [List.getElem?_map] at this
    rw [List.getD_eq_getElem?_getD, List.getD_eq_getElem?_getD]
    revert this
    cases dx.log[k]? <;> cases d.log[k]? <;> intro this <;> simp_all [Ent.data]
  rw [this]
theorem same_skip {d dx : Hrd} (h : d.same dx) (commit : Int) : ∀ (l : List Ent) (i : Int), skipM dx commit l i = skipM d commit l i
  | [], i => rfl
  | x :: l, i => by rw [skipM_cons, skipM_cons, same_term2 h, same_skip h commit l (i + 1)]
theorem same_head {d dx : Hrd} (h : d.same dx) (ix t : Int) (l : List Ent) : headM dx ix t l = headM d ix t l := by
  unfold headM
  rw [h.s.si, same_term2 h]
theorem again_same {d dx : Hrd} (h : d.same dx) {ix t commit : Int} {l : List Ent} (ha : mergeG d ix t commit l = (1, [])) : mergeG dx ix t commit l = (1, []) := by
  unfold mergeG at ha ⊢
  rw [same_hardOk h, same_head h]
  cases hg : hardOk d with
  | false => rw [hg] at ha; exact ha
  | true =>
    rw [hg, if_neg (by decide)] at ha
    rw [if_neg (by decide)]
    rcases hh : headM d ix t l with _ | _ | ⟨l', i'⟩
    · rw [hh] at ha; exact ha
    · rfl
    · rw [hh] at ha
      simp only at ha ⊢
      rw [same_skip h]
      split at ha
      · cases ha
      · rename_i h2
        rw [if_neg h2]
        split at ha
        · cases ha
        · rename_i h3
          injection ha with h4 h5
          rw [h5]
          rfl
theorem FitsP.same {d dy dx : Hrd} {ix t commit : Int} {l : List Ent} (h : FitsP d dy ix t commit l) (hs : dy.same dx) : FitsP d dx ix t commit l :=
  ⟨(same_hardOk hs).trans h.g, fun k hk hat => (same_term2 hs _).trans (h.ents k hk hat), fun i h1 h2 h3 => (same_term2 hs _).trans (h.keep i h1 h2 h3), again_same hs h.again⟩
/-- how Merge's answer came to be -/
theorem merge_one {d : Hrd} {ix t commit : Int} {l : List Ent} {R : List Rc} (hm : mergeG d ix t commit l = (1, R)) (hg : hardOk d = true) : (headM d ix t l = some none ∧ R = []) ∨ ∃ (l2 : List Ent) (i2 : Int) (dy : Hrd), headM d ix t l = some (some (l2, i2)) ∧ (skipM d commit l2 i2).bad = false ∧ R = recsM (skipM d commit l2 i2) ∧ doAll d (recsM (skipM d commit l2 i2)) = some dy := by
  unfold mergeG at hm
  rw [hg, if_neg (by decide)] at hm
  split at hm
  · cases hm
  · rename_i h1
    injection hm with _ h2
    exact .inl ⟨h1, h2.symm⟩
  · rename_i l' i' h1
    split at hm
    · cases hm
    · rename_i h2
      split at hm
      · cases hm
      · rename_i dy h3
        injection hm with _ h4
        exact .inr ⟨l', i', dy, h1, by simpa using h2, h4.symm, h3⟩
theorem merge_not {d : Hrd} {ix t commit : Int} {l : List Ent} {r : Int} {R : List Rc} (hm : mergeG d ix t commit l = (r, R)) (h : hardOk d = false ∨ r ≠ 1) : R = [] := by
  unfold mergeG at hm
  repeat' split at hm
  all_goals (injection hm with h1 h2; first | exact h2.symm | skip)
  all_goals
    rcases h with h | h
    · simp_all
    · exact absurd h1.symm h
theorem fitsR {d : Hrd} {w : World} {ix t commit : Int} {l : List Ent} {R : List Rc} (hk : d.ok w) (hg : hardOk d = true) (hm : mergeG d ix t commit l = (1, R)) : Chain d R ∧ (∀ ix x, addR ix x ∈ R → x ∈ l) ∧ R.length ≤ l.length + 1 ∧ ix ≤ d.s.si + d.log.length ∧ (∃ dy, doAll d R = some dy) ∧ ∀ dy, hardOk dy = true → lastOf dy = dy.s.si + dy.log.length → doAll d R = some dy → FitsP d dy ix t commit l := by
  have hLd := (hardOk_last hk hg).1
  rcases merge_one hm hg with ⟨hh, rfl⟩ | ⟨l2, i2, dz, hh, hb, rfl, hd⟩
  · refine ⟨trivial, fun ix x h => (by cases h), by simp, by have := (headM_none hh).1; omega, ⟨d, rfl⟩, fun dy _ _ h => ?_⟩
    injection h with h
    subst h
    exact fits_nil hk hg hh
  · obtain ⟨h1, h2, h3⟩ := skip_facts hk hg hh rfl hb
    obtain ⟨pre, e1, e2, e3, e4, e5⟩ := skipM_spec (d := d) (commit := commit) l2 i2 rfl hb
    have hl2 : ∀ x ∈ l2, x ∈ l := fun x hx => by
      rcases headM_cases hh with ⟨_, _, h, _⟩ | ⟨_, _, h, _⟩
      · rw [h] at hx; exact List.mem_of_mem_drop hx
      · rwa [h] at hx
    have hll : l2.length ≤ l.length := by
      rcases headM_cases hh with ⟨_, _, h, _⟩ | ⟨_, _, h, _⟩
      · rw [h, List.length_drop]; omega
      · rw [h]; exact Nat.le_refl _
    refine ⟨chain_recs d _ h2 (fun hc => ?_) (fun hc => ?_), fun ix x h => hl2 x (skipM_sub d commit l2 i2 x (recsM_mem h)), ?_, ?_, ⟨dz, hd⟩, fun dy hgy hly h => fits_mk hk hg hgy hly hh rfl hb h⟩
    · have := (e4 hc).2
      rw [termOf_eq hLd] at this
      split at this
      · omega
      · split at this
        · cases this
        · omega
    · rcases e5 hc with h | h
      · exact .inl h
      · rw [termOf_eq hLd] at h
        split at h
        · cases h
        · split at h
          · exact .inr (by omega)
          · cases h
    · have hle := skipM_len d commit l2 i2
      unfold recsM
      rw [List.length_append, addsM_len]
      have : (if (skipM d commit l2 i2).cut = true then [cutR ((skipM d commit l2 i2).i + 1)] else []).length ≤ 1 := by split <;> simp
      omega
    · rcases headM_cases hh with ⟨h, _, _, _⟩ | ⟨h, _, _, h'⟩
      · omega
      · have : (pre.length : Int) ≥ 0 := by omega
        omega
end Go.Proofs.Ytekjihmepdhmeaa.Rlo

