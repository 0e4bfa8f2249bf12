/- Lemmas towards the law: what of the text RlpL it needs. -/
import Derived.Test.YtekjihmepdhmeaaRlpKq
namespace Go.Proofs.Ytekjihmepdhmeaa.Rlo
open Go.RowKit Go.Proofs.YtekjihmepdhmeaaW.PrintWords Go.Proofs.Ytekjihmepdhmeaa.Sl
set_option linter.unusedVariables false
set_option linter.unusedSimpArgs false
theorem hardS_openC {w : World} {x : hardS.D} {cs : List Value} (h : hardS.kd.K w x cs) (hw : hardS.wf x) (hz : hardS.sized Try.prog x) : ∃ d : Hrd, cs = d.enc ∧ d.ok w ∧ d.szd ∧ d.log.length ≤ d.gc := by
  have h0 := h
  obtain ⟨_, _, rfl, rfl, _, _, rfl, rfl, _, _, rfl, rfl, _, _, rfl, hs, _, _, hcs, ⟨A, c, rfl, hl, hC⟩, rfl⟩ := h
  subst hcs
  obtain ⟨d, hd, hk, hsz⟩ := hardS_open' h0 hw hz
  refine ⟨d, hd, hk, hsz, ?_⟩
  obtain ⟨s, rfl, _⟩ := shotS_open hs hw.2.2.2.1
  simp [Hrd.enc, Sht.enc] at hd
  omega
theorem request_stamps (lim nxt : Int) (l : List Held) (ix : Int) (x : Led.Cmd) (h : ∀ y ∈ l, y.stamp ≤ ix) : ∀ y ∈ (Led.requestC lim nxt l ix x).held, y.stamp ≤ ix := by
  unfold Led.requestC Led.grantC
  split
  · split
    · exact h
    · intro y hy
      simp only [List.mem_append, List.mem_cons] at hy
      rcases hy with hy | rfl | hy
      · exact h y (List.mem_of_mem_take hy)
      · exact Int.le_refl _
      · exact h y (List.mem_of_mem_drop hy)
  · split
    · exact h
    · split
      · intro y hy; exact h y (List.mem_of_mem_eraseIdx hy)
      · intro y hy
        rcases List.mem_or_eq_of_mem_set hy with hy | rfl
        · exact h y hy
        · exact Int.le_refl _
theorem apply_stamps (lim nxt : Int) (l : List Held) (m : List Last) (ix : Int) (x : Ent) (h : ∀ y ∈ l, y.stamp ≤ ix) : ∀ y ∈ (Led.applyC lim nxt l m ix x).held, y.stamp ≤ ix := by
  unfold Led.applyC Led.doneC
  repeat' split
  all_goals
    first
    | exact h
    | exact request_stamps _ _ _ _ _ h
    | (intro y hy; exact h y (List.mem_of_mem_eraseIdx hy))
    | (intro y hy; cases hy)
theorem go_stamps (L : Lg) (ix : Int) (x : Ent) (h : ∀ y ∈ L.held, y.stamp ≤ ix) : ∀ y ∈ (L.go ix x).held, y.stamp ≤ ix := by
  unfold Led.Lg.go
  split
  · exact apply_stamps _ _ _ _ _ _ h
  · exact h
theorem ledAt_stamps {d : Hrd} (hg : hardOk d = true) : ∀ k, ∀ y ∈ (ledAt d k).held, y.stamp ≤ d.s.si + k
  | 0 => by
    intro y hy
    have hs : shotOk d.s = true := by
      unfold hardOk headOk at hg
      simp only [Bool.and_eq_true] at hg
      exact hg.1.1.1.1.1.1.2
    unfold shotOk at hs
    simp only [Bool.and_eq_true] at hs
    have := List.all_eq_true.1 hs.1.1.1 y hy
    simp only [decide_eq_true_eq] at this
    omega
  | k + 1 => by
    intro y hy
    have := go_stamps (ledAt d k) (d.s.si + k + 1) (d.log.getD k default) (fun y hy => by have := ledAt_stamps hg k y hy; omega) y hy
    omega
theorem logGo_cmd {t : Int} : ∀ (l : List Ent) (p : Int) (k : Nat), k < l.length → logGo t l p = true → cmdOk (l.getD k default) = true ∧ 1 ≤ (l.getD k default).term
  | [], p, k, hk, _ => by simp at hk
  | x :: xs, p, 0, _, h => by
    rw [logGo] at h
    simp only [Bool.and_eq_true, decide_eq_true_eq] at h
    exact ⟨h.1.2, h.1.1.1⟩
  | x :: xs, p, k + 1, hk, h => by
    rw [logGo] at h
    simp only [Bool.and_eq_true, decide_eq_true_eq] at h
    have := logGo_cmd xs x.term k (by simpa using hk) h.2
    simpa using this
theorem conf_good {d : Hrd} (hg : hardOk d = true) (u : Int) : Nod.good (confG d u).2 = true := by
  unfold confG
  rw [if_pos hg]
  unfold hardOk at hg
  rw [Bool.and_eq_true] at hg
  obtain ⟨h1, h2⟩ := hg
  have hs : Nod.good d.s.nodes = true := by
    unfold headOk shotOk at h1
    simp only [Bool.and_eq_true] at h1
    exact h1.1.1.1.1.1.2.1.1.2
  have : ∀ k, k ≤ d.log.length → Nod.good (confB d.s.si u d.log (d.s.si, d.s.nodes) k).2 = true := by
    intro k
    induction k with
    | zero => intro _; exact hs
    | succ k ih =>
      intro hk
      rw [confB]
      split
      · rename_i hc
        have hc2 := (logGo_cmd d.log d.s.st k (by omega) h2).1
        unfold cmdOk at hc2
        simp only [Bool.and_eq_true, hc.2] at hc2
        have := hc2.1.1.1.2
        simpa [kN] using this
      · exact ih (by omega)
  exact this _ (Nat.le_refl _)
/-- the snapshot that At tells may be -/
theorem at_shotOk {d : Hrd} {w : World} (hk : d.ok w) (hg : hardOk d = true) {k : Nat} (hkn : k ≤ d.log.length) (A B C : Option Addr) (a b c : Nat) :
    shotOk ⟨d.s.si + k, (termOf d (d.s.si + k)).1, A, a, (confG d (d.s.si + k)).2, (ledAt d k).lim, (ledAt d k).nxt, B, b, (ledAt d k).held, C, c, (ledAt d k).last⟩ = true := by
  obtain ⟨hl, hl2⟩ := hardOk_last hk hg
  unfold shotOk
  simp only [Bool.and_eq_true]
  refine ⟨⟨⟨?_, conf_good hg _⟩, Led.isLed_iff.2 (ledAt_ok hk hg k).led⟩, ?_⟩
  · rw [List.all_eq_true]
    intro y hy
    simp only [decide_eq_true_eq]
    exact ledAt_stamps hg k y hy
  · have h0 := hk.s.si.1
    have hg2 := hg
    unfold hardOk headOk shotOk at hg2
    simp only [Bool.and_eq_true] at hg2
    unfold termOf
    by_cases h : k = 0
    · subst h
      rw [if_pos (by omega)]
      have := hg2.1.1.1.1.1.1.2.2
      simpa using this
    · rw [if_neg (by omega), if_neg (by rw [hl]; omega), show (d.s.si + (k : Int) - d.s.si - 1).toNat = k - 1 by omega]
      have h1 := (logGo_cmd d.log d.s.st (k - 1) (by omega) hg2.2).2
      rw [beq_iff_eq]
      have e1 : (d.s.si + (k : Int) == 0) = false := by rw [beq_eq_false_iff_ne]; omega
      have e2 : ((d.log.getD (k - 1) default).term == 0) = false := by rw [beq_eq_false_iff_ne]; omega
      simp only [e1, e2]
theorem term_is {d : Hrd} {w : World} (hk : d.ok w) (hg : hardOk d = true) {k : Nat} (hkn : k ≤ d.log.length) : (termOf d (d.s.si + k)).2 = true := by
  obtain ⟨hl, hl2⟩ := hardOk_last hk hg
  unfold termOf
  split
  · rfl
  · rw [if_neg (by rw [hl]; omega)]
/-- d2 is d behind a snapshot at its k-th entry -/
structure Behind (d d2 : Hrd) (k : Nat) : Prop where
  hk : k ≤ d.log.length
  g : hardOk d = true
  ok : hardOk d2 = true
  si : d2.s.si = d.s.si + k
  st : d2.s.st = (termOf d (d.s.si + k)).1
  nodes : d2.s.nodes = (confG d (d.s.si + k)).2
  led : (⟨d2.s.lim, d2.s.nxt, d2.s.held, d2.s.last⟩ : Lg) = ledAt d k
  log : d2.log.map Ent.data = (d.log.drop k).map Ent.data
theorem Behind.len {d d2 : Hrd} {k : Nat} (h : Behind d d2 k) : d2.log.length = d.log.length - k := by
  have := congrArg List.length h.log
  rwa [List.length_map, List.length_map, List.length_drop] at this
theorem Behind.at {d d2 : Hrd} {k : Nat} (h : Behind d d2 k) {j : Nat} (hj : k + j < d.log.length) : ∃ A c, d2.log.getD j default = (d.log.getD (k + j) default).at A c := by
  obtain ⟨A, c, he⟩ := same_at h.log (k := j) (by rw [List.length_drop]; omega)
  refine ⟨A, c, he.trans ?_⟩
  congr 1
  rw [List.getD_eq_getElem?_getD, List.getD_eq_getElem?_getD, List.getElem?_drop]
theorem Behind.last {d d2 : Hrd} {k : Nat} {w w2 : World} (h : Behind d d2 k) (hk : d.ok w) (hk2 : d2.ok w2) (hg : hardOk d = true) : lastOf d2 = lastOf d := by
  rw [(hardOk_last hk hg).1, (hardOk_last hk2 h.ok).1, h.si, h.len]
  have := h.hk
  omega
theorem Behind.term {d d2 : Hrd} {k : Nat} {w w2 : World} (h : Behind d d2 k) (hk : d.ok w) (hk2 : d2.ok w2) (hg : hardOk d = true) {i : Int} (hi : d.s.si + k ≤ i) : termOf d2 i = termOf d i := by
  have hl := (hardOk_last hk hg).1
  have hkk := h.hk
  by_cases e : i = d.s.si + k
  · subst e
    have : termOf d2 (d.s.si + k) = (d2.s.st, true) := by unfold termOf; rw [if_pos h.si.symm]
    rw [this, h.st]
    exact Prod.ext rfl (term_is hk hg hkk).symm
  · unfold termOf
    rw [h.last hk hk2 hg, if_neg (by rw [h.si]; exact e), if_neg (show ¬ i = d.s.si by omega), h.si]
    by_cases hlt : lastOf d < i
    · rw [if_pos (.inr hlt), if_pos (.inr hlt)]
    · rw [if_neg (by omega), if_neg (by omega)]
      rw [hl] at hlt
      obtain ⟨A, c, he⟩ := h.at (j := (i - (d.s.si + k) - 1).toNat) (by omega)
      rw [he, show k + (i - (d.s.si + (k : Int)) - 1).toNat = (i - d.s.si - 1).toNat by omega]
      rfl
theorem Behind.ledAt {d d2 : Hrd} {k : Nat} (h : Behind d d2 k) : ∀ j, k + j ≤ d.log.length → ledAt d2 j = Rlo.ledAt d (k + j)
  | 0, _ => h.led
  | j + 1, hj => by
    obtain ⟨A, c, he⟩ := h.at (j := j) (by omega)
    show (Rlo.ledAt d2 j).go (d2.s.si + j + 1) (d2.log.getD j default) = (Rlo.ledAt d (k + j)).go (d.s.si + ((k + j : Nat) : Int) + 1) (d.log.getD (k + j) default)
    rw [h.ledAt j (by omega), he, h.si, show d.s.si + (k : Int) + (j : Int) + 1 = d.s.si + ((k + j : Nat) : Int) + 1 by omega]
    rfl
theorem confB_behind {d d2 : Hrd} {k : Nat} (h : Behind d d2 k) (u : Int) (hu : d.s.si + k ≤ u) : ∀ j, k + j ≤ d.log.length → (confB d2.s.si u d2.log (d2.s.si, d2.s.nodes) j).2 = (confB d.s.si u d.log (d.s.si, d.s.nodes) (k + j)).2 := by
  intro j
  induction j with
  | zero =>
    intro hj
    show d2.s.nodes = _
    rw [h.nodes]
    have hgk : ∀ n, k ≤ n → n ≤ d.log.length → confB d.s.si (d.s.si + k) d.log (d.s.si, d.s.nodes) n = confB d.s.si u d.log (d.s.si, d.s.nodes) k := by
      intro n hn
      induction n with
      | zero =>
        intro _
        obtain rfl : k = 0 := by omega
        rfl
      | succ n ih =>
        intro hl
        rcases Nat.lt_or_ge n k with hlt | hge
        · obtain rfl : k = n + 1 := by omega
          clear ih
          have : ∀ m, m ≤ n + 1 → confB d.s.si (d.s.si + ((n + 1 : Nat) : Int)) d.log (d.s.si, d.s.nodes) m = confB d.s.si u d.log (d.s.si, d.s.nodes) m := by
            intro m
            induction m with
            | zero => intro _; rfl
            | succ m ih =>
              intro hm
              rw [confB, confB, ih (by omega)]
              have e1 : d.s.si + (m : Int) + 1 ≤ d.s.si + ((n + 1 : Nat) : Int) := by omega
              have e2 : d.s.si + (m : Int) + 1 ≤ u := by omega
              simp only [e1, e2, true_and]
          exact this _ (Nat.le_refl _)
        · rw [confB, if_neg (by omega)]
          exact ih (by omega) (by omega)
    unfold confG
    split
    · exact congrArg Prod.snd (hgk d.log.length h.hk (Nat.le_refl _))
    · rename_i hng
      exact absurd h.g hng
  | succ j ih =>
    intro hj
    obtain ⟨A, c, he⟩ := h.at (j := j) (by omega)
    rw [confB, show k + (j + 1) = (k + j) + 1 by omega, confB, he]
    have e : d2.s.si + (j : Int) + 1 = d.s.si + ((k + j : Nat) : Int) + 1 := by rw [h.si]; omega
    rw [e]
    have e2 : ((d.log.getD (k + j) default).at A c).kind = (d.log.getD (k + j) default).kind := rfl
    rw [e2]
    split
    · rfl
    · exact ih (by omega)
end Go.Proofs.Ytekjihmepdhmeaa.Rlo
