/- Lemmas towards the law: what of the text Lec3 it needs. -/
import Derived.Test.YtekjihmepdhmeaaLec2q
namespace Go.Proofs.Ytekjihmepdhmeaa.Led
open Go.RowKit Go.Proofs.YtekjihmepdhmeaaW.PrintWords Go.Proofs.Ytekjihmepdhmeaa.Sl
set_option linter.unusedVariables false
set_option linter.unusedSimpArgs false
def hOk0 (lim nxt : Int) (l : List Held) (i : Nat) : Bool :=
  let h := l.getD i default
  !((decide (0 < i) && decide (h.token ≤ (l.getD (i - 1) default).token)) || decide (h.token < 1) || decide (lim < h.token) || decide (h.node < 1) || decide (7 < h.node) || decide (h.boot < 1) || decide (h.stamp < 1) || decide (h.serial < 1) || decide (nxt ≤ h.serial))
def hOk (lim nxt : Int) (l : List Held) (i : Nat) : Bool := hOk0 lim nxt l i && !((l.take i).any (fun g => g.serial == (l.getD i default).serial))
def lOk (lim nxt : Int) (m : List Last) (i : Nat) : Bool :=
  let x := m.getD i default
  !((decide (0 < i) && decide (x.node ≤ (m.getD (i - 1) default).node)) || decide (x.node < 1) || decide (7 < x.node) || decide (x.boot < 1) || decide (x.seq < 1) || !okAns lim nxt x.ans)
def hAll (lim nxt : Int) (l : List Held) (k : Nat) : Bool := decide (∀ i, i < k → hOk lim nxt l i = true)
def lAll (lim nxt : Int) (m : List Last) (k : Nat) : Bool := decide (∀ i, i < k → lOk lim nxt m i = true)
/-- The document's answer. -/
def isLed (lim nxt : Int) (l : List Held) (m : List Last) : Bool := good0 lim nxt l.length && hAll lim nxt l l.length && lAll lim nxt m m.length
theorem all_succ (f : Nat → Bool) (k : Nat) : decide (∀ i, i < k + 1 → f i = true) = (decide (∀ i, i < k → f i = true) && f k) := by
  rw [Bool.eq_iff_iff, decide_eq_true_eq, Bool.and_eq_true, decide_eq_true_eq]
  constructor
  · exact fun h => ⟨fun i hi => h i (by omega), h k (by omega)⟩
  · rintro ⟨h1, h2⟩ i hi
    rcases Nat.lt_or_ge i k with h | h
    · exact h1 i h
    · obtain rfl : i = k := by omega
      exact h2
def tokAt (l : List Held) (k : Nat) : Int := if k = 0 then 0 else (l.getD (k - 1) default).token
def nodAt (m : List Last) (k : Nat) : Int := if k = 0 then 0 else (m.getD (k - 1) default).node
theorem any_count (l : List Held) (s : Int) : l.any (fun g => g.serial == s) = decide (0 < l.countP (fun g => g.serial == s)) := by
  rw [Bool.eq_iff_iff, decide_eq_true_eq, List.countP_pos_iff, List.any_eq_true]
theorem hOk_step {lim nxt : Int} {l : List Held} {k : Nat} {mm : Cnt} (hc : ∀ s, cntOf mm s = ((l.take k).countP (fun h => h.serial == s) : Nat)) (hp : 0 < k → hAll lim nxt l k = true → 1 ≤ (l.getD (k - 1) default).token) :
    (hAll lim nxt l k && okHeld lim nxt (tokAt l k) mm (l.getD k default)) = (hAll lim nxt l k && hOk lim nxt l k) := by
  cases ha : hAll lim nxt l k with
  | false => rfl
  | true =>
    have hp := fun h => hp h ha
    simp only [Bool.true_and]
    unfold hOk hOk0 okHeld isNode
    rw [any_count, hc]
    generalize (l.take k).countP (fun h => h.serial == (l.getD k default).serial) = n
    unfold tokAt
    generalize (l.getD (k - 1) default).token = p at hp ⊢
    generalize l.getD k default = h
    by_cases h0 : k = 0
    · subst h0
      rw [if_pos rfl]
      grind
    · rw [if_neg h0]
      have := hp (by omega)
      have h0' : 0 < k := by omega
      grind
theorem lOk_step {lim nxt : Int} {m : List Last} {k : Nat} (hp : 0 < k → lAll lim nxt m k = true → 1 ≤ (m.getD (k - 1) default).node) :
    (lAll lim nxt m k && okLast lim nxt (nodAt m k) (m.getD k default)) = (lAll lim nxt m k && lOk lim nxt m k) := by
  cases ha : lAll lim nxt m k with
  | false => rfl
  | true =>
    have hp := fun h => hp h ha
    simp only [Bool.true_and]
    unfold lOk okLast isNode
    unfold nodAt
    generalize (m.getD (k - 1) default).node = p at hp ⊢
    generalize m.getD k default = h
    by_cases h0 : k = 0
    · subst h0
      rw [if_pos rfl]
      grind
    · rw [if_neg h0]
      have := hp (by omega)
      have h0' : 0 < k := by omega
      grind
theorem hAll_tok {lim nxt : Int} {l : List Held} {k : Nat} (h0 : 0 < k) (h : hAll lim nxt l k = true) : 1 ≤ (l.getD (k - 1) default).token := by
  have := (of_decide_eq_true h) (k - 1) (by omega)
  unfold hOk hOk0 at this
  grind
theorem lAll_nod {lim nxt : Int} {m : List Last} {k : Nat} (h0 : 0 < k) (h : lAll lim nxt m k = true) : 1 ≤ (m.getD (k - 1) default).node := by
  have := (of_decide_eq_true h) (k - 1) (by omega)
  unfold lOk at this
  grind
theorem held_fold (lim nxt : Int) (l : List Held) (g0 : Bool) : ∀ k, k ≤ l.length → ∃ mm, (l.take k).foldl (hstep lim nxt) (g0, 0, []) = (g0 && hAll lim nxt l k, tokAt l k, mm) ∧ ∀ s, cntOf mm s = ((l.take k).countP (fun h => h.serial == s) : Nat)
  | 0, _ => ⟨[], by simp [hAll, tokAt], fun s => by simp [cntOf, mget]⟩
  | k + 1, hk => by
    obtain ⟨mm, h1, h2⟩ := held_fold lim nxt l g0 k (by omega)
    refine ⟨mput mm (l.getD k default).serial (cntOf mm (l.getD k default).serial + 1), (foldl_take_succ (z := default) (by omega) rfl h1).trans ?_, ?_⟩
    · unfold hstep
      have := hOk_step (lim := lim) (nxt := nxt) h2 hAll_tok
      simp only [Prod.mk.injEq]
      refine ⟨?_, by simp [tokAt], trivial⟩
      rw [Bool.and_assoc, this]
      unfold hAll
      rw [all_succ]
    · intro s
      rw [cntOf_put, take_succ_getD default (by omega), List.countP_append, h2, h2]
      by_cases e : (l.getD k default).serial = s
      · subst e; simp
      · have : ((l.getD k default).serial == s) = false := beq_eq_false_iff_ne.2 e
        rw [if_neg e, List.countP_cons, this]
        simp
theorem last_fold (lim nxt : Int) (m : List Last) (g0 : Bool) : ∀ k, k ≤ m.length → (m.take k).foldl (lstep lim nxt) (g0, 0) = (g0 && lAll lim nxt m k, nodAt m k)
  | 0, _ => by simp [lAll, nodAt]
  | k + 1, hk => by
    have h1 := last_fold lim nxt m g0 k (by omega)
    refine (foldl_take_succ (z := default) (by omega) rfl h1).trans ?_
    unfold lstep
    have := lOk_step (lim := lim) (nxt := nxt) (m := m) (k := k) lAll_nod
    simp only [Prod.mk.injEq]
    refine ⟨?_, by simp [nodAt]⟩
    rw [Bool.and_assoc, this]
    unfold lAll
    rw [all_succ]
/-- The plain law of Check. -/
theorem ck_isLed (lim nxt : Int) (l : List Held) (m : List Last) : ckLed lim nxt l m = isLed lim nxt l m := by
  unfold ckLed isLed
  obtain ⟨mm, h1, _⟩ := held_fold lim nxt l (good0 lim nxt l.length) l.length (Nat.le_refl _)
  rw [List.take_length] at h1
  have h2 := last_fold lim nxt m (good0 lim nxt l.length && hAll lim nxt l l.length) m.length (Nat.le_refl _)
  rw [List.take_length] at h2
  rw [h1, h2]
end Go.Proofs.Ytekjihmepdhmeaa.Led
