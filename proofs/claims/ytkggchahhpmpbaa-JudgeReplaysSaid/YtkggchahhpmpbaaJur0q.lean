/- Lemmas towards the law: what of the text Jur0 it needs. -/
import Derived.Test.YtkggchahhpmpbaaJue7q
namespace Go.Proofs.Ytkggchahhpmpbaa.Jue
set_option linter.unusedVariables false
set_option linter.unusedSimpArgs false
def clt (a b : Cn) : Bool := decide (a.1 < b.1 ∨ (a.1 = b.1 ∧ a.2 < b.2))
theorem clt_irrefl (a : Cn) : clt a a = false := by unfold clt; simp
theorem clt_trans {a b c : Cn} (h : clt a b = true) (k : clt b c = true) : clt a c = true := by
  unfold clt at *
  simp only [decide_eq_true_eq] at *
  omega
theorem clt_ntrans {a b c : Cn} (h : clt a b = false) (k : clt b c = false) : clt a c = false := by
  unfold clt at *
  simp only [decide_eq_false_iff_not] at *
  omega
theorem clt_total {a b : Cn} (h : clt a b = false) (k : clt b a = false) : a = b := by
  unfold clt at *
  simp only [decide_eq_false_iff_not] at *
  exact Prod.ext (by omega) (by omega)
/-- the list in order -/
def sortC (L : List Cn) : List Cn := L.mergeSort (fun x y => !clt y x)
theorem sort_le_trans (a b c : Cn) (h : (!clt b a) = true) (k : (!clt c b) = true) : (!clt c a) = true := by
  simp only [Bool.not_eq_true'] at *
  exact clt_ntrans k h
theorem sort_le_total (a b : Cn) : ((!clt b a) || (!clt a b)) = true := by
  cases h : clt b a
  · rfl
  · cases k : clt a b
    · rfl
    · have := clt_trans h k; rw [clt_irrefl] at this; cases this
theorem sortC_perm (L : List Cn) : (sortC L).Perm L := List.mergeSort_perm _ _
theorem sortC_len (L : List Cn) : (sortC L).length = L.length := (sortC_perm L).length_eq
theorem sortC_mem {L : List Cn} {c : Cn} : c ∈ sortC L ↔ c ∈ L := (sortC_perm L).mem_iff
theorem sortC_sorted (L : List Cn) : (sortC L).Pairwise (fun a b => (!clt b a) = true) := List.pairwise_mergeSort sort_le_trans sort_le_total L
theorem sortC_of_perm {L K : List Cn} (h : L.Perm K) : sortC L = sortC K := by
  refine List.Perm.eq_of_pairwise (le := fun a b => (!clt b a) = true) (fun a b _ _ h1 h2 => ?_) (sortC_sorted L) (sortC_sorted K) (((sortC_perm L).trans h).trans (sortC_perm K).symm)
  simp only [Bool.not_eq_true'] at h1 h2
  exact clt_total h2 h1
theorem sortC_strict {L : List Cn} (h : L.Nodup) : (sortC L).Pairwise (fun a b => clt a b = true) := by
  have hn : (sortC L).Nodup := (sortC_perm L).nodup_iff.2 h
  refine (List.Pairwise.and (sortC_sorted L) hn).imp ?_
  rintro a b ⟨h1, h2⟩
  cases hc : clt a b
  · simp only [Bool.not_eq_true'] at h1
    exact absurd (clt_total hc h1) h2
  · rfl
theorem filt_next {S : List Cn} (hs : S.Pairwise (fun a b => clt a b = true)) {p q : Cn → Bool} {x : Cn} (hx : x ∈ S) (hp : ∀ c ∈ S, q c = (p c || c == x)) (hpx : p x = false) (ho : ∀ c ∈ S, p c = true → clt c x = true) :
    S.filter q = S.filter p ++ [x] := by
  obtain ⟨A, B, rfl⟩ := List.append_of_mem hx
  rw [List.pairwise_append, List.pairwise_cons] at hs
  obtain ⟨_, ⟨hB, _⟩, hA⟩ := hs
  have hqx : q x = true := by rw [hp x hx]; simp
  have ne_of_lt : ∀ {a b : Cn}, clt a b = true → a ≠ b := fun h e => by subst e; rw [clt_irrefl] at h; cases h
  have eA : A.filter q = A.filter p := by
    refine List.filter_congr fun c hc => ?_
    rw [hp c (by simp [hc])]
    have : (c == x) = false := beq_eq_false_iff_ne.2 (ne_of_lt (hA c hc x List.mem_cons_self))
    rw [this, Bool.or_false]
  have hBp : ∀ c ∈ B, p c = false := fun c hc => by
    cases h : p c
    · rfl
    · have := clt_trans (ho c (by simp [hc]) h) (hB c hc)
      rw [clt_irrefl] at this; cases this
  have eB : B.filter p = [] := List.filter_eq_nil_iff.2 (fun c hc => by rw [hBp c hc]; decide)
  have eBq : B.filter q = [] := List.filter_eq_nil_iff.2 (fun c hc => by
    rw [hp c (by simp [hc]), hBp c hc]
    have : (c == x) = false := beq_eq_false_iff_ne.2 (fun e => ne_of_lt (hB c hc) e.symm)
    rw [this]; decide)
  rw [List.filter_append, List.filter_append, List.filter_cons_of_pos hqx, List.filter_cons_of_neg (by rw [hpx]; decide), eA, eB, eBq]
  simp
/-- up to a node and a token -/
def upTo (n last : Int) (c : Cn) : Bool := decide (c.1 < n) || ((c.1 == n) && decide (c.2 ≤ last))
/-- the document's search for the next token of a node -/
def bestS (n last : Int) (best : Int) (c : Cn) : Int := if (c.1 == n) && decide (last < c.2) && ((best == 0) || decide (c.2 < best)) then c.2 else best
def bestOf (n last : Int) (L : List Cn) : Int := L.foldl (bestS n last) 0
theorem bestOf_succ {n last : Int} {L : List Cn} {j : Nat} {d x : Cn} (hj : j < L.length) (hx : L.getD j d = x) : bestOf n last (L.take (j + 1)) = bestS n last (bestOf n last (L.take j)) x := by
  unfold bestOf
  rw [List.take_succ_eq_append_getElem hj, List.foldl_append]
  rw [List.getD_eq_getElem?_getD, List.getElem?_eq_getElem hj, Option.getD_some] at hx
  rw [hx]
  rfl
/-- what it finds -/
structure BestIs (n last : Int) (L : List Cn) (b : Int) : Prop where
  none : b = 0 → ∀ c ∈ L, c.1 = n → c.2 ≤ last
  some : b ≠ 0 → (n, b) ∈ L ∧ last < b ∧ ∀ c ∈ L, c.1 = n → last < c.2 → b ≤ c.2
theorem best_is {n last : Int} (h0 : 0 ≤ last) : ∀ (L K : List Cn) (b : Int), BestIs n last K b → BestIs n last (K ++ L) (L.foldl (bestS n last) b)
  | [], K, b, h => by rw [List.append_nil]; exact h
  | c :: L, K, b, h => by
    rw [List.foldl_cons, List.append_cons]
    refine best_is h0 L (K ++ [c]) _ ?_
    have hm : ∀ {x : Cn}, x ∈ K ++ [c] → x ∈ K ∨ x = c := fun hx => by simpa using hx
    unfold bestS
    by_cases hc : c.1 = n ∧ last < c.2 ∧ (b = 0 ∨ c.2 < b)
    · have e : ((c.1 == n) && decide (last < c.2) && ((b == 0) || decide (c.2 < b))) = true := by
        obtain ⟨h1, h2, h3⟩ := hc
        rw [Bool.and_eq_true, Bool.and_eq_true, Bool.or_eq_true, beq_iff_eq, decide_eq_true_eq, beq_iff_eq, decide_eq_true_eq]
        exact ⟨⟨h1, h2⟩, h3⟩
      rw [if_pos e]
      obtain ⟨h1, h2, h3⟩ := hc
      refine ⟨fun h => by omega, fun _ => ⟨by rw [← h1]; simp, h2, fun x hx hx1 hx2 => ?_⟩⟩
      rcases hm hx with hx | rfl
      · rcases h3 with h3 | h3
        · have := h.none h3 x hx hx1; omega
        · have := (h.some (by omega)).2.2 x hx hx1 hx2; omega
      · omega
    · have e : ((c.1 == n) && decide (last < c.2) && ((b == 0) || decide (c.2 < b))) = false := by
        rw [Bool.eq_false_iff]
        intro e
        rw [Bool.and_eq_true, Bool.and_eq_true, Bool.or_eq_true, beq_iff_eq, decide_eq_true_eq, beq_iff_eq, decide_eq_true_eq] at e
        exact hc ⟨e.1.1, e.1.2, e.2⟩
      rw [if_neg (by rw [e]; decide)]
      refine ⟨fun hb x hx hx1 => ?_, fun hb => ⟨List.mem_append_left _ (h.some hb).1, (h.some hb).2.1, fun x hx hx1 hx2 => ?_⟩⟩
      · rcases hm hx with hx | rfl
        · exact h.none hb x hx hx1
        · apply Decidable.byContradiction
          intro hn
          exact hc ⟨hx1, by omega, .inl hb⟩
      · rcases hm hx with hx | rfl
        · exact (h.some hb).2.2 x hx hx1 hx2
        · apply Decidable.byContradiction
          intro hn
          exact hc ⟨hx1, hx2, .inr (by omega)⟩
theorem bestOf_is {n last : Int} (h0 : 0 ≤ last) (L : List Cn) : BestIs n last L (bestOf n last L) := by
  have := best_is (n := n) h0 L [] 0 ⟨fun _ c hc => by simp at hc, fun h => absurd rfl h⟩
  rw [List.nil_append] at this
  exact this
theorem upTo_next {L : List Cn} (hn : L.Nodup) {n last b : Int} (h0 : 0 ≤ last) (hb : bestOf n last L = b) (hb0 : b ≠ 0) :
    (sortC L).filter (upTo n b) = (sortC L).filter (upTo n last) ++ [(n, b)] := by
  have h := (bestOf_is (n := n) h0 L).some (by rw [hb]; exact hb0)
  rw [hb] at h
  refine filt_next (sortC_strict hn) (sortC_mem.2 h.1) (fun c hc => ?_) ?_ (fun c hc hp => ?_)
  · have hc' := sortC_mem.1 hc
    rw [Bool.eq_iff_iff]
    unfold upTo
    simp only [Bool.or_eq_true, Bool.and_eq_true, decide_eq_true_eq, beq_iff_eq]
    constructor
    · rintro (h1 | ⟨h1, h2⟩)
      · exact .inl (.inl h1)
      · by_cases h3 : last < c.2
        · have := h.2.2 c hc' h1 h3
          exact .inr (Prod.ext h1 (show c.2 = b by omega))
        · exact .inl (.inr ⟨h1, by omega⟩)
    · rintro ((h1 | ⟨h1, h2⟩) | h1)
      · exact .inl h1
      · exact .inr ⟨h1, by have := h.2.1; omega⟩
      · subst h1; exact .inr ⟨rfl, Int.le_refl _⟩
  · have := h.2.1
    unfold upTo
    simp
    omega
  · have h3 := h.2.1
    unfold upTo at hp
    simp only [Bool.or_eq_true, Bool.and_eq_true, decide_eq_true_eq, beq_iff_eq] at hp
    unfold clt
    rw [decide_eq_true_eq]
    show c.1 < n ∨ c.1 = n ∧ c.2 < b
    omega
theorem upTo_end {L : List Cn} (ht : ∀ c ∈ L, 1 ≤ c.2) {n last : Int} (h0 : 0 ≤ last) (hb : bestOf n last L = 0) : (sortC L).filter (upTo n last) = (sortC L).filter (upTo (n + 1) 0) := by
  have h := (bestOf_is (n := n) h0 L).none hb
  refine List.filter_congr fun c hc => ?_
  have hc' := sortC_mem.1 hc
  have h1 := ht c hc'
  have h2 := h c hc'
  rw [Bool.eq_iff_iff]
  unfold upTo
  simp only [Bool.or_eq_true, Bool.and_eq_true, decide_eq_true_eq, beq_iff_eq]
  omega
theorem upTo_first {L : List Cn} (hn : ∀ c ∈ L, 1 ≤ c.1) (ht : ∀ c ∈ L, 1 ≤ c.2) : (sortC L).filter (upTo 1 0) = [] := by
  refine List.filter_eq_nil_iff.2 fun c hc => ?_
  have hc' := sortC_mem.1 hc
  have h1 := ht c hc'
  have h2 := hn c hc'
  unfold upTo
  simp
  omega
theorem upTo_last {L : List Cn} (hn : ∀ c ∈ L, c.1 ≤ 7) : (sortC L).filter (upTo 8 0) = sortC L := by
  refine List.filter_eq_self.2 fun c hc => ?_
  have hc' := sortC_mem.1 hc
  have h2 := hn c hc'
  unfold upTo
  simp
  omega
/-- what stands behind some that may be -/
theorem ok_good {lim : Int} : ∀ (l : List Seen) (L : List Cn) (i : Int), (∀ c ∈ L, (1 ≤ c.1 ∧ c.1 ≤ 7) ∧ 1 ≤ c.2 ∧ c.2 ≤ lim) → (judgeS lim l L i).2 = 0 → ∀ c ∈ l.foldl nextS L, (1 ≤ c.1 ∧ c.1 ≤ 7) ∧ 1 ≤ c.2 ∧ c.2 ≤ lim
  | [], L, i, h, _ => h
  | s :: l, L, i, h, hj => by
    unfold judgeS at hj
    split at hj
    · rename_i he
      refine ok_good l (nextS L s) (i + 1) (fun c hc => ?_) hj
      unfold nextS at hc
      split at hc
      · rename_i hk
        rcases List.mem_append.1 hc with hc | hc
        · exact h c hc
        · rw [List.mem_singleton] at hc
          subst hc
          unfold errS at he
          split at he
          · cases he
          · rename_i hb
            have hb : badS lim s = false := by simpa using hb
            unfold badS at hb
            simp only [Bool.or_eq_false_iff, decide_eq_false_iff_not] at hb
            rw [if_neg (by omega), if_neg (by omega)] at hb
            show (1 ≤ s.node ∧ s.node ≤ 7) ∧ 1 ≤ s.token ∧ s.token ≤ lim
            omega
      · exact h c (List.mem_filter.1 hc).1
    · rename_i he
      exact absurd hj he
theorem open_good {lim : Int} {l : List Seen} (h : (judgeS lim l [] 0).2 = 0) : ∀ c ∈ openS l, (1 ≤ c.1 ∧ c.1 ≤ 7) ∧ 1 ≤ c.2 ∧ c.2 ≤ lim := ok_good l [] 0 (fun c hc => by simp at hc) h
end Go.Proofs.Ytkggchahhpmpbaa.Jue
