/- Lemmas towards the law: what of the text Jur0 it needs. -/
import Derived.Test.YtkggchahhpmpbaaJue7q
namespace Go.Proofs.Ytkggchahhpmpbaa.Jue
set_option linter.unusedVariables false
set_option linter.unusedSimpArgs false
def clt (a b : Cn) : Bool := decide (a.1 < b.1 ∨ (a.1 = b.1 ∧ a.2 < b.2))
theorem clt_irrefl (a : Cn) : clt a a = false := by unfold clt; simp
theorem clt_trans {a b c : Cn} (h : clt a b = true) (k : clt b c = true) : clt a c = true := by
  unfold clt at *
  simp only [decide_eq_true_eq] at *
  omega
theorem clt_ntrans {a b c : Cn} (h : clt a b = false) (k : clt b c = false) : clt a c = false := by
  unfold clt at *
  simp only [decide_eq_false_iff_not] at *
  omega
theorem clt_total {a b : Cn} (h : clt a b = false) (k : clt b a = false) : a = b := by
  unfold clt at *
  simp only [decide_eq_false_iff_not] at *
  exact Prod.ext (by omega) (by omega)
/-- the list in order -/
def sortC (L : List Cn) : List Cn := L.mergeSort (fun x y => !clt y x)
theorem sort_le_trans (a b c : Cn) (h : (!clt b a) = true) (k : (!clt c b) = true) : (!clt c a) = true := by
  simp only [Bool.not_eq_true'] at *
  exact clt_ntrans k h
theorem sort_le_total (a b : Cn) : ((!clt b a) || (!clt a b)) = true := by
  cases h : clt b a
  · rfl
  · cases k : clt a b
    · rfl
    · have := clt_trans h k; rw [clt_irrefl] at this; cases this
theorem sortC_perm (L : List Cn) : (sortC L).Perm L := List.mergeSort_perm _ _
theorem sortC_len (L : List Cn) : (sortC L).length = L.length := (sortC_perm L).length_eq
theorem sortC_mem {L : List Cn} {c : Cn} : c ∈ sortC L ↔ c ∈ L := (sortC_perm L).mem_iff
theorem sortC_sorted (L : List Cn) : (sortC L).Pairwise (fun a b => (!clt b a) = true) := List.pairwise_mergeSort sort_le_trans sort_le_total L
theorem sortC_of_perm {L K : List Cn} (h : L.Perm K) : sortC L = sortC K := by
  refine List.Perm.eq_of_pairwise (le := fun a b => (!clt b a) = true) (fun a b _ _ h1 h2 => ?_) (sortC_sorted L) (sortC_sorted K) (((sortC_perm L).trans h).trans (sortC_perm K).symm)
  simp only [Bool.not_eq_true'] at h1 h2
  exact clt_total h2 h1
/-- what stands behind some that may be -/
theorem ok_good {lim : Int} : ∀ (l : List Seen) (L : List Cn) (i : Int), (∀ c ∈ L, (1 ≤ c.1 ∧ c.1 ≤ 7) ∧ 1 ≤ c.2 ∧ c.2 ≤ lim) → (judgeS lim l L i).2 = 0 → ∀ c ∈ l.foldl nextS L, (1 ≤ c.1 ∧ c.1 ≤ 7) ∧ 1 ≤ c.2 ∧ c.2 ≤ lim
  | [], L, i, h, _ => h
  | s :: l, L, i, h, hj => by
    unfold judgeS at hj
    split at hj
    · rename_i he
      refine ok_good l (nextS L s) (i + 1) (fun c hc => ?_) hj
      unfold nextS at hc
      split at hc
      · rename_i hk
        rcases List.mem_append.1 hc with hc | hc
        · exact h c hc
        · rw [List.mem_singleton] at hc
          subst hc
          unfold errS at he
          split at he
          · cases he
          · rename_i hb
            have hb : badS lim s = false := by simpa using hb
            unfold badS at hb
            simp only [Bool.or_eq_false_iff, decide_eq_false_iff_not] at hb
            rw [if_neg (by omega), if_neg (by omega)] at hb
            show (1 ≤ s.node ∧ s.node ≤ 7) ∧ 1 ≤ s.token ∧ s.token ≤ lim
            omega
      · exact h c (List.mem_filter.1 hc).1
    · rename_i he
      exact absurd hj he
theorem open_good {lim : Int} {l : List Seen} (h : (judgeS lim l [] 0).2 = 0) : ∀ c ∈ openS l, (1 ≤ c.1 ∧ c.1 ≤ 7) ∧ 1 ≤ c.2 ∧ c.2 ≤ lim := ok_good l [] 0 (fun c hc => by simp at hc) h
end Go.Proofs.Ytkggchahhpmpbaa.Jue
