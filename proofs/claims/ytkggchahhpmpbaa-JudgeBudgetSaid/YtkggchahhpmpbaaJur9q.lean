/- Lemmas towards the law: what of the text Jur9 it needs. -/
import Derived.Test.YtkggchahhpmpbaaJur6q
namespace Go.Proofs.Ytkggchahhpmpbaa.Jue
set_option linter.unusedVariables false
set_option linter.unusedSimpArgs false
theorem judge_prefix {lim : Int} : ∀ (l : List Seen) (L : List Cn) (i : Int) (k : Nat), ((judgeS lim l L i).2 = 0 ∨ i + k ≤ (judgeS lim l L i).1) → judgeS lim (l.take k) L i = (-1, 0)
  | [], L, i, k, _ => by rw [List.take_nil]; rfl
  | s :: l, L, i, 0, _ => rfl
  | s :: l, L, i, k + 1, h => by
    rw [List.take_succ_cons]
    unfold judgeS at h ⊢
    split at h
    · rename_i he
      rw [if_pos he]
      refine judge_prefix l _ _ k (h.imp id (fun h => by omega))
    · rename_i he
      rcases h with h | h
      · exact absurd h he
      · simp only at h
        omega
theorem judge_range {lim : Int} : ∀ (l : List Seen) (L : List Cn) (i : Int), ((judgeS lim l L i).2 = 0 ∧ (judgeS lim l L i).1 = -1) ∨ ((judgeS lim l L i).2 ≠ 0 ∧ i ≤ (judgeS lim l L i).1 ∧ (judgeS lim l L i).1 < i + l.length)
  | [], L, i => .inl ⟨rfl, rfl⟩
  | s :: l, L, i => by
    unfold judgeS
    split
    · rcases judge_range l (nextS L s) (i + 1) with h | h
      · exact .inl h
      · refine .inr ⟨h.1, by omega, ?_⟩
        rw [List.length_cons]
        omega
    · rename_i he
      refine .inr ⟨he, Int.le_refl _, ?_⟩
      rw [List.length_cons]
      simp only
      omega
theorem ok_tokens {lim : Int} : ∀ (l : List Seen) (L : List Cn) (i : Int), (L.map (·.2)).Nodup → (judgeS lim l L i).2 = 0 → ((l.foldl nextS L).map (·.2)).Nodup
  | [], L, i, h, _ => h
  | s :: l, L, i, h, hj => by
    unfold judgeS at hj
    split at hj
    · rename_i he
      refine ok_tokens l (nextS L s) (i + 1) ?_ hj
      unfold nextS
      split
      · rename_i hk
        rw [List.map_append, List.nodup_append]
        refine ⟨h, by simp, fun x hx y hy => ?_⟩
        simp only [List.map_cons, List.map_nil, List.mem_singleton] at hy
        subst hy
        rintro rfl
        obtain ⟨c, hc, hc2⟩ := List.mem_map.1 hx
        have hany : L.any (fun c => c.2 == s.token) = true := List.any_eq_true.2 ⟨c, hc, by simp [hc2]⟩
        unfold errS at he
        split at he
        · cases he
        · rw [if_neg (by omega), if_neg (by omega)] at he
          split at he
          · cases he
          · first | (rw [if_pos hany] at he; cases he) | (simp [hany] at he)
      · exact h.sublist ((List.filter_sublist).map _)
    · rename_i he
      exact absurd hj he
theorem ok_lim {lim : Int} {l : List Seen} {L : List Cn} {i : Int} (h : (judgeS lim l L i).2 = 0) (hl : 0 < l.length) : 1 ≤ lim := by
  cases l with
  | nil => simp at hl
  | cons s l =>
    unfold judgeS at h
    split at h
    · rename_i he
      unfold errS at he
      split at he
      · cases he
      · rename_i hb
        have hb : badS lim s = false := by simpa using hb
        unfold badS at hb
        simp only [Bool.or_eq_false_iff, decide_eq_false_iff_not] at hb
        omega
    · rename_i he
      exact absurd h he
theorem nodup_le : ∀ (m : Nat) (xs : List Int), xs.Nodup → (∀ x ∈ xs, 1 ≤ x ∧ x ≤ (m : Int)) → xs.length ≤ m
  | 0, xs, _, h => by
    cases xs with
    | nil => simp
    | cons x xs => have := h x List.mem_cons_self; omega
  | m + 1, xs, hn, h => by
    have h1 := nodup_le m (xs.erase ((m : Int) + 1)) (hn.erase _) (fun x hx => by
      have h2 := h x (List.mem_of_mem_erase hx)
      have h3 : x ≠ (m : Int) + 1 := by rintro rfl; exact (List.Nodup.not_mem_erase hn) hx
      omega)
    have h2 := List.length_erase (a := (m : Int) + 1) (l := xs)
    split at h2 <;> omega
/-- what the law looks at behind the first k -/
structure Kept (lim : Int) (k : Nat) (T : List Cn) : Prop where
  le : 0 < k → (T.length : Int) ≤ lim
  tok : ∀ c ∈ T, 1 ≤ c.2 ∧ c.2 ≤ lim
  nd : (T.map (·.2)).Nodup
theorem kept_of {lim : Int} {l : List Seen} {k : Nat} (hk : k ≤ l.length) (h : judgeS lim (l.take k) [] 0 = (-1, 0)) : Kept lim k (sortC (openS (l.take k))) := by
  have h2 : (judgeS lim (l.take k) [] 0).2 = 0 := by rw [h]
  have hg := open_good h2
  have hn := ok_tokens (lim := lim) (l.take k) [] 0 (by simp) h2
  have hp := sortC_perm (openS (l.take k))
  have hnd : ((sortC (openS (l.take k))).map (·.2)).Nodup := (hp.map _).nodup_iff.2 hn
  have htok : ∀ c ∈ sortC (openS (l.take k)), 1 ≤ c.2 ∧ c.2 ≤ lim := fun c hc => (hg c (sortC_mem.1 hc)).2
  refine ⟨fun h0 => ?_, htok, hnd⟩
  have hl := ok_lim h2 (by rw [List.length_take]; omega)
  obtain ⟨m, hm⟩ := Int.eq_ofNat_of_zero_le (show 0 ≤ lim by omega)
  have := nodup_le m ((sortC (openS (l.take k))).map (·.2)) hnd (fun x hx => by
    obtain ⟨c, hc, rfl⟩ := List.mem_map.1 hx
    have := htok c hc
    omega)
  rw [List.length_map] at this
  omega
theorem nodup_take_any {T : List Cn} {j : Nat} {d y : Cn} (hn : (T.map (·.2)).Nodup) (hj : j < T.length) (hy : T.getD j d = y) : (T.take j).any (fun c => c.2 == y.2) = false := by
  rw [List.any_eq_false]
  intro c hc e
  have e' : c.2 = y.2 := by simpa using e
  have hy' : T[j]? = some y := by rw [← hy, List.getD_eq_getElem?_getD, List.getElem?_eq_getElem hj]; rfl
  obtain ⟨i, hi, hci⟩ := List.mem_iff_getElem.1 hc
  rw [List.length_take] at hi
  rw [List.getElem_take] at hci
  have h1 : i < (T.map (·.2)).length := by rw [List.length_map]; omega
  have h2 : j < (T.map (·.2)).length := by rw [List.length_map]; omega
  have := (List.getElem_inj (h₀ := h1) (h₁ := h2) hn).1 (by
    rw [List.getElem_map, List.getElem_map, hci, e']
    have : T[j] = y := by rw [List.getElem?_eq_getElem hj] at hy'; exact Option.some.inj hy'
    rw [this])
  omega
end Go.Proofs.Ytkggchahhpmpbaa.Jue
