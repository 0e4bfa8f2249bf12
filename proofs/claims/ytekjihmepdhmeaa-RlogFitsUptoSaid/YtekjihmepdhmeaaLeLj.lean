import Derived.Test.YtekjihmepdhmeaaLeG0j
/- Lemmas towards the law: what of the text LeL it needs. -/
namespace Go.Proofs.Ytekjihmepdhmeaa.Led
open Go.RowKit Go.Proofs.YtekjihmepdhmeaaW.PrintWords Go.Proofs.Ytekjihmepdhmeaa.Sl
set_option linter.unusedVariables false
set_option linter.unusedSimpArgs false
structure LedOk (lim nxt : Int) (l : List Held) (m : List Last) : Prop where
  lim1 : 1 ≤ lim
  lim2 : lim ≤ 65535
  nxt1 : 1 ≤ nxt
  len : l.length ≤ 64
  srt : l.Pairwise (fun a b => a.token < b.token)
  held : ∀ h ∈ l, 1 ≤ h.token ∧ h.token ≤ lim ∧ 1 ≤ h.node ∧ h.node ≤ 7 ∧ 1 ≤ h.boot ∧ 1 ≤ h.stamp ∧ 1 ≤ h.serial ∧ h.serial < nxt
  ser : l.Pairwise (fun a b => a.serial ≠ b.serial)
  srtL : m.Pairwise (fun a b => a.node < b.node)
  last : ∀ x ∈ m, 1 ≤ x.node ∧ x.node ≤ 7 ∧ 1 ≤ x.boot ∧ 1 ≤ x.seq ∧ okAns lim nxt x.ans = true
theorem getD_of {α : Type} [Inhabited α] {l : List α} {i : Nat} (hi : i < l.length) : l.getD i default = l[i] := by
  rw [List.getD_eq_getElem?_getD, List.getElem?_eq_getElem hi, Option.getD_some]
theorem hOk_iff {lim nxt : Int} {l : List Held} {i : Nat} : hOk lim nxt l i = true ↔ ((0 < i → (l.getD (i - 1) default).token < (l.getD i default).token) ∧ 1 ≤ (l.getD i default).token ∧ (l.getD i default).token ≤ lim ∧ 1 ≤ (l.getD i default).node ∧ (l.getD i default).node ≤ 7 ∧ 1 ≤ (l.getD i default).boot ∧ 1 ≤ (l.getD i default).stamp ∧ 1 ≤ (l.getD i default).serial ∧ (l.getD i default).serial < nxt) ∧ ∀ g ∈ l.take i, g.serial ≠ (l.getD i default).serial := by
  unfold hOk hOk0
  simp only [Bool.and_eq_true, Bool.not_eq_true', Bool.or_eq_false_iff, Bool.and_eq_false_iff, decide_eq_false_iff_not, List.any_eq_false, beq_iff_eq]
  grind
theorem lOk_iff {lim nxt : Int} {m : List Last} {i : Nat} : lOk lim nxt m i = true ↔ ((0 < i → (m.getD (i - 1) default).node < (m.getD i default).node) ∧ 1 ≤ (m.getD i default).node ∧ (m.getD i default).node ≤ 7 ∧ 1 ≤ (m.getD i default).boot ∧ 1 ≤ (m.getD i default).seq ∧ okAns lim nxt (m.getD i default).ans = true) := by
  unfold lOk
  simp only [Bool.not_eq_true', Bool.or_eq_false_iff, Bool.and_eq_false_iff, decide_eq_false_iff_not, Bool.not_eq_false']
  grind
theorem isLed_iff {lim nxt : Int} {l : List Held} {m : List Last} : isLed lim nxt l m = true ↔ LedOk lim nxt l m := by
  constructor
  · intro h
    obtain ⟨⟨h1, h2, h3, h4⟩, hA, hL⟩ := isLed_parts h
    have hA' := of_decide_eq_true hA
    have hL' := of_decide_eq_true hL
    refine ⟨h1, h2, h3, h4, srt_pw (srt_of hA), fun h hh => ?_, ?_, srtL_pw (srtL_of hL), fun x hx => ?_⟩
    · obtain ⟨i, hi, rfl⟩ := List.getElem_of_mem hh
      have := (hOk_iff.1 (hA' i hi)).1.2
      rwa [getD_of hi] at this
    · rw [List.pairwise_iff_getElem]
      intro i j hi hj hij
      have := (hOk_iff.1 (hA' j hj)).2 l[i] (List.mem_take_iff_getElem.2 ⟨i, by omega, rfl⟩)
      rwa [getD_of hj] at this
    · obtain ⟨i, hi, rfl⟩ := List.getElem_of_mem hx
      have := (lOk_iff.1 (hL' i hi)).2
      rwa [getD_of hi] at this
  · intro h
    unfold isLed good0
    simp only [Bool.and_eq_true, decide_eq_true_eq]
    refine ⟨⟨⟨⟨⟨h.lim1, h.lim2⟩, h.nxt1⟩, h.len⟩, ?_⟩, ?_⟩
    · unfold hAll
      rw [decide_eq_true_eq]
      intro i hi
      refine hOk_iff.2 ⟨⟨fun h0 => ?_, ?_⟩, fun g hg => ?_⟩
      · rw [getD_of hi, getD_of (show i - 1 < l.length by omega)]
        exact List.pairwise_iff_getElem.1 h.srt (i - 1) i (by omega) hi (by omega)
      · rw [getD_of hi]
        exact h.held _ (List.getElem_mem hi)
      · obtain ⟨j, hj, rfl⟩ := List.mem_take_iff_getElem.1 hg
        rw [getD_of hi]
        exact List.pairwise_iff_getElem.1 h.ser j i (by omega) hi (by omega)
    · unfold lAll
      rw [decide_eq_true_eq]
      intro i hi
      refine lOk_iff.2 ⟨fun h0 => ?_, ?_⟩
      · rw [getD_of hi, getD_of (show i - 1 < m.length by omega)]
        exact List.pairwise_iff_getElem.1 h.srtL (i - 1) i (by omega) hi (by omega)
      · rw [getD_of hi]
        exact h.last _ (List.getElem_mem hi)
end Go.Proofs.Ytekjihmepdhmeaa.Led

