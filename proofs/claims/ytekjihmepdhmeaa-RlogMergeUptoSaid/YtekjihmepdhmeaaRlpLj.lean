import Derived.Test.YtekjihmepdhmeaaRlpBj
/- Lemmas towards the law: what of the text RlpL it needs. -/
namespace Go.Proofs.Ytekjihmepdhmeaa.Rlo
open Go.RowKit Go.Proofs.YtekjihmepdhmeaaW.PrintWords Go.Proofs.Ytekjihmepdhmeaa.Sl
set_option linter.unusedVariables false
set_option linter.unusedSimpArgs false
theorem logGo_cmd {t : Int} : ∀ (l : List Ent) (p : Int) (k : Nat), k < l.length → logGo t l p = true → cmdOk (l.getD k default) = true ∧ 1 ≤ (l.getD k default).term
  | [], p, k, hk, _ => by simp at hk
  | x :: xs, p, 0, _, h => by
    rw [logGo] at h
    simp only [Bool.and_eq_true, decide_eq_true_eq] at h
    exact ⟨h.1.2, h.1.1.1⟩
  | x :: xs, p, k + 1, hk, h => by
    rw [logGo] at h
    simp only [Bool.and_eq_true, decide_eq_true_eq] at h
    have := logGo_cmd xs x.term k (by simpa using hk) h.2
    simpa using this
/-- d2 is d behind a snapshot at its k-th entry -/
structure Behind (d d2 : Hrd) (k : Nat) : Prop where
  hk : k ≤ d.log.length
  g : hardOk d = true
  ok : hardOk d2 = true
  si : d2.s.si = d.s.si + k
  st : d2.s.st = (termOf d (d.s.si + k)).1
  nodes : d2.s.nodes = (confG d (d.s.si + k)).2
  led : (⟨d2.s.lim, d2.s.nxt, d2.s.held, d2.s.last⟩ : Lg) = ledAt d k
  log : d2.log.map Ent.data = (d.log.drop k).map Ent.data
theorem Behind.at {d d2 : Hrd} {k : Nat} (h : Behind d d2 k) {j : Nat} (hj : k + j < d.log.length) : ∃ A c, d2.log.getD j default = (d.log.getD (k + j) default).at A c := by
  obtain ⟨A, c, he⟩ := same_at h.log (k := j) (by rw [List.length_drop]; omega)
  refine ⟨A, c, he.trans ?_⟩
  congr 1
  rw [List.getD_eq_getElem?_getD, List.getD_eq_getElem?_getD, List.getElem?_drop]
end Go.Proofs.Ytekjihmepdhmeaa.Rlo

