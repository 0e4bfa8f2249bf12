import Derived.Test.YtekjihmepdhmeaaLeF0j
/- Lemmas towards the law: what of the text LeG0 it needs. -/
namespace Go.Proofs.Ytekjihmepdhmeaa.Led
open Go.RowKit Go.Proofs.YtekjihmepdhmeaaW.PrintWords Go.Proofs.Ytekjihmepdhmeaa.Sl
set_option linter.unusedVariables false
set_option linter.unusedSimpArgs false
theorem srt_pw {l : List Held} (h : srtHeld l) : l.Pairwise (fun a b => a.token < b.token) := by
  rw [List.pairwise_iff_getElem]
  intro i j hi hj hij
  have := h i j hij hj
  rwa [List.getD_eq_getElem?_getD, List.getD_eq_getElem?_getD, List.getElem?_eq_getElem hi, List.getElem?_eq_getElem hj] at this
theorem srtL_pw {l : List Last} (h : srtLast l) : l.Pairwise (fun a b => a.node < b.node) := by
  rw [List.pairwise_iff_getElem]
  intro i j hi hj hij
  have := h i j hij hj
  rwa [List.getD_eq_getElem?_getD, List.getD_eq_getElem?_getD, List.getElem?_eq_getElem hi, List.getElem?_eq_getElem hj] at this
end Go.Proofs.Ytekjihmepdhmeaa.Led

