/- Lemmas towards the law: what of the text Jue6 it needs. -/
import Derived.Test.YtkggchahhpmpbaaJue5q
namespace Go.Proofs.Ytkggchahhpmpbaa.Jue
open Go.RowKit Go.Proofs.YtkggchahhpmpbaaW.PrintWords Go.Proofs.Ytkggchahhpmpbaa.Sl
set_option linter.unusedVariables false
set_option linter.unusedSimpArgs false
theorem rd_take {α : Type} {enc : α → List Value} {sz : Nat} {w : World} {A : Option Addr} {n : Nat} {xs : List α} (h : Rd enc sz w A n xs) {m : Nat} (hm : m ≤ n) : Rd enc sz w A m (xs.take m) := by
  refine ⟨by rw [List.length_take, h.len.1]; omega, by have := h.len.2; omega, fun h0 => ?_⟩
  obtain ⟨a1, ha1, hr⟩ := h.2.2 (by omega)
  refine ⟨a1, ha1, fun j q hj => hr j q ?_⟩
  rw [List.getElem?_take] at hj
  split at hj
  · exact hj
  · cases hj
theorem any_succ {α : Type} (p : α → Bool) {l : List α} {k : Nat} {d x : α} (hk : k < l.length) (hx : l.getD k d = x) : (l.take (k + 1)).any p = ((l.take k).any p || p x) := by
  rw [List.take_succ_eq_append_getElem hk, List.any_append]
  rw [List.getD_eq_getElem?_getD, List.getElem?_eq_getElem hk, Option.getD_some] at hx
  rw [hx]
  simp
end Go.Proofs.Ytkggchahhpmpbaa.Jue
