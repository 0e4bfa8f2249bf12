/- Lemmas towards the law: what of the text RloH it needs. -/
import Derived.Test.YtekjihmepdhmeaaRloF0q
namespace Go.Proofs.Ytekjihmepdhmeaa.Rlo
open Go.RowKit Go.Proofs.YtekjihmepdhmeaaW.PrintWords Go.Proofs.Ytekjihmepdhmeaa.Sl
set_option linter.unusedVariables false
set_option linter.unusedSimpArgs false
theorem rd_drop {α : Type} {enc : α → List Value} {sz : Nat} {w : World} {ad : Addr} {n : Nat} {xs : List α} (h : Rd enc sz w (some ad) n xs) {p : Nat} (hp : p ≤ n) : Rd enc sz w (some (ad.add (p * sz))) (n - p) (xs.drop p) := by
  refine ⟨by rw [List.length_drop, h.len.1], by have := h.len.2; omega, fun hm => ⟨_, rfl, fun j q hj => ?_⟩⟩
  obtain ⟨a1, ha1, hr⟩ := h.2.2 (by omega)
  injection ha1 with ha1
  subst ha1
  rw [List.getElem?_drop] at hj
  obtain ⟨cs, h1, h2, h3⟩ := hr (p + j) q hj
  refine ⟨cs, h1, h2, fun i u hu => ?_⟩
  rw [← h3 i u hu, add_add, ← Nat.add_assoc, Nat.add_mul]
end Go.Proofs.Ytekjihmepdhmeaa.Rlo
