/- Lemmas towards the law: what of the text OpI it needs. -/
import Derived.Test.YtekjihmepdhmeaaOpq
namespace Go.Proofs.Ytekjihmepdhmeaa.Sl
open Go.RowKit Go.Proofs.YtekjihmepdhmeaaW.PrintWords
set_option linter.unusedVariables false
theorem ints_open {e : TypeId} {k : IntKind} {w : World} {x : (Sh.slice e (.int k)).D} {cs : List Value} (h : (Sh.slice e (.int k)).kd.K w x cs) :
    ∃ (A : Option Addr) (c : Nat), cs = [.slice A x.length c] ∧ x.length ≤ c ∧ Rd (ints k) 1 w A x.length x := by
  obtain ⟨A, c, rfl, hl, hC⟩ := h
  refine ⟨A, c, rfl, hl, ?_⟩
  have := C_map hC id (sz := 1) (enc := ints k) rfl (fun y cs hy => hy)
  rwa [List.map_id] at this
end Go.Proofs.Ytekjihmepdhmeaa.Sl
