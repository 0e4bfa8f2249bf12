import Derived.Test.YtekjihmepdhmeaaRlpIj
import Derived.Test.YtekjihmepdhmeaaRloHj
/- Lemmas towards the law: what of the text RlpJ it needs. -/
namespace Go.Proofs.Ytekjihmepdhmeaa.Rlo
open Go.RowKit Go.Proofs.YtekjihmepdhmeaaW.PrintWords Go.Proofs.Ytekjihmepdhmeaa.Sl
set_option linter.unusedVariables false
set_option linter.unusedSimpArgs false
def cutA (A : Option Addr) (c k : Nat) : Option Addr := if c = k then A else A.map (·.add (k * 9))
theorem cutA_rd {w : World} {A : Option Addr} {n c k : Nat} {xs : List Ent} (h : Rd Ent.enc 9 w A n xs) (hk : k ≤ n) (hn : n ≤ c) : Rd Ent.enc 9 w (cutA A c k) (n - k) (xs.drop k) := by
  have hl := h.len
  rcases Nat.lt_or_ge k n with h1 | h1
  · obtain ⟨ad, rfl⟩ := h.addr (by omega)
    unfold cutA
    rw [if_neg (by omega)]
    exact rd_drop h hk
  · refine ⟨by rw [List.length_drop]; omega, by omega, fun h0 => absurd h0 (by omega)⟩
theorem cutA_in {S : Nat → Prop} {A : Option Addr} {c k : Nat} (h : inS S A) : inS S (cutA A c k) := by
  unfold cutA
  split
  · exact h
  · intro ad e
    cases A with
    | none => cases e
    | some a =>
      injection e with e
      subst e
      rw [Sl.add_block]
      exact h a rfl
end Go.Proofs.Ytekjihmepdhmeaa.Rlo

