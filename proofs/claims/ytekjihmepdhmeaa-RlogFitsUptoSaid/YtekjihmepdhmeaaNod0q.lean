/- Lemmas towards the law: what of the text Nod0 it needs. -/
import Derived.Test.YtekjihmepdhmeaaSlXq
import Derived.Test.YtekjihmepdhmeaaTyq
import Derived.WalkKit
import Derived.Outline
namespace Go.Proofs.Ytekjihmepdhmeaa.Nod
open Go.RowKit Go.Proofs.YtekjihmepdhmeaaW.PrintWords Go.Proofs.Ytekjihmepdhmeaa.Sl
/-- the first k elements may be a set's -/
def okTo (l : List Int) (k : Nat) : Prop := ∀ i, i < k → 1 ≤ l.getD i 0 ∧ l.getD i 0 ≤ 7 ∧ (0 < i → l.getD (i - 1) 0 < l.getD i 0)
instance (l : List Int) (k : Nat) : Decidable (okTo l k) := by unfold okTo; infer_instance
theorem okTo_zero (l : List Int) : okTo l 0 := fun i h => by omega
theorem okTo_succ {l : List Int} {k : Nat} {x : Int} (h : okTo l k) (hx : l.getD k 0 = x) (h1 : 1 ≤ x) (h2 : x ≤ 7) (h3 : 0 < k → l.getD (k - 1) 0 < x) : okTo l (k + 1) := by
  intro i hi
  by_cases e : i < k
  · exact h i e
  · obtain rfl : i = k := by omega
    rw [hx]
    exact ⟨h1, h2, h3⟩
/-- which lists are sets, the empty one among them -/
def isSet (l : List Int) : Bool := decide (okTo l l.length)
theorem isSet_false {l : List Int} {k : Nat} (hk : k < l.length) (h : ¬ okTo l (k + 1)) : isSet l = false :=
  decide_eq_false (fun h' => h (fun i hi => h' i (by omega)))
theorem not_okTo {l : List Int} {k : Nat} {x : Int} (hx : l.getD k 0 = x) (h : x < 1 ∨ 7 < x ∨ (0 < k ∧ x ≤ l.getD (k - 1) 0)) : ¬ okTo l (k + 1) := by
  intro h'
  have := h' k (by omega)
  rw [hx] at this
  rcases h with h | h | ⟨h0, h⟩
  · omega
  · omega
  · have h1 := this.2.2 h0
    omega
/-- sets of nodes: not empty -/
def good (l : List Int) : Bool := isSet l && decide (0 < l.length)
theorem take_succ_getD {α : Type} {l : List α} {k : Nat} (z : α) (h : k < l.length) : l.take (k + 1) = l.take k ++ [l.getD k z] := by
  rw [List.take_succ_eq_append_getElem h]
  simp [List.getD_eq_getElem?_getD, List.getElem?_eq_getElem h]
/-- whether one is there -/
def has (l : List Int) (n : Int) : Bool := l.contains n
theorem has_nil (n : Int) : has [] n = false := rfl
/-- a set's row as cells -/
def rowV (l : List Int) : List Value := [.bool (has l 0), .bool (has l 1), .bool (has l 2), .bool (has l 3), .bool (has l 4), .bool (has l 5), .bool (has l 6), .bool (has l 7)]
theorem rowV_succ {l : List Int} {k : Nat} {x : Int} (hk : k < l.length) (hx : l.getD k 0 = x) (h1 : 1 ≤ x) (h2 : x ≤ 7) : rowV (l.take (k + 1)) = (rowV (l.take k)).set x.toNat (.bool true) := by
  rw [take_succ_getD 0 hk, hx]
  obtain rfl | rfl | rfl | rfl | rfl | rfl | rfl : x = 1 ∨ x = 2 ∨ x = 3 ∨ x = 4 ∨ x = 5 ∨ x = 6 ∨ x = 7 := by omega
  all_goals simp [rowV, has]
/-- whether one is of a set -/
def inS (l : List Int) (j : Int) : Bool := isSet l && has l j
/-- the row that 'of' tells -/
def ofRow (l : List Int) : List Value := [.bool (inS l 0), .bool (inS l 1), .bool (inS l 2), .bool (inS l 3), .bool (inS l 4), .bool (inS l 5), .bool (inS l 6), .bool (inS l 7)]
end Go.Proofs.Ytekjihmepdhmeaa.Nod
