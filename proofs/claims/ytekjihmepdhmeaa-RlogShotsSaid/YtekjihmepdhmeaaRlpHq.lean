/- Lemmas towards the law: what of the text RlpH it needs. -/
import Derived.Test.YtekjihmepdhmeaaRlpGq
import Derived.Test.YtekjihmepdhmeaaLeEq
namespace Go.Proofs.Ytekjihmepdhmeaa.Rlo
open Go.RowKit Go.Proofs.YtekjihmepdhmeaaW.PrintWords Go.Proofs.Ytekjihmepdhmeaa.Sl
set_option linter.unusedVariables false
set_option linter.unusedSimpArgs false
theorem flat_at {α : Type} {enc : α → List Value} {sz : Nat} (hl : ∀ x, (enc x).length = sz) (l : List α) (tl : List Value) {k : Nat} (z : α) {x : α} (hk : k < l.length) (hx : l.getD k z = x) {j : Nat} (hj : j < sz) : (l.flatMap enc ++ tl)[k * sz + j]? = (enc x)[j]? := by
  have e2 := Led.flat_take hl l k (by omega)
  have hg : l[k] = x := by rw [← hx, List.getD_eq_getElem?_getD, List.getElem?_eq_getElem hk, Option.getD_some]
  have e1 : l = l.take k ++ l[k] :: l.drop (k + 1) := by rw [← List.drop_eq_getElem_cons hk, List.take_append_drop]
  have e4 : l.flatMap enc ++ tl = (l.take k).flatMap enc ++ (enc l[k] ++ ((l.drop (k + 1)).flatMap enc ++ tl)) := by
    conv => lhs; rw [e1]
    simp only [List.flatMap_append, List.flatMap_cons, List.append_assoc]
  rw [e4, List.getElem?_append_right (by omega), e2, Nat.add_sub_cancel_left, List.getElem?_append_left (by rw [hl]; exact hj), hg]
/-- the data of some entries, one of them at another place -/
theorem data_set {l l' : List Ent} (h : l'.map Ent.data = l.map Ent.data) (k : Nat) {x : Ent} (A : Option Addr) (c : Nat) (hk : k < l'.length) (hx : l'.getD k default = x) : (l'.set k (x.at A c)).map Ent.data = l.map Ent.data := by
  rw [List.map_set, ← h]
  apply List.ext_getElem?
  intro j
  rw [List.getElem?_set]
  split
  · rename_i e
    subst e
    rw [List.length_map, if_pos hk, List.getElem?_map, List.getElem?_eq_getElem hk, ← hx, List.getD_eq_getElem?_getD, List.getElem?_eq_getElem hk]
    rfl
  · rfl
end Go.Proofs.Ytekjihmepdhmeaa.Rlo
