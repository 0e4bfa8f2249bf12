import Derived.Test.YtekjihmepdhmeaaLeAj
import Derived.Test.YtekjihmepdhmeaaRlpFj
import Derived.Test.YtekjihmepdhmeaaRlo6q
section
/- Lemmas towards the law: what of the text LeE it needs. -/
namespace Go.Proofs.Ytekjihmepdhmeaa.Led
open Go.RowKit Go.Proofs.YtekjihmepdhmeaaW.PrintWords Go.Proofs.Ytekjihmepdhmeaa.Sl
set_option linter.unusedVariables false
set_option linter.unusedSimpArgs false
def ownB (l : List Held) (x : Cmd) : Bool := isHeld l x.token && ((l.getD (posHeld l x.token) default).node == x.node) && ((l.getD (posHeld l x.token) default).boot == x.boot) && ((l.getD (posHeld l x.token) default).serial == x.serial)
def requestC (lim nxt : Int) (l : List Held) (ix : Int) (x : Cmd) : Gr :=
  if x.kind = 3 then grantC lim nxt l ix x.node x.boot
  else if ownB l x = false then ⟨nxt, l, ⟨4, 0, 0⟩⟩
  else if x.kind = 5 then ⟨nxt, l.eraseIdx (posHeld l x.token), ⟨5, 0, 0⟩⟩
  else ⟨nxt, l.set (posHeld l x.token) { l.getD (posHeld l x.token) default with stamp := ix }, ⟨3, 0, 0⟩⟩
/-- one cell of an element is turned -/
theorem set_cells {α : Type} {enc : α → List Value} {sz : Nat} (hl : ∀ x, (enc x).length = sz) (xs : List α) (tl : List Value) (i j : Nat) (hi : i < xs.length) (z : α) (y : α) (v : Value) (hj : j < sz) (hy : enc y = (enc (xs.getD i z)).set j v) :
    (xs.flatMap enc ++ tl).set (i * sz + j) v = (xs.set i y).flatMap enc ++ tl := by
  have e2 := flat_take hl xs i (by omega)
  have hg : xs.getD i z = xs[i] := by rw [List.getD_eq_getElem?_getD, List.getElem?_eq_getElem hi, Option.getD_some]
  have e1 : xs = xs.take i ++ xs[i] :: xs.drop (i + 1) := by rw [← List.drop_eq_getElem_cons hi, List.take_append_drop]
  have e3 : xs.set i y = xs.take i ++ y :: xs.drop (i + 1) := by
    rw [List.set_eq_take_append_cons_drop, if_pos hi]
  have e4 : xs.flatMap enc ++ tl = (xs.take i).flatMap enc ++ (enc xs[i] ++ ((xs.drop (i + 1)).flatMap enc ++ tl)) := by
    conv => lhs; rw [e1]
    simp only [List.flatMap_append, List.flatMap_cons, List.append_assoc]
  rw [e4, e3, List.set_append, if_neg (by omega), e2, Nat.add_sub_cancel_left, List.set_append, if_pos (by rw [hl]; exact hj)]
  simp only [List.flatMap_append, List.flatMap_cons, List.append_assoc, hy, hg]
end Go.Proofs.Ytekjihmepdhmeaa.Led

end
section
/- Lemmas towards the law: what of the text RlpH it needs. -/
namespace Go.Proofs.Ytekjihmepdhmeaa.Rlo
open Go.RowKit Go.Proofs.YtekjihmepdhmeaaW.PrintWords Go.Proofs.Ytekjihmepdhmeaa.Sl
set_option linter.unusedVariables false
set_option linter.unusedSimpArgs false
theorem flat_at {α : Type} {enc : α → List Value} {sz : Nat} (hl : ∀ x, (enc x).length = sz) (l : List α) (tl : List Value) {k : Nat} (z : α) {x : α} (hk : k < l.length) (hx : l.getD k z = x) {j : Nat} (hj : j < sz) : (l.flatMap enc ++ tl)[k * sz + j]? = (enc x)[j]? := by
  have e2 := Led.flat_take hl l k (by omega)
  have hg : l[k] = x := by rw [← hx, List.getD_eq_getElem?_getD, List.getElem?_eq_getElem hk, Option.getD_some]
  have e1 : l = l.take k ++ l[k] :: l.drop (k + 1) := by rw [← List.drop_eq_getElem_cons hk, List.take_append_drop]
  have e4 : l.flatMap enc ++ tl = (l.take k).flatMap enc ++ (enc l[k] ++ ((l.drop (k + 1)).flatMap enc ++ tl)) := by
    conv => lhs; rw [e1]
    simp only [List.flatMap_append, List.flatMap_cons, List.append_assoc]
  rw [e4, List.getElem?_append_right (by omega), e2, Nat.add_sub_cancel_left, List.getElem?_append_left (by rw [hl]; exact hj), hg]
/-- the data of some entries, one of them at another place -/
theorem data_set {l l' : List Ent} (h : l'.map Ent.data = l.map Ent.data) (k : Nat) {x : Ent} (A : Option Addr) (c : Nat) (hk : k < l'.length) (hx : l'.getD k default = x) : (l'.set k (x.at A c)).map Ent.data = l.map Ent.data := by
  rw [List.map_set, ← h]
  apply List.ext_getElem?
  intro j
  rw [List.getElem?_set]
  split
  · rename_i e
    subst e
    rw [List.length_map, if_pos hk, List.getElem?_map, List.getElem?_eq_getElem hk, ← hx, List.getD_eq_getElem?_getD, List.getElem?_eq_getElem hk]
    rfl
  · rfl
end Go.Proofs.Ytekjihmepdhmeaa.Rlo

end
