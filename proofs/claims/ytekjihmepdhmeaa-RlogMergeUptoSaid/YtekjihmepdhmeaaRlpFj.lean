import Derived.Test.YtekjihmepdhmeaaRlpEj
import Derived.Test.YtekjihmepdhmeaaLed0j
import Derived.Test.YtekjihmepdhmeaaSlXq
import Derived.Deep.DeepCutAuto
import Derived.IntWalk
import Derived.Test.YtekjihmepdhmeaaRloDj
import Derived.Test.YtekjihmepdhmeaaRlc1j
import Derived.Test.YtekjihmepdhmeaaRlo6j
section
/- Lemmas towards the law: what of the text RlpF it needs. -/
namespace Go.Proofs.Ytekjihmepdhmeaa.Rlo
open Go.RowKit Go.Proofs.YtekjihmepdhmeaaW.PrintWords Go.Proofs.Ytekjihmepdhmeaa.Sl
set_option linter.unusedVariables false
set_option linter.unusedSimpArgs false
theorem none_zero (w : World) : Calls Try.prog 72 #[.agg #[.int .u64 0, .int .u64 0, .slice none 0 0, .int .i64 0, .int .u64 0, .slice none 0 0, .slice none 0 0]] w (fun e w' => e = .returned (.bool true) ∧ Below w.heap.size w w') := by
  have HS := Aside0.mk (SH.start w)
  go_enter Try.func72, Try.ntmps72
  go_wp2_with (first | ((first | ((first | ((with_reducible refine gA rfl ?_); refine sh_alloc HS.out rfl rfl (zeT _ (by decide)) ?_) | ((with_reducible refine gB rfl ?_); refine bx HS.out rfl rfl ?_; first | refine bv (v := .agg (List.toArray _)) rfl ?_ | refine bv (v := .int _ _) rfl ?_ | refine bv (v := .slice _ _ _) rfl ?_ | refine bv (v := .bool _) rfl ?_ | refine bv (v := .pointer _) rfl ?_) | ((with_reducible refine gL rfl ?_); refine sh_lit HS.out rfl rfl (by go_simp; exact ⟨⟨rfl, rfl⟩, rfl⟩) ?_)); clear HS; intro g w1 hg HS1; (simp only [Ent.enc, Led.Held.enc, Led.Last.enc, zeF, segOf, aL, aC, aE] at HS1); have HS := Aside0.mk HS1; clear HS1) | ((with_reducible refine gLd rfl ?_); refine ld2 HS.out rfl rfl rfl (by repeat (first | exact AtI.here | apply AtI.there)) ?_; (first | refine LdK.one ((agT _ (by decide)).trans rfl) rfl ?_ | (refine LdK.agg ((agT _ (by decide)).trans rfl) (szT _ (by decide)) (lb rfl) ?_; try simp only [szL, aP, aN, aT, aZ, aS, aD, aF, aJ, aK, aM, aO]))) | ((with_reducible refine gSt rfl ?_); refine st2 HS.out rfl rfl rfl rfl (by repeat (first | exact AtI.here | apply AtI.there)) ?_; (first | refine sv (u := .agg (List.toArray _)) rfl ?_ | refine sv (u := .int _ _) rfl ?_ | refine sv (u := .slice _ _ _) rfl ?_ | refine sv (u := .bool _) rfl ?_ | refine sv (u := .pointer _) rfl ?_); refine sw (szT _ (by decide)) rfl (lb rfl) ?_; clear HS; intro w1 HS1; (simp only [Ent.enc, Led.Held.enc, Led.Last.enc, segOf, aL, aZ, aS, putSeg] at HS1); have HS := Aside0.mk HS1; clear HS1)); try simp only [aP, aN, aT, aZ, aS]))
  go_ret
  exact ⟨rfl, HS.out.below⟩
theorem empty_zero (w : World) : Calls Try.prog 71 #[.agg #[.int .u64 0, .int .i64 0, .int .i64 0, .int .i64 0, .slice none 0 0, .int .u64 0, .int .u64 0, .int .u64 0, .int .u64 0]] w (fun e w' => e = .returned (.bool true) ∧ Below w.heap.size w w') := by
  have HS := Aside0.mk (SH.start w)
  go_enter Try.func71, Try.ntmps71
  go_wp2_with (first | ((first | ((first | ((with_reducible refine gA rfl ?_); refine sh_alloc HS.out rfl rfl (zeT _ (by decide)) ?_) | ((with_reducible refine gB rfl ?_); refine bx HS.out rfl rfl ?_; first | refine bv (v := .agg (List.toArray _)) rfl ?_ | refine bv (v := .int _ _) rfl ?_ | refine bv (v := .slice _ _ _) rfl ?_ | refine bv (v := .bool _) rfl ?_ | refine bv (v := .pointer _) rfl ?_) | ((with_reducible refine gL rfl ?_); refine sh_lit HS.out rfl rfl (by go_simp; exact ⟨⟨rfl, rfl⟩, rfl⟩) ?_)); clear HS; intro g w1 hg HS1; (simp only [Ent.enc, Led.Held.enc, Led.Last.enc, zeF, segOf, aL, aC, aE] at HS1); have HS := Aside0.mk HS1; clear HS1) | ((with_reducible refine gLd rfl ?_); refine ld2 HS.out rfl rfl rfl (by repeat (first | exact AtI.here | apply AtI.there)) ?_; (first | refine LdK.one ((agT _ (by decide)).trans rfl) rfl ?_ | (refine LdK.agg ((agT _ (by decide)).trans rfl) (szT _ (by decide)) (lb rfl) ?_; try simp only [szL, aP, aN, aT, aZ, aS, aD, aF, aJ, aK, aM, aO]))) | ((with_reducible refine gSt rfl ?_); refine st2 HS.out rfl rfl rfl rfl (by repeat (first | exact AtI.here | apply AtI.there)) ?_; (first | refine sv (u := .agg (List.toArray _)) rfl ?_ | refine sv (u := .int _ _) rfl ?_ | refine sv (u := .slice _ _ _) rfl ?_ | refine sv (u := .bool _) rfl ?_ | refine sv (u := .pointer _) rfl ?_); refine sw (szT _ (by decide)) rfl (lb rfl) ?_; clear HS; intro w1 HS1; (simp only [Ent.enc, Led.Held.enc, Led.Last.enc, segOf, aL, aZ, aS, putSeg] at HS1); have HS := Aside0.mk HS1; clear HS1)); try simp only [aP, aN, aT, aZ, aS]))
  go_ret
  exact ⟨rfl, HS.out.below⟩
end Go.Proofs.Ytekjihmepdhmeaa.Rlo

end
section
/- Lemmas towards the law: what of the text LeA it needs. -/
namespace Go.Proofs.Ytekjihmepdhmeaa.Led
open Go.RowKit Go.Proofs.YtekjihmepdhmeaaW.PrintWords Go.Proofs.Ytekjihmepdhmeaa.Sl
set_option linter.unusedVariables false
set_option linter.unusedSimpArgs false
def cmpI (x y : Int) : Int := if x < y then -1 else if y < x then 1 else 0
/-- where it stands, or would stand -/
def posHeld (l : List Held) (t : Int) : Nat := (l.takeWhile (fun h => decide (h.token < t))).length
def isHeld (l : List Held) (t : Int) : Bool := decide (posHeld l t < l.length) && decide ((l.getD (posHeld l t) default).token = t)
def srtHeld (l : List Held) : Prop := ∀ p q, p < q → q < l.length → (l.getD p default).token < (l.getD q default).token
/-- where it stands, or would stand -/
def posLast (l : List Last) (t : Int) : Nat := (l.takeWhile (fun h => decide (h.node < t))).length
def isLast (l : List Last) (t : Int) : Bool := decide (posLast l t < l.length) && decide ((l.getD (posLast l t) default).node = t)
def srtLast (l : List Last) : Prop := ∀ p q, p < q → q < l.length → (l.getD p default).node < (l.getD q default).node
end Go.Proofs.Ytekjihmepdhmeaa.Led

end
section
/- Lemmas towards the law: what of the text LeD it needs. -/
namespace Go.Proofs.Ytekjihmepdhmeaa.Led
open Go.RowKit Go.Proofs.YtekjihmepdhmeaaW.PrintWords Go.Proofs.Ytekjihmepdhmeaa.Sl
set_option linter.unusedVariables false
set_option linter.unusedSimpArgs false
/-- what is to be done -/
structure Cmd where
  kind : Int
  node : Int
  token : Int
  nodes : Value
  boot : Int
  seq : Int
  serial : Int
  stamp : Int
def freeI (lim : Int) (n : Nat) : Int := max (min (max lim 0) 64 - n) 0
/-- the first place whose token is not its number -/
def gapGo : List Held → Nat → Nat
  | [], i => i
  | h :: t, i => if h.token = (i : Int) + 1 then gapGo t (i + 1) else i
def gap (l : List Held) : Nat := gapGo l 0
structure Gr where
  nxt : Int
  held : List Held
  ans : Ans
def grantC (lim nxt : Int) (l : List Held) (ix node boot : Int) : Gr :=
  if freeI lim l.length = 0 ∨ nxt = 18446744073709551615 then ⟨nxt, l, ⟨2, 0, 0⟩⟩
  else ⟨nxt + 1, l.take (gap l) ++ ⟨(gap l : Int) + 1, node, boot, nxt, ix⟩ :: l.drop (gap l), ⟨1, (gap l : Int) + 1, nxt⟩⟩
end Go.Proofs.Ytekjihmepdhmeaa.Led

end
section
/- Lemmas towards the law: what of the text LeE it needs. -/
namespace Go.Proofs.Ytekjihmepdhmeaa.Led
open Go.RowKit Go.Proofs.YtekjihmepdhmeaaW.PrintWords Go.Proofs.Ytekjihmepdhmeaa.Sl
set_option linter.unusedVariables false
set_option linter.unusedSimpArgs false
def ownB (l : List Held) (x : Cmd) : Bool := isHeld l x.token && ((l.getD (posHeld l x.token) default).node == x.node) && ((l.getD (posHeld l x.token) default).boot == x.boot) && ((l.getD (posHeld l x.token) default).serial == x.serial)
def requestC (lim nxt : Int) (l : List Held) (ix : Int) (x : Cmd) : Gr :=
  if x.kind = 3 then grantC lim nxt l ix x.node x.boot
  else if ownB l x = false then ⟨nxt, l, ⟨4, 0, 0⟩⟩
  else if x.kind = 5 then ⟨nxt, l.eraseIdx (posHeld l x.token), ⟨5, 0, 0⟩⟩
  else ⟨nxt, l.set (posHeld l x.token) { l.getD (posHeld l x.token) default with stamp := ix }, ⟨3, 0, 0⟩⟩
/-- one cell of an element is turned -/
theorem set_cells {α : Type} {enc : α → List Value} {sz : Nat} (hl : ∀ x, (enc x).length = sz) (xs : List α) (tl : List Value) (i j : Nat) (hi : i < xs.length) (z : α) (y : α) (v : Value) (hj : j < sz) (hy : enc y = (enc (xs.getD i z)).set j v) :
    (xs.flatMap enc ++ tl).set (i * sz + j) v = (xs.set i y).flatMap enc ++ tl := by
  have e2 := flat_take hl xs i (by omega)
  have hg : xs.getD i z = xs[i] := by rw [List.getD_eq_getElem?_getD, List.getElem?_eq_getElem hi, Option.getD_some]
  have e1 : xs = xs.take i ++ xs[i] :: xs.drop (i + 1) := by rw [← List.drop_eq_getElem_cons hi, List.take_append_drop]
  have e3 : xs.set i y = xs.take i ++ y :: xs.drop (i + 1) := by
    rw [List.set_eq_take_append_cons_drop, if_pos hi]
  have e4 : xs.flatMap enc ++ tl = (xs.take i).flatMap enc ++ (enc xs[i] ++ ((xs.drop (i + 1)).flatMap enc ++ tl)) := by
    conv => lhs; rw [e1]
    simp only [List.flatMap_append, List.flatMap_cons, List.append_assoc]
  rw [e4, e3, List.set_append, if_neg (by omega), e2, Nat.add_sub_cancel_left, List.set_append, if_pos (by rw [hl]; exact hj)]
  simp only [List.flatMap_append, List.flatMap_cons, List.append_assoc, hy, hg]
end Go.Proofs.Ytekjihmepdhmeaa.Led

end
section
/- Lemmas towards the law: what of the text RlpH it needs. -/
namespace Go.Proofs.Ytekjihmepdhmeaa.Rlo
open Go.RowKit Go.Proofs.YtekjihmepdhmeaaW.PrintWords Go.Proofs.Ytekjihmepdhmeaa.Sl
set_option linter.unusedVariables false
set_option linter.unusedSimpArgs false
theorem flat_at {α : Type} {enc : α → List Value} {sz : Nat} (hl : ∀ x, (enc x).length = sz) (l : List α) (tl : List Value) {k : Nat} (z : α) {x : α} (hk : k < l.length) (hx : l.getD k z = x) {j : Nat} (hj : j < sz) : (l.flatMap enc ++ tl)[k * sz + j]? = (enc x)[j]? := by
  have e2 := Led.flat_take hl l k (by omega)
  have hg : l[k] = x := by rw [← hx, List.getD_eq_getElem?_getD, List.getElem?_eq_getElem hk, Option.getD_some]
  have e1 : l = l.take k ++ l[k] :: l.drop (k + 1) := by rw [← List.drop_eq_getElem_cons hk, List.take_append_drop]
  have e4 : l.flatMap enc ++ tl = (l.take k).flatMap enc ++ (enc l[k] ++ ((l.drop (k + 1)).flatMap enc ++ tl)) := by
    conv => lhs; rw [e1]
    simp only [List.flatMap_append, List.flatMap_cons, List.append_assoc]
  rw [e4, List.getElem?_append_right (by omega), e2, Nat.add_sub_cancel_left, List.getElem?_append_left (by rw [hl]; exact hj), hg]
/-- the data of some entries, one of them at another place -/
theorem data_set {l l' : List Ent} (h : l'.map Ent.data = l.map Ent.data) (k : Nat) {x : Ent} (A : Option Addr) (c : Nat) (hk : k < l'.length) (hx : l'.getD k default = x) : (l'.set k (x.at A c)).map Ent.data = l.map Ent.data := by
  rw [List.map_set, ← h]
  apply List.ext_getElem?
  intro j
  rw [List.getElem?_set]
  split
  · rename_i e
    subst e
    rw [List.length_map, if_pos hk, List.getElem?_map, List.getElem?_eq_getElem hk, ← hx, List.getD_eq_getElem?_getD, List.getElem?_eq_getElem hk]
    rfl
  · rfl
end Go.Proofs.Ytekjihmepdhmeaa.Rlo

end
