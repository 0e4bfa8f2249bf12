/- Lemmas towards the law: what of the text Led0 it needs. -/
import Derived.Test.YtekjihmepdhmeaaTyq
import Derived.WalkKit
import Derived.Outline
namespace Go.Proofs.Ytekjihmepdhmeaa.Led
open Go.RowKit Go.Proofs.YtekjihmepdhmeaaW.PrintWords Go.Proofs.Ytekjihmepdhmeaa.Sl
structure Held where
  token : Int
  node : Int
  boot : Int
  serial : Int
  stamp : Int
  deriving DecidableEq, Inhabited
def Held.enc (h : Held) : List Value := [.int .i64 h.token, .int .i64 h.node, .int .u64 h.boot, .int .u64 h.serial, .int .u64 h.stamp]
theorem Held.len (h : Held) : h.enc.length = 5 := rfl
theorem Held.one (h : Held) : h.enc.all (·.oneCell') = true := rfl
def heldK : Kd Held := flk Held.enc 5 Held.len Held.one
structure Ans where
  code : Int
  token : Int
  serial : Int
  deriving DecidableEq, Inhabited
structure Last where
  node : Int
  boot : Int
  seq : Int
  ans : Ans
  deriving DecidableEq, Inhabited
def Last.enc (h : Last) : List Value := [.int .i64 h.node, .int .u64 h.boot, .int .u64 h.seq, .int .i64 h.ans.code, .int .i64 h.ans.token, .int .u64 h.ans.serial]
theorem Last.len (h : Last) : h.enc.length = 6 := rfl
theorem Last.one (h : Last) : h.enc.all (·.oneCell') = true := rfl
def lastK : Kd Last := flk Last.enc 6 Last.len Last.one
theorem take_succ_getD {α : Type} {l : List α} {k : Nat} (z : α) (h : k < l.length) : l.take (k + 1) = l.take k ++ [l.getD k z] := by
  rw [List.take_succ_eq_append_getElem h]
  simp [List.getD_eq_getElem?_getD, List.getElem?_eq_getElem h]
end Go.Proofs.Ytekjihmepdhmeaa.Led
