import Derived.Test.YtkfopjonhhldnaaNod4
import Derived.Test.YtkfopjonhhldnaaOpI
namespace Go.Proofs.Ytkfopjonhhldnaa.Nod
open Go.RowKit Go.Proofs.YtkfopjonhhldnaaW.PrintWords Go.Proofs.Ytkfopjonhhldnaa.Sl
set_option linter.unusedVariables false
def intsS : Sh := .slice 3 (.int .i64)
def intS : Sh := .int .i64
theorem intsS_sized {x : intsS.D} (h : intsS.sized Try.prog x) : (show List Int from x).length * 8 ≤ 140737488351232 := by
  have e : Try.prog.bytesOf 3 = 8 := by kernel_rfl
  obtain ⟨h1, _⟩ := h
  rw [e] at h1
  exact h1
namespace LawHas
theorem walk (W : World) (cs0 : List Value) (x0 : intsS.D) (hk0 : intsS.kd.K W x0 cs0) (hw0 : intsS.wf x0) (hz0 : intsS.sized Try.prog x0) (cs1 : List Value) (x1 : intS.D) (hk1 : intS.kd.K W x1 cs1) (hw1 : intS.wf x1) (hz1 : intS.sized Try.prog x1) :
    Calls Try.prog 3 #[intsS.val cs0, intS.val cs1] W fun e W' => e = .returned (.bool true) ∧ Below W.heap.size W W' := by
  obtain ⟨A, c, rfl, _, hr⟩ := ints_open hk0
  obtain rfl : cs1 = [.int .i64 x1] := hk1
  exact lawHas_any A c x0 x1 W hr
end LawHas
namespace LawCheck
theorem walk (W : World) (cs0 : List Value) (x0 : intsS.D) (hk0 : intsS.kd.K W x0 cs0) (hw0 : intsS.wf x0) (hz0 : intsS.sized Try.prog x0) :
    Calls Try.prog 4 #[intsS.val cs0] W fun e W' => e = .returned (.bool true) ∧ Below W.heap.size W W' := by
  obtain ⟨A, c, rfl, _, hr⟩ := ints_open hk0
  exact lawCheck_any A c x0 W hr (intsS_sized hz0)
end LawCheck
end Go.Proofs.Ytkfopjonhhldnaa.Nod
