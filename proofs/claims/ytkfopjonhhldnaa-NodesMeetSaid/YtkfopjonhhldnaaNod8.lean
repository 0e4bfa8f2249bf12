import Derived.Test.YtkfopjonhhldnaaNod7
import Derived.Test.YtkfopjonhhldnaaNod5
namespace Go.Proofs.Ytkfopjonhhldnaa.Nod
open Go.RowKit Go.Proofs.YtkfopjonhhldnaaW.PrintWords Go.Proofs.Ytkfopjonhhldnaa.Sl
set_option linter.unusedVariables false
namespace LawMaj
theorem walk (W : World) (cs0 : List Value) (x0 : intsS.D) (hk0 : intsS.kd.K W x0 cs0) (hw0 : intsS.wf x0) (hz0 : intsS.sized Try.prog x0) (cs1 : List Value) (x1 : intsS.D) (hk1 : intsS.kd.K W x1 cs1) (hw1 : intsS.wf x1) (hz1 : intsS.sized Try.prog x1) :
    Calls Try.prog 5 #[intsS.val cs0, intsS.val cs1] W fun e W' => e = .returned (.bool true) ∧ Below W.heap.size W W' := by
  obtain ⟨A, c, rfl, _, hr⟩ := ints_open hk0
  obtain ⟨B, c', rfl, _, hr'⟩ := ints_open hk1
  exact lawMaj_any A B c c' x0 x1 W hr hr' (intsS_sized hz0) (intsS_sized hz1)
end LawMaj
namespace LawMore
theorem walk (W : World) (cs0 : List Value) (x0 : intsS.D) (hk0 : intsS.kd.K W x0 cs0) (hw0 : intsS.wf x0) (hz0 : intsS.sized Try.prog x0) (cs1 : List Value) (x1 : intsS.D) (hk1 : intsS.kd.K W x1 cs1) (hw1 : intsS.wf x1) (hz1 : intsS.sized Try.prog x1) (cs2 : List Value) (x2 : intS.D) (hk2 : intS.kd.K W x2 cs2) (hw2 : intS.wf x2) (hz2 : intS.sized Try.prog x2) :
    Calls Try.prog 7 #[intsS.val cs0, intsS.val cs1, intS.val cs2] W fun e W' => e = .returned (.bool true) ∧ Below W.heap.size W W' := by
  obtain ⟨A, c, rfl, _, hr⟩ := ints_open hk0
  obtain ⟨B, c', rfl, _, hr'⟩ := ints_open hk1
  obtain rfl : cs2 = [.int .i64 x2] := hk2
  exact lawMore_any A B c c' x0 x1 x2 W hr hr' (intsS_sized hz1)
end LawMore
end Go.Proofs.Ytkfopjonhhldnaa.Nod
