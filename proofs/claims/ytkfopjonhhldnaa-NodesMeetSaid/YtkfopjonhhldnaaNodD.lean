import Derived.Test.YtkfopjonhhldnaaNodC
import Derived.Test.YtkfopjonhhldnaaNod5
namespace Go.Proofs.Ytkfopjonhhldnaa.Nod
open Go.RowKit Go.Proofs.YtkfopjonhhldnaaW.PrintWords Go.Proofs.Ytkfopjonhhldnaa.Sl
set_option linter.unusedVariables false
namespace LawSteps
theorem walk (W : World) (cs0 : List Value) (x0 : intsS.D) (hk0 : intsS.kd.K W x0 cs0) (hw0 : intsS.wf x0) (hz0 : intsS.sized Try.prog x0) (cs1 : List Value) (x1 : intsS.D) (hk1 : intsS.kd.K W x1 cs1) (hw1 : intsS.wf x1) (hz1 : intsS.sized Try.prog x1) :
    Calls Try.prog 6 #[intsS.val cs0, intsS.val cs1] W fun e W' => e = .returned (.bool true) ∧ Below W.heap.size W W' := by
  obtain ⟨A, c, rfl, _, hr⟩ := ints_open hk0
  obtain ⟨B, c', rfl, _, hr'⟩ := ints_open hk1
  exact lawSteps_any A B c c' x0 x1 W hr hr' (intsS_sized hz0) (intsS_sized hz1)
end LawSteps
namespace LawBack
theorem walk (W : World) (cs0 : List Value) (x0 : intsS.D) (hk0 : intsS.kd.K W x0 cs0) (hw0 : intsS.wf x0) (hz0 : intsS.sized Try.prog x0) (cs1 : List Value) (x1 : intsS.D) (hk1 : intsS.kd.K W x1 cs1) (hw1 : intsS.wf x1) (hz1 : intsS.sized Try.prog x1) :
    Calls Try.prog 8 #[intsS.val cs0, intsS.val cs1] W fun e W' => e = .returned (.bool true) ∧ Below W.heap.size W W' := by
  obtain ⟨A, c, rfl, _, hr⟩ := ints_open hk0
  obtain ⟨B, c', rfl, _, hr'⟩ := ints_open hk1
  exact lawBack_any A B c c' x0 x1 W hr hr'
end LawBack
namespace LawMeet
theorem walk (W : World) (cs0 : List Value) (x0 : intsS.D) (hk0 : intsS.kd.K W x0 cs0) (hw0 : intsS.wf x0) (hz0 : intsS.sized Try.prog x0) (cs1 : List Value) (x1 : intsS.D) (hk1 : intsS.kd.K W x1 cs1) (hw1 : intsS.wf x1) (hz1 : intsS.sized Try.prog x1) (cs2 : List Value) (x2 : intsS.D) (hk2 : intsS.kd.K W x2 cs2) (hw2 : intsS.wf x2) (hz2 : intsS.sized Try.prog x2) (cs3 : List Value) (x3 : intsS.D) (hk3 : intsS.kd.K W x3 cs3) (hw3 : intsS.wf x3) (hz3 : intsS.sized Try.prog x3) :
    Calls Try.prog 10 #[intsS.val cs0, intsS.val cs1, intsS.val cs2, intsS.val cs3] W fun e W' => e = .returned (.bool true) ∧ Below W.heap.size W W' := by
  obtain ⟨A, c, rfl, _, hr⟩ := ints_open hk0
  obtain ⟨B, c', rfl, _, hr'⟩ := ints_open hk1
  obtain ⟨C, c2, rfl, _, hr2⟩ := ints_open hk2
  obtain ⟨D, c3, rfl, _, hr3⟩ := ints_open hk3
  exact lawMeet_any A B C D c c' c2 c3 x0 x1 x2 x3 W hr hr' hr2 hr3 (intsS_sized hz2) (intsS_sized hz3)
end LawMeet
end Go.Proofs.Ytkfopjonhhldnaa.Nod
