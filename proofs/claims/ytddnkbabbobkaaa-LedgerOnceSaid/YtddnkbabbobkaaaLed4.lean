import Derived.Test.YtddnkbabbobkaaaLed3
import Derived.Test.YtddnkbabbobkaaaOp
namespace Go.Proofs.Ytddnkbabbobkaaa.Led
open Go.RowKit Go.Proofs.YtddnkbabbobkaaaW.PrintWords Go.Proofs.Ytddnkbabbobkaaa.Sl
set_option linter.unusedVariables false
def heldS : Sh := .st (.cons (.int .i64) (.cons (.int .i64) (.cons (.int .u64) (.cons (.int .u64) (.cons (.int .u64) .nil)))))
def ansS : Sh := .st (.cons (.int .i64) (.cons (.int .i64) (.cons (.int .u64) .nil)))
def lastS : Sh := .st (.cons (.int .i64) (.cons (.int .u64) (.cons (.int .u64) (.cons ansS .nil))))
def ledS : Sh := .st (.cons (.int .i64) (.cons (.int .u64) (.cons (.slice 35 heldS) (.cons (.slice 48 lastS) .nil))))
def toHeld (x : heldS.D) : Held := ⟨x.1, x.2.1, x.2.2.1, x.2.2.2.1, x.2.2.2.2.1⟩
def toAns (x : ansS.D) : Ans := ⟨x.1, x.2.1, x.2.2.1⟩
def toLast (x : lastS.D) : Last := ⟨x.1, x.2.1, x.2.2.1, toAns x.2.2.2.1⟩
theorem heldS_K {w : World} (x : heldS.D) (cs : List Value) (h : heldS.kd.K w x cs) : cs = (toHeld x).enc := by
  obtain ⟨_, _, rfl, rfl, _, _, rfl, rfl, _, _, rfl, rfl, _, _, rfl, rfl, _, _, rfl, rfl, rfl⟩ := h
  rfl
theorem lastS_K {w : World} (x : lastS.D) (cs : List Value) (h : lastS.kd.K w x cs) : cs = (toLast x).enc := by
  obtain ⟨_, _, rfl, rfl, _, _, rfl, rfl, _, _, rfl, rfl, _, _, rfl, ⟨_, _, rfl, rfl, _, _, rfl, rfl, _, _, rfl, rfl, rfl⟩, rfl⟩ := h
  rfl
/-- A ledger that came in. -/
theorem ledS_open {w : World} {x : ledS.D} {cs : List Value} (h : ledS.kd.K w x cs) (hz : ledS.sized Try.prog x) :
    ∃ (A B : Option Addr) (c c' : Nat) (l : List Held) (m : List Last), cs = [.int .i64 x.1, .int .u64 x.2.1, .slice A l.length c, .slice B m.length c'] ∧ l = x.2.2.1.map toHeld ∧ m = x.2.2.2.1.map toLast ∧ Rd Held.enc 5 w A l.length l ∧ Rd Last.enc 6 w B m.length m ∧ l.length ≤ c ∧ m.length ≤ c' ∧
      l.length * 40 ≤ 140737488351232 ∧ m.length * 48 ≤ 140737488351232 := by
  obtain ⟨_, _, rfl, rfl, _, _, rfl, rfl, _, _, rfl, ⟨A, c, rfl, hl, hC⟩, _, _, rfl, ⟨B, c', rfl, hl', hC'⟩, rfl⟩ := h
  obtain ⟨_, _, ⟨hz1, _⟩, ⟨hz2, _⟩, _⟩ := hz
  refine ⟨A, B, c, c', _, _, ?_, rfl, rfl, ?_, ?_, ?_, ?_, ?_, ?_⟩
  · simp [List.length_map]
  · have := C_map hC toHeld (sz := 5) rfl (fun y cs hy => heldS_K y cs hy)
    rw [List.length_map]; exact this
  · have := C_map hC' toLast (sz := 6) rfl (fun y cs hy => lastS_K y cs hy)
    rw [List.length_map]; exact this
  · rw [List.length_map]; exact hl
  · rw [List.length_map]; exact hl'
  · have e : Try.prog.bytesOf 35 = 40 := by kernel_rfl
    rw [e] at hz1
    rw [List.length_map]; exact hz1
  · have e : Try.prog.bytesOf 48 = 48 := by kernel_rfl
    rw [e] at hz2
    rw [List.length_map]; exact hz2
namespace LawOf
theorem walk (W : World) (cs0 : List Value) (x0 : ledS.D) (hk0 : ledS.kd.K W x0 cs0) (hw0 : ledS.wf x0) (hz0 : ledS.sized Try.prog x0) (cs1 : List Value) (x1 : (Sh.int .i64).D) (hk1 : (Sh.int .i64).kd.K W x1 cs1) (hw1 : (Sh.int .i64).wf x1) (hz1 : (Sh.int .i64).sized Try.prog x1) :
    Calls Try.prog 4 #[ledS.val cs0, (Sh.int .i64).val cs1] W fun e W' => e = .returned (.bool true) ∧ Below W.heap.size W W' := by
  obtain ⟨A, B, c, c', l, m, rfl, _, _, hr, hr', _, _, hz, _⟩ := ledS_open hk0 hz0
  obtain rfl : cs1 = [.int .i64 x1] := hk1
  exact law_any A B c c' m.length x0.1 x0.2.1 x1 l W hr hz
end LawOf
end Go.Proofs.Ytddnkbabbobkaaa.Led
