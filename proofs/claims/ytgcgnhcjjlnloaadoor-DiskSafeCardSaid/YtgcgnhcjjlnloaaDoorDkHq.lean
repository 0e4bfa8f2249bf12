/- Lemmas towards the law: what of the text DkH it needs. -/
import Derived.Test.YtgcgnhcjjlnloaaDoorDkQ5q
import Derived.Test.YtgcgnhcjjlnloaaDoorDkQ0q
import Derived.Test.YtgcgnhcjjlnloaaDoorDkGq
namespace Go.Proofs.YtgcgnhcjjlnloaaDoor.Dk
open Go.RowKit Go.Proofs.YtgcgnhcjjlnloaaDoorW.PrintWords Go.Proofs.YtgcgnhcjjlnloaaDoor.Sl
set_option linter.unusedVariables false
set_option linter.unusedSimpArgs false
structure Op1.okW (w : World) (y : Op1) : Prop where
  cap : y.nk ≤ y.ck
  rd : Rd (ints .i64) 1 w y.K y.nk y.keep
  nm : y.name.size ≤ 9223372036854775807
  n : y.n ≤ 9223372036854775807
theorem i64_hi {n : Int} (h : (Lit.int .i64 n).wf = true) : n ≤ 9223372036854775807 := by
  simp only [Lit.wf, IntKind.min, IntKind.max, IntKind.signed, IntKind.bits, Bool.and_eq_true, decide_eq_true_eq, if_true] at h
  omega
theorem op_openG {w : World} (x : LawArmed.opS.D) (cs : List Value) (h : LawArmed.opS.kd.K w x cs) (hw : LawArmed.opS.wf x) : ∃ y : Op1, cs = y.enc ∧ y.okW w := by
  obtain ⟨_, _, rfl, rfl, _, _, rfl, rfl, _, _, rfl, rfl, _, _, rfl, rfl, _, _, rfl, ⟨K, ck, rfl, hl, hC⟩, rfl⟩ := h
  obtain ⟨ys, hys, hr, _⟩ := C_mapR hC (0 : Int) (enc := ints .i64) (sz := 1) rfl (R := fun _ => True) (fun x _ cs h => ⟨x, h, trivial⟩)
  obtain ⟨_, h2, h3, _⟩ := hw
  exact ⟨⟨x.1, x.2.1, x.2.2.1, x.2.2.2.1, K, _, ck, ys⟩, rfl, hl, hr, h3, i64_hi h2⟩
theorem DOk.start : DOk 0 0 false [] L0 := ⟨List.nodup_nil, (fun p hp => by cases hp), Nat.zero_le _, MOk.nil 0, (fun h => by cases h)⟩
theorem XOk.start (Bd : Nat) : XOk Bd ⟨[], -1, false⟩ := ⟨Nat.zero_le _, (fun f hf => by cases hf), by show (-1 : Int) ≤ _; omega⟩
end Go.Proofs.YtgcgnhcjjlnloaaDoor.Dk
