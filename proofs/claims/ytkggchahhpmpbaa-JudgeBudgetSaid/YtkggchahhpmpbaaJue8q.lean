/- Lemmas towards the law: what of the text Jue8 it needs. -/
import Derived.Test.YtkggchahhpmpbaaJue7q
import Derived.Test.YtkggchahhpmpbaaOpq
namespace Go.Proofs.Ytkggchahhpmpbaa.Jue
open Go.RowKit Go.Proofs.YtkggchahhpmpbaaW.PrintWords Go.Proofs.Ytkggchahhpmpbaa.Sl
set_option linter.unusedVariables false
set_option linter.unusedSimpArgs false
def seenS : Sh := .st (.cons (.int .i64) (.cons (.int .i64) (.cons (.int .i64) .nil)))
def seensS : Sh := .slice 28 seenS
def toSeen (x : seenS.D) : Seen := ⟨x.1, x.2.1, x.2.2.1⟩
theorem seenS_K {w : World} (x : seenS.D) (cs : List Value) (h : seenS.kd.K w x cs) : cs = (toSeen x).enc := by
  obtain ⟨c1, r1, rfl, h1, h2⟩ := h
  obtain ⟨c2, r2, rfl, h3, h4⟩ := h2
  obtain ⟨c3, r3, rfl, h5, h6⟩ := h4
  obtain rfl : c1 = [.int .i64 x.1] := h1
  obtain rfl : c2 = [.int .i64 x.2.1] := h3
  obtain rfl : c3 = [.int .i64 x.2.2.1] := h5
  obtain rfl : r3 = [] := h6
  rfl
end Go.Proofs.Ytkggchahhpmpbaa.Jue
