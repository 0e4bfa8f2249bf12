/- Lemmas towards the law: what of the text Jur8 it needs. -/
import Derived.Test.YtkggchahhpmpbaaJur6q
import Derived.Test.YtkggchahhpmpbaaJue8q
import Derived.Deep.DeepCutAuto
namespace Go.Proofs.Ytkggchahhpmpbaa.Jue
open Go.RowKit Go.Proofs.YtkggchahhpmpbaaW.PrintWords Go.Proofs.Ytkggchahhpmpbaa.Sl
set_option linter.unusedVariables false
set_option linter.unusedSimpArgs false
theorem replay_at (A : Option Addr) (N c : Nat) (lim : Int) (l : List Seen) (z : Int × Int) (L : List Cn) (w : World) (hr : Rd Seen.enc 3 w A N l) (hN : N ≤ 1000) (hz : judgeS lim l [] 0 = z) (hL : openS l = L) : Calls Try.prog 22 #[.int .i64 lim, .slice A N c] w (ReplayPost w z L) := by
  have := replay_any A N c lim l w hr hN
  rw [hz, hL] at this
  exact this
end Go.Proofs.Ytkggchahhpmpbaa.Jue
