/- Lemmas towards the law: what of the text RloF0 it needs. -/
import Derived.Test.YtekjihmepdhmeaaRloEq
import Derived.Test.YtekjihmepdhmeaaRlo8q
import Derived.Test.YtekjihmepdhmeaaSlXq
namespace Go.Proofs.Ytekjihmepdhmeaa.Rlo
open Go.RowKit Go.Proofs.YtekjihmepdhmeaaW.PrintWords Go.Proofs.Ytekjihmepdhmeaa.Sl
set_option linter.unusedVariables false
set_option linter.unusedSimpArgs false
theorem cmdOk_data (e : Ent) : cmdOk e = cmdOk e.data := rfl
theorem logGo_data (t : Int) : ∀ (l l' : List Ent) (p : Int), l'.map Ent.data = l.map Ent.data → logGo t l' p = logGo t l p
  | [], [], _, _ => rfl
  | [], y :: ys, _, h => by simp at h
  | x :: xs, [], _, h => by simp at h
  | x :: xs, y :: ys, p, h => by
    simp only [List.map_cons, List.cons.injEq] at h
    have h1 : y.term = x.term := show y.data.term = x.data.term by rw [h.1]
    rw [logGo, logGo, cmdOk_data y, cmdOk_data x, h.1, h1, logGo_data t xs ys _ h.2]
theorem same_hardOk {d d' : Hrd} (h : d.same d') : hardOk d' = hardOk d := by
  have hh : headOk d' = headOk d := by
    unfold headOk shotOk lastOf
    rw [h.boot, h.term, h.vote, h.s.si, h.s.st, h.s.nodes, h.s.lim, h.s.nxt, h.s.held, h.s.last, same_len h]
  unfold hardOk
  rw [hh, h.term, h.s.st, logGo_data _ _ _ _ h.log]
end Go.Proofs.Ytekjihmepdhmeaa.Rlo
