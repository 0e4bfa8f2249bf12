import Derived.Test.YtekjihmepdhmeaaRloDj
import Derived.Test.YtekjihmepdhmeaaSlXq
import Derived.Test.YtekjihmepdhmeaaRlo8j
section
/- Lemmas towards the law: what of the text RloE it needs. -/
namespace Go.Proofs.Ytekjihmepdhmeaa.Rlo
open Go.RowKit Go.Proofs.YtekjihmepdhmeaaW.PrintWords Go.Proofs.Ytekjihmepdhmeaa.Sl
set_option linter.unusedVariables false
set_option linter.unusedSimpArgs false
theorem same_at {l l' : List Ent} (h : l'.map Ent.data = l.map Ent.data) {k : Nat} (hk : k < l.length) : ∃ A c, l'.getD k default = (l.getD k default).at A c := by
  have hl : l'.length = l.length := by
    have := congrArg List.length h
    rwa [List.length_map, List.length_map] at this
  have h1 : (l'.map Ent.data)[k]? = (l.map Ent.data)[k]? := by rw [h]
  rw [List.getElem?_map, List.getElem?_map, List.getElem?_eq_getElem hk, List.getElem?_eq_getElem (by omega)] at h1
  simp only [Option.map_some, Option.some.injEq] at h1
  rw [List.getD_eq_getElem?_getD, List.getD_eq_getElem?_getD, List.getElem?_eq_getElem hk, List.getElem?_eq_getElem (by omega), Option.getD_some, Option.getD_some]
  refine ⟨l'[k].A, l'[k].c, ?_⟩
  generalize l[k] = a at h1
  generalize l'[k] = b at h1
  cases a
  cases b
  simp only [Ent.data, Ent.mk.injEq] at h1
  simp only [Ent.at, Ent.mk.injEq]
  simp_all
end Go.Proofs.Ytekjihmepdhmeaa.Rlo

end
section
/- Lemmas towards the law: what of the text RloF0 it needs. -/
namespace Go.Proofs.Ytekjihmepdhmeaa.Rlo
open Go.RowKit Go.Proofs.YtekjihmepdhmeaaW.PrintWords Go.Proofs.Ytekjihmepdhmeaa.Sl
set_option linter.unusedVariables false
set_option linter.unusedSimpArgs false
theorem cmdOk_data (e : Ent) : cmdOk e = cmdOk e.data := rfl
theorem logGo_data (t : Int) : ∀ (l l' : List Ent) (p : Int), l'.map Ent.data = l.map Ent.data → logGo t l' p = logGo t l p
  | [], [], _, _ => rfl
  | [], y :: ys, _, h => by simp at h
  | x :: xs, [], _, h => by simp at h
  | x :: xs, y :: ys, p, h => by
    simp only [List.map_cons, List.cons.injEq] at h
    have h1 : y.term = x.term := show y.data.term = x.data.term by rw [h.1]
    rw [logGo, logGo, cmdOk_data y, cmdOk_data x, h.1, h1, logGo_data t xs ys _ h.2]
theorem same_hardOk {d d' : Hrd} (h : d.same d') : hardOk d' = hardOk d := by
  have hh : headOk d' = headOk d := by
    unfold headOk shotOk lastOf
    rw [h.boot, h.term, h.vote, h.s.si, h.s.st, h.s.nodes, h.s.lim, h.s.nxt, h.s.held, h.s.last, same_len h]
  unfold hardOk
  rw [hh, h.term, h.s.st, logGo_data _ _ _ _ h.log]
end Go.Proofs.Ytekjihmepdhmeaa.Rlo

end
