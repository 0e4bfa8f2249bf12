/- Lemmas towards the law: what of the text DkG it needs. -/
import Derived.Test.YtgcgnhcjjlnloaaDoorDkFq
import Derived.Test.YtgcgnhcjjlnloaaDoorOpq
namespace Go.Proofs.YtgcgnhcjjlnloaaDoor.Dk
open Go.RowKit Go.Proofs.YtgcgnhcjjlnloaaDoorW.PrintWords Go.Proofs.YtgcgnhcjjlnloaaDoor.Sl
set_option linter.unusedVariables false
set_option linter.unusedSimpArgs false
theorem C_mapR {α β : Type} {d : Kd α} {w : World} {A : Option Addr} {n : Nat} {xs : List α} (h : d.C w A n xs) (z : β) {enc : β → List Value} {sz : Nat} (hsz : d.sz = sz) {R : β → Prop} (hk : ∀ x ∈ xs, ∀ cs, d.K w x cs → ∃ y, cs = enc y ∧ R y) : ∃ ys : List β, ys.length = n ∧ Rd enc sz w A n ys ∧ ∀ y ∈ ys, R y := by
  subst hsz
  by_cases hn : n = 0
  · subst hn
    exact ⟨[], rfl, Rd.nil _ _ _ _, fun y hy => by cases hy⟩
  · obtain ⟨ad, e, hc⟩ := h.2.2 (by omega)
    have hx : ∀ i, i < n → ∃ y : β, (∃ c : List Value, c.length = d.sz ∧ c = enc y ∧ ∀ j u, c[j]? = some u → w.cell? (ad.add (i * d.sz + j)) = some u) ∧ R y := by
      intro i hi
      have hi' : i < xs.length := by rw [h.1]; exact hi
      obtain ⟨c, hs, hr, hcell⟩ := hc i xs[i] (List.getElem?_eq_getElem hi')
      obtain ⟨y, hy, hR⟩ := hk _ (List.getElem_mem hi') c hr
      exact ⟨y, ⟨c, hs, hy, hcell⟩, hR⟩
    obtain ⟨l, hl, hp⟩ := list_of_lt z hx
    refine ⟨l, hl, ⟨hl, h.2.1, fun _ => ⟨ad, e, fun j p hj => ?_⟩⟩, fun y hy => ?_⟩
    · have hjl := (List.getElem?_eq_some_iff.1 hj).1
      obtain ⟨⟨c, h1, h2, h3⟩, _⟩ := hp j (by omega)
      rw [List.getD_eq_getElem?_getD, hj, Option.getD_some] at h2
      exact ⟨c, h1, h2, h3⟩
    · obtain ⟨j, hj, rfl⟩ := List.getElem_of_mem hy
      have := (hp j (by omega)).2
      rwa [List.getD_eq_getElem?_getD, List.getElem?_eq_getElem hj, Option.getD_some] at this
structure Op1 where
  dd : Int
  n : Int
  name : ByteArray
  b : ByteArray
  K : Option Addr
  nk : Nat
  ck : Nat
  keep : List Int
instance : Inhabited Op1 := ⟨⟨0, 0, noText, noText, none, 0, 0, []⟩⟩
def Op1.enc (o : Op1) : List Value := [.int .i64 o.dd, .int .i64 o.n, .string o.name, .string o.b, .slice o.K o.nk o.ck]
theorem Op1.len (o : Op1) : o.enc.length = 5 := rfl
namespace LawArmed
def opS : Sh := .st (.cons (.int .i64) (.cons (.int .i64) (.cons .str (.cons .str (.cons (.slice 3 (.int .i64)) .nil)))))
end LawArmed
end Go.Proofs.YtgcgnhcjjlnloaaDoor.Dk
