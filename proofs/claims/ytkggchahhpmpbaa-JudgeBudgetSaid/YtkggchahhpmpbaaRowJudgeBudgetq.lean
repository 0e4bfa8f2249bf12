/- The law, by its walk: for every input it returns true. No condition. -/
import Derived.Test.YtkggchahhpmpbaaRows
import Derived.Test.YtkggchahhpmpbaaOpq
import Derived.Test.YtkggchahhpmpbaaJurAq
import Derived.WalkKit
import Derived.ProofKit
import Derived.OpenShut
import Derived.ShutString
import Derived.ChangeOld
import Derived.Below
import Derived.SizedLaws
namespace Go.Proofs.Ytkggchahhpmpbaa.judgeBudget
open Go.ChangeShapes Go.WideShapes Go.ChangeAt Go.RowKit Go.Proofs.Ytkggchahhpmpbaa.Sl
set_option linter.unusedVariables false
theorem own : ownKnob Try.prog.godebug = none := by kernel_rfl
theorem laidOut : laidOutB Try.prog = true := by kernel_rfl
set_option maxRecDepth 100000 in
theorem lifted (os : Os) (started : os.Started) (H : Type) (enc : TypeId × Value → H) :
    ReturnsInHanded {} Try.checked os 7 .any (Rows.judgeBudgetSpec.pre6 enc Try.prog Try.f7 Rows.judgeBudgetRow.domain false) (Rows.judgeBudgetSpec.post enc Try.prog Try.f7 false true false false) := by
  refine returnsInHanded_of_change_sized (C := Try.checked) own started (by kernel_rfl) Try.func7
    (ChangeSpec.witness6 (enc := enc) (C := Try.checked) false ⟨#[], #[.int .i64 0, .slice none 0 0], []⟩ 8 (by kernel_rfl) (by kernel_rfl) (by kernel_rfl) (by kernel_rfl)) ?_
  intro W base args ds gs before hval0 hW hcnd hsz0 _
  have hsz : (DataW.weightsEach Try.prog (Try.f7.params.toList ++ Rows.judgeBudgetSpec.plain.varTypes Try.prog) (ds ++ gs)).all (· ≤ reachBytes) = true := hsz0
  have hval : ∀ (j : Nat) t v, Try.f7.params[j]? = some t → args[j]? = some v → Value.okWide Try.prog W .any base t v := hval0
  have hW' := hW
  obtain ⟨p, q, hA0, hV, rfl, hfz, hnd⟩ := hW
  have hA : DataW.TrodAll enc Try.prog W 0 (fun _ => true) true Try.f7.params.toList args.toList ds p := hA0
  rw [Try.params7] at hA hval hsz
  obtain ⟨v0, vs0, d0, ds0, p0, q0, hargs, rfl, rfl, h0, r0⟩ := trodAll_cons hA
  obtain ⟨v1, vs1, d1, ds1, p1, q1, rfl, rfl, rfl, h1, r1⟩ := trodAll_cons r0
  obtain ⟨rfl, rfl, rfl⟩ := trodAll_nil r1
  obtain rfl : args = #[v0, v1] := by cases args; simp_all
  obtain ⟨rfl, rfl⟩ := trodVars_none hV
  have k0 := h0
  have lt0 : ∀ x ∈ p0, x.block < W.heap.size := by obtain ⟨m, hm⟩ := k0; exact DataW.trod_lt m _ _ _ hm
  have fit0 : Sh.fit Try.prog (Sh.int .i64) (some 3) [] 0 = true := by kernel_rfl
  have e0 := Sh.val_of (Sh.int .i64) fit0 (hval 0 3 v0 rfl rfl)
  obtain ⟨x0, hk0, hw0, hz0⟩ := Sh.arg (Sh.int .i64) fit0 h0
  replace hz0 := hz0 (weights_of hsz (j := 0) (t := 3) rfl rfl)
  have k1 := h1
  have lt1 : ∀ x ∈ p1, x.block < W.heap.size := by obtain ⟨m, hm⟩ := k1; exact DataW.trod_lt m _ _ _ hm
  have fit1 : Sh.fit Try.prog Jue.seensS (some 22) [] 0 = true := by kernel_rfl
  have e1 := Sh.val_of Jue.seensS fit1 (hval 1 22 v1 rfl rfl)
  obtain ⟨x1, hk1, hw1, hz1⟩ := Sh.arg Jue.seensS fit1 h1
  replace hz1 := hz1 (weights_of hsz (j := 1) (t := 22) rfl rfl)
  have WALK := Jue.LawBudget.walk W v0.cells.toList x0 hk0 hw0 hz0 v1.cells.toList x1 hk1 hw1 hz1
  rw [← e0, ← e1] at WALK
  clear hA0 hval0 hsz0 hsz
  refine WALK.mono fun e W' ⟨he, bel⟩ => ?_
  subst he
  exact ⟨_, rfl, _, _, _, [], _, [], hW', trodAll_mk1 (shut_bool Try.underlying4 _), (trodAll_cons_mk (Below.trod laidOut (by kernel_rfl) (of_decide_eq_true (by kernel_rfl)) k0 bel lt0) (trodAll_cons_mk (Below.trod laidOut (by kernel_rfl) (of_decide_eq_true (by kernel_rfl)) k1 bel lt1) trodAll_mk0)), rfl, bel.frame _, fun h => by cases h⟩
theorem over : Rows.judgeBudgetRow.holds Try.pinned (OpenSpec.ofChange Rows.judgeBudgetSpec) :=
  OpenClaim.holds_of_wide 7 Try.f7 rfl rfl rfl rfl rfl rfl rfl ⟨rfl, rfl, rfl, rfl, rfl⟩ rfl rfl rfl rfl rfl (by kernel_rfl) Try.func7 (by kernel_rfl)
    (of_decide_eq_true (by kernel_rfl)) (by unfold Func.isWrapper; first | (rw [if_pos (by decide +kernel)]; kernel_rfl) | (rw [if_neg (by decide +kernel)]; exact ⟨rfl, rfl⟩))
    (fun os started H enc _ => lifted os started H enc)
end Go.Proofs.Ytkggchahhpmpbaa.judgeBudget
namespace Go.Proofs.Ytkggchahhpmpbaa
/-- The row, under a short name, for the claim. -/
theorem judgeBudget_holds : Rows.JudgeBudgetSaid := judgeBudget.over
end Go.Proofs.Ytkggchahhpmpbaa
