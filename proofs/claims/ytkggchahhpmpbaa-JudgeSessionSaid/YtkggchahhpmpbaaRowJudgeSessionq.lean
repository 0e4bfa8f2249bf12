/- The law, by its walk: for every input it returns true. No condition. -/
import Derived.Test.YtkggchahhpmpbaaRows
import Derived.Test.YtkggchahhpmpbaaOpq
import Derived.Test.YtkggchahhpmpbaaJs8q
import Derived.WalkKit
import Derived.ProofKit
import Derived.OpenShut
import Derived.ShutString
import Derived.ChangeOld
import Derived.Below
import Derived.SizedLaws
namespace Go.Proofs.Ytkggchahhpmpbaa.judgeSession
open Go.ChangeShapes Go.WideShapes Go.ChangeAt Go.RowKit Go.Proofs.Ytkggchahhpmpbaa.Sl
set_option linter.unusedVariables false
theorem own : ownKnob Try.prog.godebug = none := by kernel_rfl
theorem laidOut : laidOutB Try.prog = true := by kernel_rfl
set_option maxRecDepth 100000 in
theorem lifted (os : Os) (started : os.Started) (H : Type) (enc : TypeId × Value → H) :
    ReturnsInHanded {} Try.checked os 5 .any (Rows.judgeSessionSpec.pre6 enc Try.prog Try.f5 Rows.judgeSessionRow.domain false) (Rows.judgeSessionSpec.post enc Try.prog Try.f5 false true false false) := by
  refine returnsInHanded_of_change_sized (C := Try.checked) own started (by kernel_rfl) Try.func5
    (ChangeSpec.witness6 (enc := enc) (C := Try.checked) false ⟨#[], #[.slice none 0 0, .slice none 0 0, .slice none 0 0], []⟩ 8 (by kernel_rfl) (by kernel_rfl) (by kernel_rfl) (by kernel_rfl)) ?_
  intro W base args ds gs before hval0 hW hcnd hsz0 _
  have hsz : (DataW.weightsEach Try.prog (Try.f5.params.toList ++ Rows.judgeSessionSpec.plain.varTypes Try.prog) (ds ++ gs)).all (· ≤ reachBytes) = true := hsz0
  have hval : ∀ (j : Nat) t v, Try.f5.params[j]? = some t → args[j]? = some v → Value.okWide Try.prog W .any base t v := hval0
  have hW' := hW
  obtain ⟨p, q, hA0, hV, rfl, hfz, hnd⟩ := hW
  have hA : DataW.TrodAll enc Try.prog W 0 (fun _ => true) true Try.f5.params.toList args.toList ds p := hA0
  rw [Try.params5] at hA hval hsz
  obtain ⟨v0, vs0, d0, ds0, p0, q0, hargs, rfl, rfl, h0, r0⟩ := trodAll_cons hA
  obtain ⟨v1, vs1, d1, ds1, p1, q1, rfl, rfl, rfl, h1, r1⟩ := trodAll_cons r0
  obtain ⟨v2, vs2, d2, ds2, p2, q2, rfl, rfl, rfl, h2, r2⟩ := trodAll_cons r1
  obtain ⟨rfl, rfl, rfl⟩ := trodAll_nil r2
  obtain rfl : args = #[v0, v1, v2] := by cases args; simp_all
  obtain ⟨rfl, rfl⟩ := trodVars_none hV
  have k0 := h0
  have lt0 : ∀ x ∈ p0, x.block < W.heap.size := by obtain ⟨m, hm⟩ := k0; exact DataW.trod_lt m _ _ _ hm
  have fit0 : Sh.fit Try.prog Jud.frmsS (some 30) [] 0 = true := by kernel_rfl
  have e0 := Sh.val_of Jud.frmsS fit0 (hval 0 30 v0 rfl rfl)
  obtain ⟨x0, hk0, hw0, hz0⟩ := Sh.arg Jud.frmsS fit0 h0
  replace hz0 := hz0 (weights_of hsz (j := 0) (t := 30) rfl rfl)
  have k1 := h1
  have lt1 : ∀ x ∈ p1, x.block < W.heap.size := by obtain ⟨m, hm⟩ := k1; exact DataW.trod_lt m _ _ _ hm
  have fit1 : Sh.fit Try.prog Jud.LawSession.waysS (some 35) [] 0 = true := by kernel_rfl
  have e1 := Sh.val_of Jud.LawSession.waysS fit1 (hval 1 35 v1 rfl rfl)
  obtain ⟨x1, hk1, hw1, hz1⟩ := Sh.arg Jud.LawSession.waysS fit1 h1
  replace hz1 := hz1 (weights_of hsz (j := 1) (t := 35) rfl rfl)
  have k2 := h2
  have lt2 : ∀ x ∈ p2, x.block < W.heap.size := by obtain ⟨m, hm⟩ := k2; exact DataW.trod_lt m _ _ _ hm
  have fit2 : Sh.fit Try.prog Jud.strsS (some 31) [] 0 = true := by kernel_rfl
  have e2 := Sh.val_of Jud.strsS fit2 (hval 2 31 v2 rfl rfl)
  obtain ⟨x2, hk2, hw2, hz2⟩ := Sh.arg Jud.strsS fit2 h2
  replace hz2 := hz2 (weights_of hsz (j := 2) (t := 31) rfl rfl)
  have WALK := Jud.LawSession.walk W v0.cells.toList x0 hk0 hw0 hz0 v1.cells.toList x1 hk1 hw1 hz1 v2.cells.toList x2 hk2 hw2 hz2
  rw [← e0, ← e1, ← e2] at WALK
  clear hA0 hval0 hsz0 hsz
  refine WALK.mono fun e W' ⟨he, bel⟩ => ?_
  subst he
  exact ⟨_, rfl, _, _, _, [], _, [], hW', trodAll_mk1 (shut_bool Try.underlying4 _), (trodAll_cons_mk (Below.trod laidOut (by kernel_rfl) (of_decide_eq_true (by kernel_rfl)) k0 bel lt0) (trodAll_cons_mk (Below.trod laidOut (by kernel_rfl) (of_decide_eq_true (by kernel_rfl)) k1 bel lt1) (trodAll_cons_mk (Below.trod laidOut (by kernel_rfl) (of_decide_eq_true (by kernel_rfl)) k2 bel lt2) trodAll_mk0))), rfl, bel.frame _, fun h => by cases h⟩
theorem over : Rows.judgeSessionRow.holds Try.pinned (OpenSpec.ofChange Rows.judgeSessionSpec) :=
  OpenClaim.holds_of_wide 5 Try.f5 rfl rfl rfl rfl rfl rfl rfl ⟨rfl, rfl, rfl, rfl, rfl⟩ rfl rfl rfl rfl rfl (by kernel_rfl) Try.func5 (by kernel_rfl)
    (of_decide_eq_true (by kernel_rfl)) (by unfold Func.isWrapper; first | (rw [if_pos (by decide +kernel)]; kernel_rfl) | (rw [if_neg (by decide +kernel)]; exact ⟨rfl, rfl⟩))
    (fun os started H enc _ => lifted os started H enc)
end Go.Proofs.Ytkggchahhpmpbaa.judgeSession
namespace Go.Proofs.Ytkggchahhpmpbaa
/-- The row, under a short name, for the claim. -/
theorem judgeSession_holds : Rows.JudgeSessionSaid := judgeSession.over
end Go.Proofs.Ytkggchahhpmpbaa
