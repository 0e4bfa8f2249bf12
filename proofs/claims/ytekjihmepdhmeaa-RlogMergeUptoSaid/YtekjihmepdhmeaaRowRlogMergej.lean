import Derived.Test.YtekjihmepdhmeaaRows
import Derived.Test.YtekjihmepdhmeaaOp3q
import Derived.Test.YtekjihmepdhmeaaRlpWj
import Derived.WalkKit
import Derived.ProofKit
import Derived.OpenShut
import Derived.ShutString
import Derived.ChangeOld
import Derived.Below
import Derived.SizedLaws
import Derived.JoinedCond
import Derived.Deep.CondSized
/- The law, by its walk: for every input it returns true. No condition. -/
namespace Go.Proofs.Ytekjihmepdhmeaa.rlogMerge
open Go.ChangeShapes Go.WideShapes Go.ChangeAt Go.RowKit Go.Proofs.Ytekjihmepdhmeaa.Sl
set_option linter.unusedVariables false
theorem own : ownKnob Try.prog.godebug = none := by kernel_rfl
theorem laidOut : laidOutB Try.prog = true := by kernel_rfl
set_option maxRecDepth 100000 in
theorem contract (H : Type) (enc : TypeId × Value → H) (W : World) (base : Nat) (args : Array Value) (ds gs : List (DataW H)) (before : List MemPlace)
    (hval0 : ∀ (j : Nat) t v, Try.f8.params[j]? = some t → args[j]? = some v → Value.okWide Try.prog W .any base t v)
    (hW : DataW.Whole enc Try.prog Try.f8.params.toList Rows.rlogMergeSpec.vars false W args.toList ds gs before)
    (hk : Rows.uptoSmall H (ds ++ gs) = true)
    (hsz0 : (DataW.weightsEach Try.prog (Try.f8.params.toList ++ (Rows.OpenSpec.upto Rows.rlogMergeSpec).bare.plain.varTypes Try.prog) (ds ++ gs)).all (· ≤ reachBytes) = true) :
    Calls Try.prog 8 args W fun e W' => ∃ v, e = .returned v ∧ Rows.rlogMergeSpec.post enc Try.prog Try.f8 false true false false W args v W' := by
  have hsz : (DataW.weightsEach Try.prog (Try.f8.params.toList ++ Rows.rlogMergeSpec.plain.varTypes Try.prog) (ds ++ gs)).all (· ≤ reachBytes) = true := hsz0
  have hval : ∀ (j : Nat) t v, Try.f8.params[j]? = some t → args[j]? = some v → Value.okWide Try.prog W .any base t v := hval0
  have hW' := hW
  obtain ⟨p, q, hA0, hV, rfl, hfz, hnd⟩ := hW
  have hA : DataW.TrodAll enc Try.prog W 0 (fun _ => true) true Try.f8.params.toList args.toList ds p := hA0
  rw [Try.params8] at hA hval hsz
  obtain ⟨v0, vs0, d0, ds0, p0, q0, hargs, rfl, rfl, h0, r0⟩ := trodAll_cons hA
  obtain ⟨v1, vs1, d1, ds1, p1, q1, rfl, rfl, rfl, h1, r1⟩ := trodAll_cons r0
  obtain ⟨rfl, rfl, rfl⟩ := trodAll_nil r1
  obtain rfl : args = #[v0, v1] := by cases args; simp_all
  obtain ⟨rfl, rfl⟩ := trodVars_none hV
  have k0 := h0
  have lt0 : ∀ x ∈ p0, x.block < W.heap.size := by obtain ⟨m, hm⟩ := k0; exact DataW.trod_lt m _ _ _ hm
  have fit0 : Sh.fit Try.prog Rlo.hardS (some 32) [] 0 = true := by kernel_rfl
  have e0 := Sh.val_of Rlo.hardS fit0 (hval 0 32 v0 rfl rfl)
  obtain ⟨x0, hk0, hw0, hz0, hb0⟩ := Sh.argB Rlo.hardS fit0 h0
  replace hz0 := hz0 (weights_of hsz (j := 0) (t := 32) rfl rfl)
  have k1 := h1
  have lt1 : ∀ x ∈ p1, x.block < W.heap.size := by obtain ⟨m, hm⟩ := k1; exact DataW.trod_lt m _ _ _ hm
  have fit1 : Sh.fit Try.prog Rlo.wayS (some 55) [] 0 = true := by kernel_rfl
  have e1 := Sh.val_of Rlo.wayS fit1 (hval 1 55 v1 rfl rfl)
  obtain ⟨x1, hk1, hw1, hz1, hb1⟩ := Sh.argB Rlo.wayS fit1 h1
  replace hz1 := hz1 (weights_of hsz (j := 1) (t := 55) rfl rfl)
  have hbulk : Rlo.hardS.bulk x0 + (Rlo.wayS.bulk x1 + 0) ≤ 1048576 := by
    have h9 : Rows.uptoBulkAll ([d0, d1] ++ []) ≤ 1048576 := by simpa [Rows.uptoSmall] using hk
    simp only [List.append_nil, Rows.uptoBulkAll] at h9
    omega
  have WALK := Rlo.LawMerge.walk W v0.cells.toList x0 hk0 hw0 hz0 v1.cells.toList x1 hk1 hw1 hz1 hbulk
  rw [← e0, ← e1] at WALK
  clear hA0 hval0 hsz0 hsz hk hbulk
  refine WALK.mono fun e W' ⟨he, bel⟩ => ?_
  subst he
  exact ⟨_, rfl, _, _, _, [], _, [], hW', trodAll_mk1 (shut_bool Try.underlying4 _), (trodAll_cons_mk (Below.trod laidOut (by kernel_rfl) (of_decide_eq_true (by kernel_rfl)) k0 bel lt0) (trodAll_cons_mk (Below.trod laidOut (by kernel_rfl) (of_decide_eq_true (by kernel_rfl)) k1 bel lt1) trodAll_mk0)), rfl, bel.frame _, fun h => by cases h⟩
set_option maxRecDepth 100000 in
theorem lifted (os : Os) (started : os.Started) (H : Type) (enc : TypeId × Value → H) (F : Stop.Interp) :
    ReturnsInHanded {} Try.checked os 8 .any ((Rows.OpenSpec.upto Rows.rlogMergeSpec).pre6 enc Try.prog Try.f8 Rows.rlogMergeUptoRow.domain false) (((Rows.OpenSpec.upto Rows.rlogMergeSpec).at F).post enc Try.prog Try.f8 false true false false) := by
  refine returnsInHanded_of_cond_sized (C := Try.checked) (s := Rows.OpenSpec.upto Rows.rlogMergeSpec) (k := Rows.uptoSmall) rfl own started (by kernel_rfl) Try.func8
    (OpenSpec.witness (enc := enc) (C := Try.checked) (s := Rows.OpenSpec.upto Rows.rlogMergeSpec) (k := Rows.uptoSmall) rfl false ⟨#[], #[.agg #[.int .u64 0, .int .u64 0, .int .i64 0, .int .u64 0, .int .u64 0, .slice none 0 0, .int .i64 0, .int .u64 0, .slice none 0 0, .slice none 0 0, .slice none 0 0], .agg #[.int .u64 0, .int .u64 0, .int .u64 0, .slice none 0 0]], []⟩ 8 (by kernel_rfl) (by kernel_rfl) (by kernel_rfl)
      (x := ([.agg [.lit (.int .u64 0), .lit (.int .u64 0), .lit (.int .i64 0), .agg [.lit (.int .u64 0), .lit (.int .u64 0), .nil, .agg [.lit (.int .i64 0), .lit (.int .u64 0), .nil, .nil]], .nil], .agg [.lit (.int .u64 0), .lit (.int .u64 0), .lit (.int .u64 0), .nil]], [], [])) (by kernel_rfl) rfl (by kernel_rfl)) ?_
  intro W base args ds gs before hval hW _ hk hsz _
  exact contract H enc W base args ds gs before hval hW hk hsz
theorem over : Rows.rlogMergeUptoRow.holds Try.pinned (Rows.OpenSpec.upto Rows.rlogMergeSpec) :=
  OpenClaim.holds_of_cond 8 Try.f8 rfl rfl rfl rfl rfl rfl rfl ⟨rfl, rfl, rfl, rfl, rfl⟩ rfl rfl rfl rfl rfl (by kernel_rfl) Try.func8 (by kernel_rfl)
    (of_decide_eq_true (by kernel_rfl)) (by unfold Func.isWrapper; first | (rw [if_pos (by decide +kernel)]; kernel_rfl) | (rw [if_neg (by decide +kernel)]; exact ⟨rfl, rfl⟩))
    (fun os started H enc _ F => lifted os started H enc F)
end Go.Proofs.Ytekjihmepdhmeaa.rlogMerge
namespace Go.Proofs.Ytekjihmepdhmeaa
/-- The row, under a short name, for the claim. -/
theorem rlogMerge_holds : Rows.RlogMergeUptoSaid := rlogMerge.over
end Go.Proofs.Ytekjihmepdhmeaa

