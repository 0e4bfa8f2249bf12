import Derived.Test.YtekjihmepdhmeaaRlo8j
/- Lemmas towards the law: what of the text Rlo9 it needs. -/
namespace Go.Proofs.Ytekjihmepdhmeaa.Rlo
open Go.RowKit Go.Proofs.YtekjihmepdhmeaaW.PrintWords Go.Proofs.Ytekjihmepdhmeaa.Sl
set_option linter.unusedVariables false
set_option linter.unusedSimpArgs false
theorem exLast (gn gl : Nat) (w : World) (hk : (exD gn gl).ok w) : Calls Try.prog 15 #[.agg #[.int .u64 0, .int .u64 3, .int .i64 0, .int .u64 5, .int .u64 2, .slice (some ⟨gn, 0, none⟩) 1 1, .int .i64 2, .int .u64 1, .slice none 0 0, .slice none 0 0, .slice (some ⟨gl, 0, none⟩) 2 2]] w (fun e w' => e = .returned (.tuple #[.int .u64 7, .int .u64 3]) ∧ Below w.heap.size w w') := by
  have h := Last_any (exD gn gl) w hk
  have e : lastG (exD gn gl) = (7, 3) := by kernel_rfl
  rw [e] at h
  exact h
theorem live_any (w : World) : Calls Try.prog 17 #[] w (fun e w' => e = .returned (.bool true) ∧ Below w.heap.size w w') := by
  have HS := Aside0.mk (SH.start w)
  go_enter Try.func17, Try.ntmps17
  go_wp2_with (first | (go_at_call 14; (with_reducible refine (example_any _).mono ?_); rintro e w2 ⟨gn, gl, rfl, hex, hb⟩; have HEX := Aside0.mk hex; clear hex; have HS1 := HS.out.quiet hb; clear HS hb; have HS := Aside0.mk HS1; clear HS1) | (go_at_call 15; (with_reducible refine (exLast _ _ _ HEX.out).mono ?_); rintro e w2 ⟨rfl, hb⟩;  have HS1 := HS.out.quiet hb; clear HS hb; have HS := Aside0.mk HS1; clear HS1) | ((first | ((first | ((with_reducible refine gA rfl ?_); refine sh_alloc HS.out rfl rfl (zeT _ (by decide)) ?_) | ((with_reducible refine gB rfl ?_); refine bx HS.out rfl rfl ?_; first | refine bv (v := .agg (List.toArray _)) rfl ?_ | refine bv (v := .int _ _) rfl ?_ | refine bv (v := .slice _ _ _) rfl ?_ | refine bv (v := .bool _) rfl ?_ | refine bv (v := .pointer _) rfl ?_ | refine bv (v := .string _) rfl ?_ | refine bv (v := .map _) rfl ?_ | refine bv (v := .func _ _ _) rfl ?_) | ((with_reducible refine gL rfl ?_); refine sh_lit HS.out rfl rfl (by go_simp; exact ⟨⟨rfl, rfl⟩, rfl⟩) ?_)); clear HS; intro g w1 hg HS1; (simp only [Ent.enc, zeF, segOf, aL, aC, aE] at HS1); have HS := Aside0.mk HS1; clear HS1)); try simp only [aP, aN, aT, aZ, aS]))
  go_ret
  exact ⟨rfl, HS.out.below⟩
end Go.Proofs.Ytekjihmepdhmeaa.Rlo

