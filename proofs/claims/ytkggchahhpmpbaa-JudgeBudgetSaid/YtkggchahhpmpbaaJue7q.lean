/- Lemmas towards the law: what of the text Jue7 it needs. -/
import Derived.Test.YtkggchahhpmpbaaJue6q
namespace Go.Proofs.Ytkggchahhpmpbaa.Jue
open Go.RowKit Go.Proofs.YtkggchahhpmpbaaW.PrintWords Go.Proofs.Ytkggchahhpmpbaa.Sl
set_option linter.unusedVariables false
set_option linter.unusedSimpArgs false
theorem litSeen {w : World} {g : Nat} {cs : List Value} (l : List Seen) (h : w.heap[g]? = some (.cells cs.toArray 28 (0, 0))) (hcs : cs = l.flatMap Seen.enc) (hm : l.length ≤ 9223372036854775807) : Rd Seen.enc 3 w (some ⟨g, 0, none⟩) l.length l := Rd.lit Seen.len h rfl hcs hm
theorem judge_at (A : Option Addr) (N c : Nat) (lim : Int) (l : List Seen) (z : Int × Int) (w : World) (hr : Rd Seen.enc 3 w A N l) (hz : judgeS lim l [] 0 = z) : Calls Try.prog 9 #[.int .i64 lim, .slice A N c] w (JudgePost w z) := by
  have := judge_any A N c lim l w hr
  rw [hz] at this
  exact this
def exl1 : List Seen := [⟨1, 1, 1⟩, ⟨1, 2, 1⟩]
def exl2 : List Seen := [⟨1, 1, 1⟩, ⟨3, 1, 0⟩, ⟨1, 2, 1⟩]
theorem judges_ex (w : World) : Calls Try.prog 8 #[] w (fun e w' => e = .returned (.bool true) ∧ Below w.heap.size w w') := by
  have HS := Aside0.mk (SH.start w)
  have HJ1 := Aside0.mk (show ∀ (g : Nat) (w1 : World), w1.heap[g]? = some (.cells (List.toArray [.int .i64 1, .int .i64 1, .int .i64 1, .int .i64 1, .int .i64 2, .int .i64 1]) 28 (0, 0)) → Calls Try.prog 9 #[.int .i64 2, .slice (some ⟨g, 0, none⟩) 2 2] w1 (JudgePost w1 (1, 220)) from fun g w1 h => judge_at (some ⟨g, 0, none⟩) 2 2 2 exl1 (1, 220) w1 (litSeen exl1 h rfl (by decide)) (by kernel_rfl))
  have HJ2 := Aside0.mk (show ∀ (g : Nat) (w1 : World), w1.heap[g]? = some (.cells (List.toArray [.int .i64 1, .int .i64 1, .int .i64 1, .int .i64 3, .int .i64 1, .int .i64 0, .int .i64 1, .int .i64 2, .int .i64 1]) 28 (0, 0)) → Calls Try.prog 9 #[.int .i64 2, .slice (some ⟨g, 0, none⟩) 3 3] w1 (JudgePost w1 (-1, 0)) from fun g w1 h => judge_at (some ⟨g, 0, none⟩) 3 3 2 exl2 (-1, 0) w1 (litSeen exl2 h rfl (by decide)) (by kernel_rfl))
  go_enter Try.func8, Try.ntmps8
  go_upto_region 2 with (first | (go_at_call 9; (with_reducible refine (HJ1.out _ _ (HS.out.blk 0 rfl)).mono ?_); rintro e w2 ⟨rfl, hb⟩;  have HS1 := HS.out.quiet hb; clear HS hb; have HS := Aside0.mk HS1; clear HS1) | ((first | ((first | ((with_reducible refine gA rfl ?_); refine sh_alloc HS.out rfl rfl (zeT _ (by decide)) ?_) | ((with_reducible refine gB rfl ?_); refine bx HS.out rfl rfl ?_; first | refine bv (v := .agg (List.toArray _)) rfl ?_ | refine bv (v := .int _ _) rfl ?_ | refine bv (v := .slice _ _ _) rfl ?_ | refine bv (v := .bool _) rfl ?_ | refine bv (v := .pointer _) rfl ?_ | refine bv (v := .string _) rfl ?_ | refine bv (v := .map _) rfl ?_ | refine bv (v := .func _ _ _) rfl ?_) | ((with_reducible refine gL rfl ?_); refine sh_lit HS.out rfl rfl (by go_simp; exact ⟨⟨rfl, rfl⟩, rfl⟩) ?_)); clear HS; intro g w1 hg HS1; (simp only [Seen.enc, zeF, segOf, aL, aC, aE] at HS1); have HS := Aside0.mk HS1; clear HS1)); try simp only [aP, aN, aT, aZ, aS]))
  go_wp2_with (first | (go_at_call 9; (with_reducible refine (HJ2.out _ _ (HS.out.blk 1 rfl)).mono ?_); rintro e w2 ⟨rfl, hb⟩;  have HS1 := HS.out.quiet hb; clear HS hb; have HS := Aside0.mk HS1; clear HS1) | ((first | ((first | ((with_reducible refine gA rfl ?_); refine sh_alloc HS.out rfl rfl (zeT _ (by decide)) ?_) | ((with_reducible refine gB rfl ?_); refine bx HS.out rfl rfl ?_; first | refine bv (v := .agg (List.toArray _)) rfl ?_ | refine bv (v := .int _ _) rfl ?_ | refine bv (v := .slice _ _ _) rfl ?_ | refine bv (v := .bool _) rfl ?_ | refine bv (v := .pointer _) rfl ?_ | refine bv (v := .string _) rfl ?_ | refine bv (v := .map _) rfl ?_ | refine bv (v := .func _ _ _) rfl ?_) | ((with_reducible refine gL rfl ?_); refine sh_lit HS.out rfl rfl (by go_simp; exact ⟨⟨rfl, rfl⟩, rfl⟩) ?_)); clear HS; intro g w1 hg HS1; (simp only [Seen.enc, zeF, segOf, aL, aC, aE] at HS1); have HS := Aside0.mk HS1; clear HS1)); try simp only [aP, aN, aT, aZ, aS]))
  go_ret
  exact ⟨rfl, HS.out.below⟩
end Go.Proofs.Ytkggchahhpmpbaa.Jue
