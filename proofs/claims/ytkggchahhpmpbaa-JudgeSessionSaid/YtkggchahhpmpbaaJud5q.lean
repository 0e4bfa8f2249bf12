/- Lemmas towards the law: what of the text Jud5 it needs. -/
import Derived.Test.YtkggchahhpmpbaaJud2q
import Derived.Test.YtkggchahhpmpbaaJud4q
namespace Go.Proofs.Ytkggchahhpmpbaa.Jud
open Go.RowKit Go.Proofs.YtkggchahhpmpbaaW.PrintWords Go.Proofs.Ytkggchahhpmpbaa.Sl
set_option linter.unusedVariables false
set_option linter.unusedSimpArgs false
def exL : List Frm := [⟨66, noText⟩, ⟨81, ⟨#[120]⟩⟩]
def exT1 : List Rep := [⟨1, 0, noText⟩, ⟨2, 0, ⟨#[121]⟩⟩]
def exT2 : List Rep := [⟨1, 0, noText⟩, ⟨2, 0, ⟨#[122]⟩⟩]
theorem ex1 : pGo exL [⟨#[121]⟩] exT1 0 false 0 = (-1, 0) := by decide +kernel
theorem ex2 : pGo exL [⟨#[121]⟩] exT2 0 false 0 = (1, 220) := by decide +kernel
theorem rdL {w : World} {g : Nat} {t : TypeId} (h : w.heap[g]? = some (.cells ([.int .u8 66, .string ⟨#[]⟩, .int .u8 81, .string ⟨#[120]⟩] : List Value).toArray t (0, 0))) : Rd Frm.enc 2 w (some ⟨g, 0, none⟩) 2 exL := Rd.lit Frm.len h rfl rfl (by decide)
theorem rdY {w : World} {g : Nat} {t : TypeId} (h : w.heap[g]? = some (.cells ([.string ⟨#[121]⟩] : List Value).toArray t (0, 0))) : Rd strs 1 w (some ⟨g, 0, none⟩) 1 [⟨#[121]⟩] := Rd.lit strs_len h rfl rfl (by decide)
theorem rdT1 {w : World} {g : Nat} {t : TypeId} (h : w.heap[g]? = some (.cells ([.int .i64 1, .int .i64 0, .string ⟨#[]⟩, .int .i64 2, .int .i64 0, .string ⟨#[121]⟩] : List Value).toArray t (0, 0))) : Rd Rep.enc 3 w (some ⟨g, 0, none⟩) 2 exT1 := Rd.lit Rep.len h rfl rfl (by decide)
theorem rdT2 {w : World} {g : Nat} {t : TypeId} (h : w.heap[g]? = some (.cells ([.int .i64 1, .int .i64 0, .string ⟨#[]⟩, .int .i64 2, .int .i64 0, .string ⟨#[122]⟩] : List Value).toArray t (0, 0))) : Rd Rep.enc 3 w (some ⟨g, 0, none⟩) 2 exT2 := Rd.lit Rep.len h rfl rfl (by decide)
set_option maxHeartbeats 1600000 in
set_option maxRecDepth 100000 in
theorem fits_ex (w : World) : Calls Try.prog 11 #[] w (fun e w' => e = .returned (.bool true) ∧ Below w.heap.size w w') := by
  have HS := Aside0.mk (SH.start w)
  go_enter Try.func11, Try.ntmps11
  go_wp2_with (first | (go_at_call 12; (with_reducible refine (fits_any _ _ _ 2 1 2 exL [⟨#[121]⟩] exT1 _ (rdL (HS.out.blk 0 rfl)) (rdY (HS.out.blk 1 rfl)) (rdT1 (HS.out.blk 2 rfl)) (Nat.le_refl _)).mono ?_); rintro e w2 ⟨rfl, hb⟩; rw [ex1]; have HS1 := HS.out.quiet hb; clear HS hb; have HS := Aside0.mk HS1; clear HS1) | (go_at_call 12; (with_reducible refine (fits_any _ _ _ 2 1 2 exL [⟨#[121]⟩] exT2 _ (rdL (HS.out.blk 0 rfl)) (rdY (HS.out.blk 3 rfl)) (rdT2 (HS.out.blk 4 rfl)) (Nat.le_refl _)).mono ?_); rintro e w2 ⟨rfl, hb⟩; rw [ex2]; have HS1 := HS.out.quiet hb; clear HS hb; have HS := Aside0.mk HS1; clear HS1) | ((first | ((first | ((with_reducible refine gA rfl ?_); refine sh_alloc HS.out rfl rfl (zeT _ (by decide)) ?_) | ((with_reducible refine gB rfl ?_); refine bx HS.out rfl rfl ?_; first | refine bv (v := .agg (List.toArray _)) rfl ?_ | refine bv (v := .int _ _) rfl ?_ | refine bv (v := .slice _ _ _) rfl ?_ | refine bv (v := .bool _) rfl ?_ | refine bv (v := .pointer _) rfl ?_ | refine bv (v := .string _) rfl ?_ | refine bv (v := .map _) rfl ?_ | refine bv (v := .func _ _ _) rfl ?_) | ((with_reducible refine gL rfl ?_); refine sh_lit HS.out rfl rfl (by go_simp; exact ⟨⟨rfl, rfl⟩, rfl⟩) ?_)); clear HS; intro g w1 hg HS1; (simp only [Frm.enc, Rep.enc, zeF, segOf, aL, aC, aE] at HS1); have HS := Aside0.mk HS1; clear HS1)); try simp only [aP, aN, aT, aZ, aS]))
  go_ret
  exact ⟨rfl, HS.out.below⟩
end Go.Proofs.Ytkggchahhpmpbaa.Jud
