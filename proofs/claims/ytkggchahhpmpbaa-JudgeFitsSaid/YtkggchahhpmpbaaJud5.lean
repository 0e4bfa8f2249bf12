import Derived.Test.YtkggchahhpmpbaaJud3
import Derived.Test.YtkggchahhpmpbaaJud4
-- ENC: Frm.enc, Rep.enc
namespace Go.Proofs.Ytkggchahhpmpbaa.Jud
open Go.RowKit Go.Proofs.YtkggchahhpmpbaaW.PrintWords Go.Proofs.Ytkggchahhpmpbaa.Sl
set_option linter.unusedVariables false
set_option linter.unusedSimpArgs false
/-! The law JudgeFits. -/
def exL : List Frm := [⟨66, noText⟩, ⟨81, ⟨#[120]⟩⟩]
def exT1 : List Rep := [⟨1, 0, noText⟩, ⟨2, 0, ⟨#[121]⟩⟩]
def exT2 : List Rep := [⟨1, 0, noText⟩, ⟨2, 0, ⟨#[122]⟩⟩]
theorem ex1 : pGo exL [⟨#[121]⟩] exT1 0 false 0 = (-1, 0) := by decide +kernel
theorem ex2 : pGo exL [⟨#[121]⟩] exT2 0 false 0 = (1, 220) := by decide +kernel
theorem rdL {w : World} {g : Nat} {t : TypeId} (h : w.heap[g]? = some (.cells ([.int .u8 66, .string ⟨#[]⟩, .int .u8 81, .string ⟨#[120]⟩] : List Value).toArray t (0, 0))) : Rd Frm.enc 2 w (some ⟨g, 0, none⟩) 2 exL := Rd.lit Frm.len h rfl rfl (by decide)
theorem rdY {w : World} {g : Nat} {t : TypeId} (h : w.heap[g]? = some (.cells ([.string ⟨#[121]⟩] : List Value).toArray t (0, 0))) : Rd strs 1 w (some ⟨g, 0, none⟩) 1 [⟨#[121]⟩] := Rd.lit strs_len h rfl rfl (by decide)
theorem rdT1 {w : World} {g : Nat} {t : TypeId} (h : w.heap[g]? = some (.cells ([.int .i64 1, .int .i64 0, .string ⟨#[]⟩, .int .i64 2, .int .i64 0, .string ⟨#[121]⟩] : List Value).toArray t (0, 0))) : Rd Rep.enc 3 w (some ⟨g, 0, none⟩) 2 exT1 := Rd.lit Rep.len h rfl rfl (by decide)
theorem rdT2 {w : World} {g : Nat} {t : TypeId} (h : w.heap[g]? = some (.cells ([.int .i64 1, .int .i64 0, .string ⟨#[]⟩, .int .i64 2, .int .i64 0, .string ⟨#[122]⟩] : List Value).toArray t (0, 0))) : Rd Rep.enc 3 w (some ⟨g, 0, none⟩) 2 exT2 := Rd.lit Rep.len h rfl rfl (by decide)
set_option maxHeartbeats 1600000 in
set_option maxRecDepth 100000 in
theorem fits_ex (w : World) : Calls Try.prog 11 #[] w (fun e w' => e = .returned (.bool true) ∧ Below w.heap.size w w') := by
  have HS := Aside0.mk (SH.start w)
  go_enter Try.func11, Try.ntmps11
  go_wp2_with (first | (go_at_call 12; (with_reducible refine (fits_any _ _ _ 2 1 2 exL [⟨#[121]⟩] exT1 _ (rdL (HS.out.blk 0 rfl)) (rdY (HS.out.blk 1 rfl)) (rdT1 (HS.out.blk 2 rfl)) (Nat.le_refl _)).mono ?_); rintro e w2 ⟨rfl, hb⟩; rw [ex1]; have HS1 := HS.out.quiet hb; clear HS hb; have HS := Aside0.mk HS1; clear HS1) | (go_at_call 12; (with_reducible refine (fits_any _ _ _ 2 1 2 exL [⟨#[121]⟩] exT2 _ (rdL (HS.out.blk 0 rfl)) (rdY (HS.out.blk 3 rfl)) (rdT2 (HS.out.blk 4 rfl)) (Nat.le_refl _)).mono ?_); rintro e w2 ⟨rfl, hb⟩; rw [ex2]; have HS1 := HS.out.quiet hb; clear HS hb; have HS := Aside0.mk HS1; clear HS1) | ((with_reducible refine gA rfl ?_); refine sh_alloc HS.out rfl rfl (zeT _ (by decide)) ?_; clear HS; intro g w1 hg HS1; (simp only [Frm.enc, Rep.enc, zeF, segOf, List.toList_toArray, List.cons_append, List.nil_append] at HS1); have HS := Aside0.mk HS1; clear HS1; try simp only [Act.put, List.setIfInBounds_toArray, List.set_cons_zero, List.set_cons_succ]) | ((with_reducible refine gB rfl ?_); (first | refine sh_box HS.out rfl rfl (v := (.agg (List.toArray _))) rfl ?_ | refine sh_box HS.out rfl rfl (v := (.int _ _)) rfl ?_ | refine sh_box HS.out rfl rfl (v := (.slice _ _ _)) rfl ?_ | refine sh_box HS.out rfl rfl (v := (.bool _)) rfl ?_ | refine sh_box HS.out rfl rfl (v := (.pointer _)) rfl ?_ | refine sh_box HS.out rfl rfl (v := (.string _)) rfl ?_ | refine sh_box HS.out rfl rfl (v := (.map _)) rfl ?_ | refine sh_box HS.out rfl rfl (v := (.func _ _ _)) rfl ?_); clear HS; intro g w1 hg HS1; (simp only [Frm.enc, Rep.enc, segOf, List.toList_toArray, List.cons_append, List.nil_append] at HS1); have HS := Aside0.mk HS1; clear HS1; try simp only [Act.put, List.setIfInBounds_toArray, List.set_cons_zero, List.set_cons_succ]) | ((with_reducible refine gL rfl ?_); refine sh_lit HS.out rfl rfl (by go_simp; exact ⟨⟨rfl, rfl⟩, rfl⟩) ?_; clear HS; intro g w1 hg HS1; (simp only [Frm.enc, Rep.enc, segOf, List.toList_toArray, List.cons_append, List.nil_append] at HS1); have HS := Aside0.mk HS1; clear HS1; try simp only [Act.put, List.setIfInBounds_toArray, List.set_cons_zero, List.set_cons_succ]))
  go_ret
  exact ⟨rfl, HS.out.below⟩
set_option maxHeartbeats 1600000 in
set_option maxRecDepth 100000 in
theorem lawFits_any (A B C : Option Addr) (c1 c2 c3 : Nat) (sent : List Frm) (served : List ByteArray) (told : List Rep) (w : World) {N1 N2 N3 : Nat} (hr1 : Rd Frm.enc 2 w A N1 sent) (hr2 : Rd strs 1 w B N2 served) (hr3 : Rd Rep.enc 3 w C N3 told) (hc2 : N2 ≤ c2) :
    Calls Try.prog 4 #[.slice A N1 c1, .slice B N2 c2, .slice C N3 c3] w (fun e w' => e = .returned (.bool true) ∧ Below w.heap.size w w') := by
  obtain rfl := hr1.len.1
  obtain rfl := hr2.len.1
  obtain rfl := hr3.len.1
  have hm1 := hr1.len.2
  have hm2 := hr2.len.2
  have hm3 := hr3.len.2
  have HR1 := Aside0.mk hr1
  have HR2 := Aside0.mk hr2
  have HR3 := Aside0.mk hr3
  clear hr1 hr2 hr3
  obtain ⟨a1, a2, ha⟩ : ∃ a1 a2, pGo sent served told 0 false 0 = (a1, a2) := ⟨_, _, rfl⟩
  have HA := Aside0.mk ha
  have HB := Aside0.mk ((go_eq sent served told 0 false 0).symm.trans ha)
  clear ha
  have HS := Aside0.mk (SH.start w)
  go_enter Try.func4, Try.ntmps4
  have heq1 : (a1 == a1) = true := beq_iff_eq.2 rfl
  have heq2 : (a2 == a2) = true := beq_iff_eq.2 rfl
  by_cases h1 : 1000 < told.length
  · have h1' : decide ((1000 : Int) < (told.length : Int)) = true := by rw [decide_eq_true_eq]; omega
    go_wp2_with (first | (go_at_call 11; (with_reducible refine (fits_ex _).mono ?_); rintro e w2 ⟨rfl, hb⟩;  have HS1 := HS.out.quiet hb; clear HS hb; have HS := Aside0.mk HS1; clear HS1) | ((with_reducible refine gA rfl ?_); refine sh_alloc HS.out rfl rfl (zeT _ (by decide)) ?_; clear HS; intro g w1 hg HS1; (simp only [Frm.enc, Rep.enc, zeF, segOf, List.toList_toArray, List.cons_append, List.nil_append] at HS1); have HS := Aside0.mk HS1; clear HS1; try simp only [Act.put, List.setIfInBounds_toArray, List.set_cons_zero, List.set_cons_succ]) | ((with_reducible refine gB rfl ?_); (first | refine sh_box HS.out rfl rfl (v := (.agg (List.toArray _))) rfl ?_ | refine sh_box HS.out rfl rfl (v := (.int _ _)) rfl ?_ | refine sh_box HS.out rfl rfl (v := (.slice _ _ _)) rfl ?_ | refine sh_box HS.out rfl rfl (v := (.bool _)) rfl ?_ | refine sh_box HS.out rfl rfl (v := (.pointer _)) rfl ?_ | refine sh_box HS.out rfl rfl (v := (.string _)) rfl ?_ | refine sh_box HS.out rfl rfl (v := (.map _)) rfl ?_ | refine sh_box HS.out rfl rfl (v := (.func _ _ _)) rfl ?_); clear HS; intro g w1 hg HS1; (simp only [Frm.enc, Rep.enc, segOf, List.toList_toArray, List.cons_append, List.nil_append] at HS1); have HS := Aside0.mk HS1; clear HS1; try simp only [Act.put, List.setIfInBounds_toArray, List.set_cons_zero, List.set_cons_succ]) | ((with_reducible refine gL rfl ?_); refine sh_lit HS.out rfl rfl (by go_simp; exact ⟨⟨rfl, rfl⟩, rfl⟩) ?_; clear HS; intro g w1 hg HS1; (simp only [Frm.enc, Rep.enc, segOf, List.toList_toArray, List.cons_append, List.nil_append] at HS1); have HS := Aside0.mk HS1; clear HS1; try simp only [Act.put, List.setIfInBounds_toArray, List.set_cons_zero, List.set_cons_succ]))
    go_ret
    exact ⟨rfl, HS.out.below⟩
  · have h1' : decide ((1000 : Int) < (told.length : Int)) = false := by rw [decide_eq_false_iff_not]; omega
    by_cases h2 : 1000 < sent.length
    · have h2' : decide ((1000 : Int) < (sent.length : Int)) = true := by rw [decide_eq_true_eq]; omega
      go_wp2_with (first | (go_at_call 11; (with_reducible refine (fits_ex _).mono ?_); rintro e w2 ⟨rfl, hb⟩;  have HS1 := HS.out.quiet hb; clear HS hb; have HS := Aside0.mk HS1; clear HS1) | ((with_reducible refine gA rfl ?_); refine sh_alloc HS.out rfl rfl (zeT _ (by decide)) ?_; clear HS; intro g w1 hg HS1; (simp only [Frm.enc, Rep.enc, zeF, segOf, List.toList_toArray, List.cons_append, List.nil_append] at HS1); have HS := Aside0.mk HS1; clear HS1; try simp only [Act.put, List.setIfInBounds_toArray, List.set_cons_zero, List.set_cons_succ]) | ((with_reducible refine gB rfl ?_); (first | refine sh_box HS.out rfl rfl (v := (.agg (List.toArray _))) rfl ?_ | refine sh_box HS.out rfl rfl (v := (.int _ _)) rfl ?_ | refine sh_box HS.out rfl rfl (v := (.slice _ _ _)) rfl ?_ | refine sh_box HS.out rfl rfl (v := (.bool _)) rfl ?_ | refine sh_box HS.out rfl rfl (v := (.pointer _)) rfl ?_ | refine sh_box HS.out rfl rfl (v := (.string _)) rfl ?_ | refine sh_box HS.out rfl rfl (v := (.map _)) rfl ?_ | refine sh_box HS.out rfl rfl (v := (.func _ _ _)) rfl ?_); clear HS; intro g w1 hg HS1; (simp only [Frm.enc, Rep.enc, segOf, List.toList_toArray, List.cons_append, List.nil_append] at HS1); have HS := Aside0.mk HS1; clear HS1; try simp only [Act.put, List.setIfInBounds_toArray, List.set_cons_zero, List.set_cons_succ]) | ((with_reducible refine gL rfl ?_); refine sh_lit HS.out rfl rfl (by go_simp; exact ⟨⟨rfl, rfl⟩, rfl⟩) ?_; clear HS; intro g w1 hg HS1; (simp only [Frm.enc, Rep.enc, segOf, List.toList_toArray, List.cons_append, List.nil_append] at HS1); have HS := Aside0.mk HS1; clear HS1; try simp only [Act.put, List.setIfInBounds_toArray, List.set_cons_zero, List.set_cons_succ]))
      go_ret
      exact ⟨rfl, HS.out.below⟩
    · have h2' : decide ((1000 : Int) < (sent.length : Int)) = false := by rw [decide_eq_false_iff_not]; omega
      go_wp2_with (first | (go_at_call 11; (with_reducible refine (fits_ex _).mono ?_); rintro e w2 ⟨rfl, hb⟩;  have HS1 := HS.out.quiet hb; clear HS hb; have HS := Aside0.mk HS1; clear HS1) | (go_at_call 12; (with_reducible refine (fits_any A B C c1 c2 c3 sent served told _ (HR1.out.sh HS.out) (HR2.out.sh HS.out) (HR3.out.sh HS.out) hc2).mono ?_); rintro e w2 ⟨rfl, hb⟩; rw [HA.out]; have HS1 := HS.out.quiet hb; clear HS hb; have HS := Aside0.mk HS1; clear HS1) | (go_at_call 13; (with_reducible refine (refFits_any A B C c1 c2 c3 sent served told _ (HR1.out.sh HS.out) (HR2.out.sh HS.out) (HR3.out.sh HS.out)).mono ?_); rintro e w2 ⟨rfl, hb⟩; rw [HB.out]; have HS1 := HS.out.quiet hb; clear HS hb; have HS := Aside0.mk HS1; clear HS1) | ((with_reducible refine gA rfl ?_); refine sh_alloc HS.out rfl rfl (zeT _ (by decide)) ?_; clear HS; intro g w1 hg HS1; (simp only [Frm.enc, Rep.enc, zeF, segOf, List.toList_toArray, List.cons_append, List.nil_append] at HS1); have HS := Aside0.mk HS1; clear HS1; try simp only [Act.put, List.setIfInBounds_toArray, List.set_cons_zero, List.set_cons_succ]) | ((with_reducible refine gB rfl ?_); (first | refine sh_box HS.out rfl rfl (v := (.agg (List.toArray _))) rfl ?_ | refine sh_box HS.out rfl rfl (v := (.int _ _)) rfl ?_ | refine sh_box HS.out rfl rfl (v := (.slice _ _ _)) rfl ?_ | refine sh_box HS.out rfl rfl (v := (.bool _)) rfl ?_ | refine sh_box HS.out rfl rfl (v := (.pointer _)) rfl ?_ | refine sh_box HS.out rfl rfl (v := (.string _)) rfl ?_ | refine sh_box HS.out rfl rfl (v := (.map _)) rfl ?_ | refine sh_box HS.out rfl rfl (v := (.func _ _ _)) rfl ?_); clear HS; intro g w1 hg HS1; (simp only [Frm.enc, Rep.enc, segOf, List.toList_toArray, List.cons_append, List.nil_append] at HS1); have HS := Aside0.mk HS1; clear HS1; try simp only [Act.put, List.setIfInBounds_toArray, List.set_cons_zero, List.set_cons_succ]) | ((with_reducible refine gL rfl ?_); refine sh_lit HS.out rfl rfl (by go_simp; exact ⟨⟨rfl, rfl⟩, rfl⟩) ?_; clear HS; intro g w1 hg HS1; (simp only [Frm.enc, Rep.enc, segOf, List.toList_toArray, List.cons_append, List.nil_append] at HS1); have HS := Aside0.mk HS1; clear HS1; try simp only [Act.put, List.setIfInBounds_toArray, List.set_cons_zero, List.set_cons_succ]))
      go_ret
      exact ⟨rfl, HS.out.below⟩
namespace LawFits
theorem walk (W : World) (cs0 : List Value) (x0 : frmsS.D) (hk0 : frmsS.kd.K W x0 cs0) (hw0 : frmsS.wf x0) (hz0 : frmsS.sized Try.prog x0) (cs1 : List Value) (x1 : strsS.D) (hk1 : strsS.kd.K W x1 cs1) (hw1 : strsS.wf x1) (hz1 : strsS.sized Try.prog x1) (cs2 : List Value) (x2 : repsS.D) (hk2 : repsS.kd.K W x2 cs2) (hw2 : repsS.wf x2) (hz2 : repsS.sized Try.prog x2) :
    Calls Try.prog 4 #[frmsS.val cs0, strsS.val cs1, repsS.val cs2] W fun e W' => e = .returned (.bool true) ∧ Below W.heap.size W W' := by
  obtain ⟨A, c, rfl, hl, hC⟩ := hk0
  obtain ⟨B, c', rfl, hl', hC'⟩ := hk1
  obtain ⟨C, c'', rfl, hl'', hC''⟩ := hk2
  have h1 := C_map hC toFrm (sz := 2) rfl (fun y cs hy => frmS_K y cs hy)
  have h2 := C_map hC' id (sz := 1) rfl (fun y cs hy => strS_K y cs hy)
  have h3 := C_map hC'' toRep (sz := 3) rfl (fun y cs hy => repS_K y cs hy)
  exact lawFits_any A B C c c' c'' _ _ _ W h1 h2 h3 hl'
end LawFits
end Go.Proofs.Ytkggchahhpmpbaa.Jud
