import Derived.Test.YtkggchahhpmpbaaJue7
import Derived.Test.YtkggchahhpmpbaaOp
-- ENC: Seen.enc
namespace Go.Proofs.Ytkggchahhpmpbaa.Jue
open Go.RowKit Go.Proofs.YtkggchahhpmpbaaW.PrintWords Go.Proofs.Ytkggchahhpmpbaa.Sl
set_option linter.unusedVariables false
set_option linter.unusedSimpArgs false
/-! The law JudgeJudges. -/
set_option maxHeartbeats 3200000 in
set_option maxRecDepth 100000 in
theorem lawJudges_any (A : Option Addr) (N c : Nat) (lim : Int) (l : List Seen) (w : World) (hr : Rd Seen.enc 3 w A N l) (hNc : N ≤ c) :
    Calls Try.prog 3 #[.int .i64 lim, .slice A N c] w (fun e w' => e = .returned (.bool true) ∧ Below w.heap.size w w') := by
  obtain rfl := hr.len.1
  have hm := hr.len.2
  have HR := Aside0.mk hr
  clear hr
  have HS := Aside0.mk (SH.start w)
  obtain ⟨z, hz⟩ : ∃ z, judgeS lim l [] 0 = z := ⟨_, rfl⟩
  have HZ := Aside0.mk hz
  clear hz
  have heq1 : (z.1 == z.1) = true := beq_self_eq_true _
  have heq2 : (z.2 == z.2) = true := beq_self_eq_true _
  go_enter Try.func3, Try.ntmps3
  by_cases h1 : 300 < l.length
  · have h1' : decide ((300 : Int) < (l.length : Int)) = true := by rw [decide_eq_true_eq]; omega
    go_wp2_with (first | (go_at_call 8; (with_reducible refine (judges_ex _).mono ?_); rintro e w2 ⟨rfl, hb⟩;  have HS1 := HS.out.quiet hb; clear HS hb; have HS := Aside0.mk HS1; clear HS1) | ((first | ((first | ((with_reducible refine gA rfl ?_); refine sh_alloc HS.out rfl rfl (zeT _ (by decide)) ?_) | ((with_reducible refine gB rfl ?_); refine bx HS.out rfl rfl ?_; first | refine bv (v := .agg (List.toArray _)) rfl ?_ | refine bv (v := .int _ _) rfl ?_ | refine bv (v := .slice _ _ _) rfl ?_ | refine bv (v := .bool _) rfl ?_ | refine bv (v := .pointer _) rfl ?_ | refine bv (v := .string _) rfl ?_ | refine bv (v := .map _) rfl ?_ | refine bv (v := .func _ _ _) rfl ?_) | ((with_reducible refine gL rfl ?_); refine sh_lit HS.out rfl rfl (by go_simp; exact ⟨⟨rfl, rfl⟩, rfl⟩) ?_)); clear HS; intro g w1 hg HS1; (simp only [Seen.enc, zeF, segOf, aL, aC, aE] at HS1); have HS := Aside0.mk HS1; clear HS1)); try simp only [aP, aN, aT, aZ, aS]))
    go_ret
    exact ⟨rfl, HS.out.below⟩
  · have h1' : decide ((300 : Int) < (l.length : Int)) = false := by rw [decide_eq_false_iff_not]; omega
    go_upto_region 4 with (first | ((with_reducible refine gC (b := .append) rfl ?_); refine sh_append_nil Seen.len Seen.one HS.out rfl rfl rfl rfl (HR.out.sh HS.out) Try.underlying22 infoSeen rfl (by decide) (by decide) (by omega) ?_; clear HS; intro v1 w1 S1 HS1; (simp only [aC, aE] at HS1); have HS := Aside0.mk HS1; clear HS1; try simp only [aP, aN, aT, aZ, aS]; obtain ⟨A1, c1, rfl, hc1, _⟩ := row_rd HS.out 0 rfl) | ((first | ((first | ((with_reducible refine gA rfl ?_); refine sh_alloc HS.out rfl rfl (zeT _ (by decide)) ?_) | ((with_reducible refine gB rfl ?_); refine bx HS.out rfl rfl ?_; first | refine bv (v := .agg (List.toArray _)) rfl ?_ | refine bv (v := .int _ _) rfl ?_ | refine bv (v := .slice _ _ _) rfl ?_ | refine bv (v := .bool _) rfl ?_ | refine bv (v := .pointer _) rfl ?_ | refine bv (v := .string _) rfl ?_ | refine bv (v := .map _) rfl ?_ | refine bv (v := .func _ _ _) rfl ?_) | ((with_reducible refine gL rfl ?_); refine sh_lit HS.out rfl rfl (by go_simp; exact ⟨⟨rfl, rfl⟩, rfl⟩) ?_)); clear HS; intro g w1 hg HS1; (simp only [Seen.enc, zeF, segOf, aL, aC, aE] at HS1); have HS := Aside0.mk HS1; clear HS1)); try simp only [aP, aN, aT, aZ, aS]))
    have hc1 : l.length ≤ c1 := by
      obtain ⟨A2, c2, he, h, _⟩ := row_rd HS.out 0 rfl
      simp only [Value.slice.injEq] at he
      omega
    go_upto_region 6 with (first | (go_at_call 9; (with_reducible refine (judge_at A1 _ c1 lim l z _ (row_rds (hl := Seen.len) (h1 := Seen.one) 0 rfl _ HS.out) HZ.out).mono ?_); rintro e w2 ⟨rfl, hb⟩;  have HS1 := HS.out.quiet hb; clear HS hb; have HS := Aside0.mk HS1; clear HS1) | (go_at_call 10; (with_reducible refine (refJudge_at A l.length c lim l z _ (HR.out.sh HS.out) (by omega) hNc HZ.out).mono ?_); rintro e w2 ⟨rfl, hb⟩;  have HS1 := HS.out.quiet hb; clear HS hb; have HS := Aside0.mk HS1; clear HS1) | ((first | ((first | ((with_reducible refine gA rfl ?_); refine sh_alloc HS.out rfl rfl (zeT _ (by decide)) ?_) | ((with_reducible refine gB rfl ?_); refine bx HS.out rfl rfl ?_; first | refine bv (v := .agg (List.toArray _)) rfl ?_ | refine bv (v := .int _ _) rfl ?_ | refine bv (v := .slice _ _ _) rfl ?_ | refine bv (v := .bool _) rfl ?_ | refine bv (v := .pointer _) rfl ?_ | refine bv (v := .string _) rfl ?_ | refine bv (v := .map _) rfl ?_ | refine bv (v := .func _ _ _) rfl ?_) | ((with_reducible refine gL rfl ?_); refine sh_lit HS.out rfl rfl (by go_simp; exact ⟨⟨rfl, rfl⟩, rfl⟩) ?_)); clear HS; intro g w1 hg HS1; (simp only [Seen.enc, zeF, segOf, aL, aC, aE] at HS1); have HS := Aside0.mk HS1; clear HS1)); try simp only [aP, aN, aT, aZ, aS]))
    go_wp2_with (first | ((first | ((first | ((with_reducible refine gA rfl ?_); refine sh_alloc HS.out rfl rfl (zeT _ (by decide)) ?_) | ((with_reducible refine gB rfl ?_); refine bx HS.out rfl rfl ?_; first | refine bv (v := .agg (List.toArray _)) rfl ?_ | refine bv (v := .int _ _) rfl ?_ | refine bv (v := .slice _ _ _) rfl ?_ | refine bv (v := .bool _) rfl ?_ | refine bv (v := .pointer _) rfl ?_ | refine bv (v := .string _) rfl ?_ | refine bv (v := .map _) rfl ?_ | refine bv (v := .func _ _ _) rfl ?_) | ((with_reducible refine gL rfl ?_); refine sh_lit HS.out rfl rfl (by go_simp; exact ⟨⟨rfl, rfl⟩, rfl⟩) ?_)); clear HS; intro g w1 hg HS1; (simp only [Seen.enc, zeF, segOf, aL, aC, aE] at HS1); have HS := Aside0.mk HS1; clear HS1)); try simp only [aP, aN, aT, aZ, aS]))
    go_loopw [10, 31] (fun _ v31 wr => ∃ (k : Nat), k ≤ l.length ∧ v31 = .int .i64 k ∧ Aside0 (SH w wr [row (flk Seen.enc 3 Seen.len Seen.one) 28 (.slice A1 l.length c1) l S1])) (fun _ v31 _ => l.length - (intOf v31).toNat)
    case atStart => exact ⟨0, Nat.zero_le _, rfl, HS⟩
    case round =>
      clear HS
      obtain ⟨k, hk, rfl, HS⟩ := hrel
      by_cases hlt : k < l.length
      · obtain ⟨ad1, rfl⟩ := HR.out.addr (by omega)
        obtain ⟨ad2, rfl⟩ := (row_rds (hl := Seen.len) (h1 := Seen.one) 0 rfl _ HS.out).addr (by omega)
        have HR1 := Aside0.mk (HR.out.rds [row (flk Seen.enc 3 Seen.len Seen.one) 28 (.slice (some ad2) l.length c1) l S1])
        have HR2 := Aside0.mk (row_rds (w0 := w) (is := [row (flk Seen.enc 3 Seen.len Seen.one) 28 (.slice (some ad2) l.length c1) l S1]) (hl := Seen.len) (h1 := Seen.one) 0 rfl)
        go_upto_region 9 with (first | ((first | ((first | ((with_reducible refine gA rfl ?_); refine sh_alloc HS.out rfl rfl (zeT _ (by decide)) ?_) | ((with_reducible refine gB rfl ?_); refine bx HS.out rfl rfl ?_; first | refine bv (v := .agg (List.toArray _)) rfl ?_ | refine bv (v := .int _ _) rfl ?_ | refine bv (v := .slice _ _ _) rfl ?_ | refine bv (v := .bool _) rfl ?_ | refine bv (v := .pointer _) rfl ?_ | refine bv (v := .string _) rfl ?_ | refine bv (v := .map _) rfl ?_ | refine bv (v := .func _ _ _) rfl ?_) | ((with_reducible refine gL rfl ?_); refine sh_lit HS.out rfl rfl (by go_simp; exact ⟨⟨rfl, rfl⟩, rfl⟩) ?_)); clear HS; intro g w1 hg HS1; (simp only [Seen.enc, zeF, segOf, aL, aC, aE] at HS1); have HS := Aside0.mk HS1; clear HS1)); try simp only [aP, aN, aT, aZ, aS]))
        ((with_reducible refine wp_region_sh mixed (by kernel_rfl) HS.out ?_); (repeat' (first | go_big_quiet_skip | ((with_reducible refine qMv rfl ?_); go_big_quiet_step (fail)) | ((with_reducible refine qAs rfl ?_); go_big_quiet_step (fail)) | ((with_reducible refine qPk rfl ?_); go_big_quiet_step (fail)) | ((with_reducible refine qLd rfl ?_); refine q_rd HR1.out rfl rfl (i := k) rfl hlt default Seen.len ((agT _ (by decide)).trans rfl) (szT _ (by decide)) ?_; (try simp only [Seen.enc, aP, aN, aT, aZ, aS])) | ((with_reducible refine qLd rfl ?_); refine q_rd HR2.out rfl rfl (i := k) rfl hlt default Seen.len ((agT _ (by decide)).trans rfl) (szT _ (by decide)) ?_; (try simp only [Seen.enc, aP, aN, aT, aZ, aS])) | ((with_reducible refine qAny ?_); refine q_val rfl (fun w hs => by (repeat (rename ∀ (_ : Act) (_ : World), _ => hK9; clear hK9)); go_simp; rfl) ?_; try simp only [aP, aN, aT, aZ, aS]))); all_goals (refine wpQuiet_nil ?_; clear HS; intro w1 HS1; have HS := Aside0.mk HS1; clear HS1))
        go_wp2_with (first | ((first | ((first | ((with_reducible refine gA rfl ?_); refine sh_alloc HS.out rfl rfl (zeT _ (by decide)) ?_) | ((with_reducible refine gB rfl ?_); refine bx HS.out rfl rfl ?_; first | refine bv (v := .agg (List.toArray _)) rfl ?_ | refine bv (v := .int _ _) rfl ?_ | refine bv (v := .slice _ _ _) rfl ?_ | refine bv (v := .bool _) rfl ?_ | refine bv (v := .pointer _) rfl ?_ | refine bv (v := .string _) rfl ?_ | refine bv (v := .map _) rfl ?_ | refine bv (v := .func _ _ _) rfl ?_) | ((with_reducible refine gL rfl ?_); refine sh_lit HS.out rfl rfl (by go_simp; exact ⟨⟨rfl, rfl⟩, rfl⟩) ?_)); clear HS; intro g w1 hg HS1; (simp only [Seen.enc, zeF, segOf, aL, aC, aE] at HS1); have HS := Aside0.mk HS1; clear HS1)); try simp only [aP, aN, aT, aZ, aS]))
        go_roundw
        case rel => exact ⟨k + 1, by omega, by go_num, HS⟩
        case measure => simp [intOf]; omega
      · obtain rfl : k = l.length := by omega
        go_wp2_with (first | (go_at_call 8; (with_reducible refine (judges_ex _).mono ?_); rintro e w2 ⟨rfl, hb⟩;  have HS1 := HS.out.quiet hb; clear HS hb; have HS := Aside0.mk HS1; clear HS1) | ((first | ((first | ((with_reducible refine gA rfl ?_); refine sh_alloc HS.out rfl rfl (zeT _ (by decide)) ?_) | ((with_reducible refine gB rfl ?_); refine bx HS.out rfl rfl ?_; first | refine bv (v := .agg (List.toArray _)) rfl ?_ | refine bv (v := .int _ _) rfl ?_ | refine bv (v := .slice _ _ _) rfl ?_ | refine bv (v := .bool _) rfl ?_ | refine bv (v := .pointer _) rfl ?_ | refine bv (v := .string _) rfl ?_ | refine bv (v := .map _) rfl ?_ | refine bv (v := .func _ _ _) rfl ?_) | ((with_reducible refine gL rfl ?_); refine sh_lit HS.out rfl rfl (by go_simp; exact ⟨⟨rfl, rfl⟩, rfl⟩) ?_)); clear HS; intro g w1 hg HS1; (simp only [Seen.enc, zeF, segOf, aL, aC, aE] at HS1); have HS := Aside0.mk HS1; clear HS1)); try simp only [aP, aN, aT, aZ, aS]))
        go_ret
        exact ⟨rfl, HS.out.below⟩
/-! ### the row's shapes -/
def seenS : Sh := .st (.cons (.int .i64) (.cons (.int .i64) (.cons (.int .i64) .nil)))
def seensS : Sh := .slice 28 seenS
def toSeen (x : seenS.D) : Seen := ⟨x.1, x.2.1, x.2.2.1⟩
theorem seenS_K {w : World} (x : seenS.D) (cs : List Value) (h : seenS.kd.K w x cs) : cs = (toSeen x).enc := by
  obtain ⟨c1, r1, rfl, h1, h2⟩ := h
  obtain ⟨c2, r2, rfl, h3, h4⟩ := h2
  obtain ⟨c3, r3, rfl, h5, h6⟩ := h4
  obtain rfl : c1 = [.int .i64 x.1] := h1
  obtain rfl : c2 = [.int .i64 x.2.1] := h3
  obtain rfl : c3 = [.int .i64 x.2.2.1] := h5
  obtain rfl : r3 = [] := h6
  rfl
namespace LawJudges
theorem walk (W : World) (cs0 : List Value) (x0 : (Sh.int .i64).D) (hk0 : (Sh.int .i64).kd.K W x0 cs0) (hw0 : (Sh.int .i64).wf x0) (hz0 : (Sh.int .i64).sized Try.prog x0) (cs1 : List Value) (x1 : seensS.D) (hk1 : seensS.kd.K W x1 cs1) (hw1 : seensS.wf x1) (hz1 : seensS.sized Try.prog x1) :
    Calls Try.prog 3 #[(Sh.int .i64).val cs0, seensS.val cs1] W fun e W' => e = .returned (.bool true) ∧ Below W.heap.size W W' := by
  obtain rfl : cs0 = [.int .i64 x0] := hk0
  obtain ⟨A, c, rfl, hl, hC⟩ := hk1
  have h1 := C_map hC toSeen (sz := 3) rfl (fun y cs hy => seenS_K y cs hy)
  exact lawJudges_any A _ c x0 _ W h1 hl
end LawJudges
end Go.Proofs.Ytkggchahhpmpbaa.Jue
