import Derived.Test.YtddnkbabbobkaaaLec5
import Derived.Test.YtddnkbabbobkaaaLed4
-- ENC: Held.enc, Last.enc
namespace Go.Proofs.Ytddnkbabbobkaaa.Led
open Go.RowKit Go.Proofs.YtddnkbabbobkaaaW.PrintWords Go.Proofs.Ytddnkbabbobkaaa.Sl
set_option linter.unusedVariables false
set_option linter.unusedSimpArgs false
set_option maxHeartbeats 1600000 in
set_option maxRecDepth 100000 in
theorem lawChecks_any (A B : Option Addr) (c c' : Nat) (lim nxt : Int) (l : List Held) (m : List Last) (w : World) (hr : Rd Held.enc 5 w A l.length l) (hr' : Rd Last.enc 6 w B m.length m) (hc : l.length ≤ c)
    (hz : l.length * 40 ≤ 140737488351232) (hz' : m.length * 48 ≤ 140737488351232) (hn : nxt < 18446744073709551616) (hs : ∀ x ∈ m, 0 ≤ x.ans.serial ∧ x.ans.serial < 18446744073709551616) :
    Calls Try.prog 5 #[.agg #[.int .i64 lim, .int .u64 nxt, .slice A l.length c, .slice B m.length c']] w (fun e w' => e = .returned (.bool true) ∧ Below w.heap.size w w') := by
  have HR := Aside0.mk hr
  have HR' := Aside0.mk hr'
  have HSE := Aside0.mk hs
  clear hr hr' hs
  generalize hck : (if isLed lim nxt l m then (0 : Int) else 50) = ck
  have HCR := Aside0.mk hck
  have HCK := Aside0.mk (show (if ckLed lim nxt l m then (0 : Int) else 50) = ck by rw [ck_isLed]; exact hck)
  clear hck
  have HS := Aside0.mk (SH.start w)
  go_enter Try.func5, Try.ntmps5
  go_wp2_with (first | (go_at_call 17; (with_reducible refine (refCopy_any A B c c' lim nxt l m _ (HR.out.sh HS.out) (HR'.out.sh HS.out) hz hz').mono ?_); rintro e w2 ⟨v1, v2, S1, S2, rfl, HS1⟩; obtain ⟨A1, c1, rfl, _, _⟩ := row_rd HS1 0 rfl; obtain ⟨B1, d1, rfl, _, _⟩ := row_rd HS1 1 rfl; have HS2 := HS.out.call HS1; clear HS HS1; simp only [aC, aE] at HS2; have HS := Aside0.mk HS2; clear HS2) | (go_at_call 18; (with_reducible refine (ck_any A1 B1 c1 d1 lim nxt l m _ (row_rds (hl := Held.len) (h1 := Held.one) 1 rfl _ HS.out) (row_rds (hl := Last.len) (h1 := Last.one) 2 rfl _ HS.out) hn HSE.out).mono ?_); rintro e w2 ⟨rfl, hb⟩; rw [HCK.out]; have HS1 := HS.out.quiet hb; clear HS hb; have HS := Aside0.mk HS1; clear HS1) | (go_at_call 18; (with_reducible refine (ck_any none none 0 0 0 0 [] [] _ (Rd.nil _ _ _ _) (Rd.nil _ _ _ _) (by decide) (by simp)).mono ?_); rintro e w2 ⟨rfl, hb⟩; rw [show (if ckLed 0 0 [] [] then (0 : Int) else 50) = 50 from rfl]; have HS1 := HS.out.quiet hb; clear HS hb; have HS := Aside0.mk HS1; clear HS1) | (go_at_call 19; (with_reducible refine (refCk_any A B c c' lim nxt l m _ (HR.out.sh HS.out) (HR'.out.sh HS.out) hc (fun x hx => (HSE.out x hx).1)).mono ?_); rintro e w2 ⟨rfl, hb⟩; rw [HCR.out]; have HS1 := HS.out.quiet hb; clear HS hb; have HS := Aside0.mk HS1; clear HS1) | (go_at_call 14; (with_reducible refine (refSame_eq A1 B1 A B c1 d1 c c' lim nxt l m _ (row_rds (hl := Held.len) (h1 := Held.one) 1 rfl _ HS.out) (row_rds (hl := Last.len) (h1 := Last.one) 2 rfl _ HS.out) (HR.out.sh HS.out) (HR'.out.sh HS.out)).mono ?_); rintro e w2 ⟨rfl, hb⟩;  have HS1 := HS.out.quiet hb; clear HS hb; have HS := Aside0.mk HS1; clear HS1) | ((with_reducible refine gA rfl ?_); refine sh_alloc HS.out rfl rfl (zeT _ (by decide)) ?_; clear HS; intro g w1 hg HS1; (simp only [Held.enc, Last.enc, zeF, segOf, aL, aC, aE] at HS1); have HS := Aside0.mk HS1; clear HS1; try simp only [aP, aN, aT, aZ, aS]) | ((with_reducible refine gB rfl ?_); refine bx HS.out rfl rfl ?_; (first | refine bv (v := .agg (List.toArray _)) rfl ?_ | refine bv (v := .int _ _) rfl ?_ | refine bv (v := .slice _ _ _) rfl ?_ | refine bv (v := .bool _) rfl ?_ | refine bv (v := .pointer _) rfl ?_ | refine bv (v := .string _) rfl ?_ | refine bv (v := .map _) rfl ?_ | refine bv (v := .func _ _ _) rfl ?_); clear HS; intro g w1 hg HS1; (simp only [Held.enc, Last.enc, segOf, aL, aC, aE] at HS1); have HS := Aside0.mk HS1; clear HS1; try simp only [aP, aN, aT, aZ, aS]) | ((with_reducible refine gL rfl ?_); refine sh_lit HS.out rfl rfl (by go_simp; exact ⟨⟨rfl, rfl⟩, rfl⟩) ?_; clear HS; intro g w1 hg HS1; (simp only [Held.enc, Last.enc, segOf, aL, aC, aE] at HS1); have HS := Aside0.mk HS1; clear HS1; try simp only [aP, aN, aT, aZ, aS]) | ((with_reducible refine gLd rfl ?_); (first | refine ld1 HS.out rfl rfl rfl 0 rfl ?_ | refine ld1 HS.out rfl rfl rfl 1 rfl ?_ | refine ld1 HS.out rfl rfl rfl 2 rfl ?_ | refine ld1 HS.out rfl rfl rfl 3 rfl ?_); (first | (refine LdK.one ((agT _ (by decide)).trans rfl) rfl ?_; try simp only [aP, aN, aT, aZ, aS]) | (refine LdK.agg ((agT _ (by decide)).trans rfl) (szT _ (by decide)) (lb rfl) ?_; try simp only [szL, aP, aN, aT, aZ, aS, aD, aF, aJ, aK, aM, aO]))) | ((with_reducible refine gSt rfl ?_); (first | refine st1 HS.out rfl rfl rfl rfl 0 rfl ?_ | refine st1 HS.out rfl rfl rfl rfl 1 rfl ?_ | refine st1 HS.out rfl rfl rfl rfl 2 rfl ?_ | refine st1 HS.out rfl rfl rfl rfl 3 rfl ?_); (first | refine sv (u := .agg (List.toArray _)) rfl ?_ | refine sv (u := .int _ _) rfl ?_ | refine sv (u := .slice _ _ _) rfl ?_ | refine sv (u := .bool _) rfl ?_ | refine sv (u := .pointer _) rfl ?_ | refine sv (u := .string _) rfl ?_ | refine sv (u := .map _) rfl ?_ | refine sv (u := .func _ _ _) rfl ?_); refine sw (szT _ (by decide)) rfl (lb rfl) ?_; clear HS; intro w1 HS1; (simp only [Held.enc, Last.enc, segOf, aL, aZ, aS, putSeg] at HS1); have HS := Aside0.mk HS1; clear HS1; try simp only [aP, aN, aT, aZ, aS]))
  go_ret
  exact ⟨rfl, HS.out.below⟩
theorem u64_range {n : Int} (h : (Lit.int .u64 n).wf = true) : 0 ≤ n ∧ n < 18446744073709551616 := by
  simp only [Lit.wf, IntKind.min, IntKind.max, IntKind.signed, IntKind.bits, Bool.and_eq_true, decide_eq_true_eq, Bool.false_eq_true, if_false] at h
  omega
namespace LawChecks
theorem walk (W : World) (cs0 : List Value) (x0 : ledS.D) (hk0 : ledS.kd.K W x0 cs0) (hw0 : ledS.wf x0) (hz0 : ledS.sized Try.prog x0) :
    Calls Try.prog 5 #[ledS.val cs0] W fun e W' => e = .returned (.bool true) ∧ Below W.heap.size W W' := by
  obtain ⟨A, B, c, c', l, m, rfl, hl, hm, hr, hr', hc, _, hz, hz'⟩ := ledS_open hk0 hz0
  obtain ⟨_, h1, _, h3, _⟩ := hw0
  have hn := (u64_range h1).2
  refine lawChecks_any A B c c' x0.1 x0.2.1 l m W hr hr' hc hz hz' hn ?_
  subst hm
  intro x hx
  obtain ⟨y, hy, rfl⟩ := List.mem_map.1 hx
  obtain ⟨_, _, _, ⟨_, _, h4, _⟩, _⟩ := h3.2 y hy
  exact u64_range h4
end LawChecks
end Go.Proofs.Ytddnkbabbobkaaa.Led
