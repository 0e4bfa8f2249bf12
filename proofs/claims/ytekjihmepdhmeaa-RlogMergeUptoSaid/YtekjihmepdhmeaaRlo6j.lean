import Derived.Test.YtekjihmepdhmeaaRlo5j
import Derived.Test.YtekjihmepdhmeaaSlXq
/- Lemmas towards the law: what of the text Rlo6 it needs. -/
namespace Go.Proofs.Ytekjihmepdhmeaa.Rlo
open Go.RowKit Go.Proofs.YtekjihmepdhmeaaW.PrintWords Go.Proofs.Ytekjihmepdhmeaa.Sl
set_option linter.unusedVariables false
set_option linter.unusedSimpArgs false
theorem good_any (d : Hrd) (w : World) (hk : d.ok w) : Calls Try.prog 37 #[.agg #[.int .u64 d.boot, .int .u64 d.term, .int .i64 d.vote, .int .u64 d.s.si, .int .u64 d.s.st, .slice d.s.nA d.s.nodes.length d.s.nc, .int .i64 d.s.lim, .int .u64 d.s.nxt, .slice d.s.hA d.s.held.length d.s.hc, .slice d.s.lA d.s.last.length d.s.lc, .slice d.gA d.log.length d.gc]] w (fun e w' => e = .returned (.bool (hardOk d)) ∧ Below w.heap.size w w') := by
  have HK := Aside0.mk hk
  clear hk
  have HS := Aside0.mk (SH.start w)
  cases hg : hardOk d
  all_goals
    have HG := Aside0.mk hg
    clear hg
    go_enter Try.func37, Try.ntmps37
    go_wp2_with (first | (go_at_call 32; (with_reducible refine (hardCk_any d _ (HK.out.sh HS.out)).mono ?_); rintro e w2 ⟨rfl, hb⟩; rw [HG.out]; have HS1 := HS.out.quiet hb; clear HS hb; have HS := Aside0.mk HS1; clear HS1) | ((first | ((first | ((with_reducible refine gA rfl ?_); refine sh_alloc HS.out rfl rfl (zeT _ (by decide)) ?_) | ((with_reducible refine gB rfl ?_); refine bx HS.out rfl rfl ?_; first | refine bv (v := .agg (List.toArray _)) rfl ?_ | refine bv (v := .int _ _) rfl ?_ | refine bv (v := .slice _ _ _) rfl ?_ | refine bv (v := .bool _) rfl ?_ | refine bv (v := .pointer _) rfl ?_) | ((with_reducible refine gL rfl ?_); refine sh_lit HS.out rfl rfl (by go_simp; exact ⟨⟨rfl, rfl⟩, rfl⟩) ?_)); clear HS; intro g w1 hg HS1; (simp only [Ent.enc, zeF, segOf, aL, aC, aE] at HS1); have HS := Aside0.mk HS1; clear HS1) | ((with_reducible refine gLd rfl ?_); refine ld2 HS.out rfl rfl rfl (by repeat (first | exact AtI.here | apply AtI.there)) ?_; (first | refine LdK.one ((agT _ (by decide)).trans rfl) rfl ?_ | (refine LdK.agg ((agT _ (by decide)).trans rfl) (szT _ (by decide)) (lb rfl) ?_; try simp only [szL, aP, aN, aT, aZ, aS, aD, aF, aJ, aK, aM, aO]))) | ((with_reducible refine gSt rfl ?_); refine st2 HS.out rfl rfl rfl rfl (by repeat (first | exact AtI.here | apply AtI.there)) ?_; (first | refine sv (u := .agg (List.toArray _)) rfl ?_ | refine sv (u := .int _ _) rfl ?_ | refine sv (u := .slice _ _ _) rfl ?_ | refine sv (u := .bool _) rfl ?_ | refine sv (u := .pointer _) rfl ?_); refine sw (szT _ (by decide)) rfl (lb rfl) ?_; clear HS; intro w1 HS1; (simp only [Ent.enc, segOf, aL, aZ, aS, putSeg] at HS1); have HS := Aside0.mk HS1; clear HS1)); try simp only [aP, aN, aT, aZ, aS]))
    go_ret
    exact ⟨rfl, HS.out.below⟩
theorem refGood_any (d : Hrd) (w : World) (hk : d.ok w) : Calls Try.prog 39 #[.agg #[.int .u64 d.boot, .int .u64 d.term, .int .i64 d.vote, .int .u64 d.s.si, .int .u64 d.s.st, .slice d.s.nA d.s.nodes.length d.s.nc, .int .i64 d.s.lim, .int .u64 d.s.nxt, .slice d.s.hA d.s.held.length d.s.hc, .slice d.s.lA d.s.last.length d.s.lc, .slice d.gA d.log.length d.gc]] w (fun e w' => e = .returned (.bool (hardOk d)) ∧ Below w.heap.size w w') := by
  have HK := Aside0.mk hk
  clear hk
  have HS := Aside0.mk (SH.start w)
  cases hg : hardOk d
  all_goals
    have HG := Aside0.mk hg
    clear hg
    go_enter Try.func39, Try.ntmps39
    go_wp2_with (first | (go_at_call 63; (with_reducible refine (refHard_any d _ (HK.out.sh HS.out)).mono ?_); rintro e w2 ⟨rfl, hb⟩; rw [HG.out]; have HS1 := HS.out.quiet hb; clear HS hb; have HS := Aside0.mk HS1; clear HS1) | ((first | ((first | ((with_reducible refine gA rfl ?_); refine sh_alloc HS.out rfl rfl (zeT _ (by decide)) ?_) | ((with_reducible refine gB rfl ?_); refine bx HS.out rfl rfl ?_; first | refine bv (v := .agg (List.toArray _)) rfl ?_ | refine bv (v := .int _ _) rfl ?_ | refine bv (v := .slice _ _ _) rfl ?_ | refine bv (v := .bool _) rfl ?_ | refine bv (v := .pointer _) rfl ?_) | ((with_reducible refine gL rfl ?_); refine sh_lit HS.out rfl rfl (by go_simp; exact ⟨⟨rfl, rfl⟩, rfl⟩) ?_)); clear HS; intro g w1 hg HS1; (simp only [Ent.enc, zeF, segOf, aL, aC, aE] at HS1); have HS := Aside0.mk HS1; clear HS1) | ((with_reducible refine gLd rfl ?_); refine ld2 HS.out rfl rfl rfl (by repeat (first | exact AtI.here | apply AtI.there)) ?_; (first | refine LdK.one ((agT _ (by decide)).trans rfl) rfl ?_ | (refine LdK.agg ((agT _ (by decide)).trans rfl) (szT _ (by decide)) (lb rfl) ?_; try simp only [szL, aP, aN, aT, aZ, aS, aD, aF, aJ, aK, aM, aO]))) | ((with_reducible refine gSt rfl ?_); refine st2 HS.out rfl rfl rfl rfl (by repeat (first | exact AtI.here | apply AtI.there)) ?_; (first | refine sv (u := .agg (List.toArray _)) rfl ?_ | refine sv (u := .int _ _) rfl ?_ | refine sv (u := .slice _ _ _) rfl ?_ | refine sv (u := .bool _) rfl ?_ | refine sv (u := .pointer _) rfl ?_); refine sw (szT _ (by decide)) rfl (lb rfl) ?_; clear HS; intro w1 HS1; (simp only [Ent.enc, segOf, aL, aZ, aS, putSeg] at HS1); have HS := Aside0.mk HS1; clear HS1)); try simp only [aP, aN, aT, aZ, aS]))
    go_ret
    exact ⟨rfl, HS.out.below⟩
theorem rlast' (d : Hrd) (w : World) (hk : d.ok w) : Calls Try.prog 41 #[.agg #[.int .u64 d.boot, .int .u64 d.term, .int .i64 d.vote, .int .u64 d.s.si, .int .u64 d.s.st, .slice d.s.nA d.s.nodes.length d.s.nc, .int .i64 d.s.lim, .int .u64 d.s.nxt, .slice d.s.hA d.s.held.length d.s.hc, .slice d.s.lA d.s.last.length d.s.lc, .slice d.gA d.log.length d.gc]] w (fun e w' => e = .returned (.int .u64 (lastOf d)) ∧ Below w.heap.size w w') := rlast_any d w hk
set_option maxHeartbeats 800000 in
theorem term_any (d : Hrd) (i : Int) (w : World) (hk : d.ok w) (hg : hardOk d = true) (hi : ln i) : Calls Try.prog 38 #[.agg #[.int .u64 d.boot, .int .u64 d.term, .int .i64 d.vote, .int .u64 d.s.si, .int .u64 d.s.st, .slice d.s.nA d.s.nodes.length d.s.nc, .int .i64 d.s.lim, .int .u64 d.s.nxt, .slice d.s.hA d.s.held.length d.s.hc, .slice d.s.lA d.s.last.length d.s.lc, .slice d.gA d.log.length d.gc], .int .u64 i] w (fun e w' => e = .returned (.tuple #[.int .u64 (termOf d i).1, .bool (termOf d i).2]) ∧ Below w.heap.size w w') := by
  obtain ⟨hl, hl2⟩ := hardOk_last hk hg
  have h0 := hk.s.si.1
  have hi0 := hi.1
  have HK := Aside0.mk hk
  have hm := hk.rg.len.2
  clear hk hg
  have HLO := Aside0.mk hl
  have HS := Aside0.mk (SH.start w)
  by_cases h1 : i = d.s.si
  · have hto : termOf d i = (d.s.st, true) := by unfold termOf; rw [if_pos h1]
    have f1 : (i == d.s.si) = true := beq_iff_eq.2 h1
    have HE := Aside0.mk (And.intro hto h1)
    clear hto h1
    go_enter Try.func38, Try.ntmps38
    go_wp2_with (first | (go_at_call 41; (with_reducible refine (rlast' d _ (HK.out.sh HS.out)).mono ?_); rintro e w2 ⟨rfl, hb⟩; rw [HLO.out]; have HS1 := HS.out.quiet hb; clear HS hb; have HS := Aside0.mk HS1; clear HS1) | ((first | ((first | ((with_reducible refine gA rfl ?_); refine sh_alloc HS.out rfl rfl (zeT _ (by decide)) ?_) | ((with_reducible refine gB rfl ?_); refine bx HS.out rfl rfl ?_; first | refine bv (v := .agg (List.toArray _)) rfl ?_ | refine bv (v := .int _ _) rfl ?_ | refine bv (v := .slice _ _ _) rfl ?_ | refine bv (v := .bool _) rfl ?_ | refine bv (v := .pointer _) rfl ?_) | ((with_reducible refine gL rfl ?_); refine sh_lit HS.out rfl rfl (by go_simp; exact ⟨⟨rfl, rfl⟩, rfl⟩) ?_)); clear HS; intro g w1 hg HS1; (simp only [Ent.enc, zeF, segOf, aL, aC, aE] at HS1); have HS := Aside0.mk HS1; clear HS1) | ((with_reducible refine gLd rfl ?_); refine ld2 HS.out rfl rfl rfl (by repeat (first | exact AtI.here | apply AtI.there)) ?_; (first | refine LdK.one ((agT _ (by decide)).trans rfl) rfl ?_ | (refine LdK.agg ((agT _ (by decide)).trans rfl) (szT _ (by decide)) (lb rfl) ?_; try simp only [szL, aP, aN, aT, aZ, aS, aD, aF, aJ, aK, aM, aO]))) | ((with_reducible refine gSt rfl ?_); refine st2 HS.out rfl rfl rfl rfl (by repeat (first | exact AtI.here | apply AtI.there)) ?_; (first | refine sv (u := .agg (List.toArray _)) rfl ?_ | refine sv (u := .int _ _) rfl ?_ | refine sv (u := .slice _ _ _) rfl ?_ | refine sv (u := .bool _) rfl ?_ | refine sv (u := .pointer _) rfl ?_); refine sw (szT _ (by decide)) rfl (lb rfl) ?_; clear HS; intro w1 HS1; (simp only [Ent.enc, segOf, aL, aZ, aS, putSeg] at HS1); have HS := Aside0.mk HS1; clear HS1)); try simp only [aP, aN, aT, aZ, aS]))
    go_ret2
    exact ⟨by rw [HE.out.1]; rfl, HS.out.below⟩
  · have f1 : (i == d.s.si) = false := beq_eq_false_iff_ne.2 h1
    by_cases h2 : i < d.s.si ∨ lastOf d < i
    · have hto : termOf d i = (0, false) := by unfold termOf; rw [if_neg h1, if_pos h2]
      have HE := Aside0.mk hto
      clear hto h1
      by_cases h3 : i < d.s.si
      · have f2 : decide (i < d.s.si) = true := by rw [decide_eq_true_eq]; exact h3
        go_enter Try.func38, Try.ntmps38
        go_wp2_with (first | (go_at_call 41; (with_reducible refine (rlast' d _ (HK.out.sh HS.out)).mono ?_); rintro e w2 ⟨rfl, hb⟩; rw [HLO.out]; have HS1 := HS.out.quiet hb; clear HS hb; have HS := Aside0.mk HS1; clear HS1) | ((first | ((first | ((with_reducible refine gA rfl ?_); refine sh_alloc HS.out rfl rfl (zeT _ (by decide)) ?_) | ((with_reducible refine gB rfl ?_); refine bx HS.out rfl rfl ?_; first | refine bv (v := .agg (List.toArray _)) rfl ?_ | refine bv (v := .int _ _) rfl ?_ | refine bv (v := .slice _ _ _) rfl ?_ | refine bv (v := .bool _) rfl ?_ | refine bv (v := .pointer _) rfl ?_) | ((with_reducible refine gL rfl ?_); refine sh_lit HS.out rfl rfl (by go_simp; exact ⟨⟨rfl, rfl⟩, rfl⟩) ?_)); clear HS; intro g w1 hg HS1; (simp only [Ent.enc, zeF, segOf, aL, aC, aE] at HS1); have HS := Aside0.mk HS1; clear HS1) | ((with_reducible refine gLd rfl ?_); refine ld2 HS.out rfl rfl rfl (by repeat (first | exact AtI.here | apply AtI.there)) ?_; (first | refine LdK.one ((agT _ (by decide)).trans rfl) rfl ?_ | (refine LdK.agg ((agT _ (by decide)).trans rfl) (szT _ (by decide)) (lb rfl) ?_; try simp only [szL, aP, aN, aT, aZ, aS, aD, aF, aJ, aK, aM, aO]))) | ((with_reducible refine gSt rfl ?_); refine st2 HS.out rfl rfl rfl rfl (by repeat (first | exact AtI.here | apply AtI.there)) ?_; (first | refine sv (u := .agg (List.toArray _)) rfl ?_ | refine sv (u := .int _ _) rfl ?_ | refine sv (u := .slice _ _ _) rfl ?_ | refine sv (u := .bool _) rfl ?_ | refine sv (u := .pointer _) rfl ?_); refine sw (szT _ (by decide)) rfl (lb rfl) ?_; clear HS; intro w1 HS1; (simp only [Ent.enc, segOf, aL, aZ, aS, putSeg] at HS1); have HS := Aside0.mk HS1; clear HS1)); try simp only [aP, aN, aT, aZ, aS]))
        go_ret2
        exact ⟨by rw [HE.out]; rfl, HS.out.below⟩
      · have f2 : decide (i < d.s.si) = false := by rw [decide_eq_false_iff_not]; exact h3
        have f3 : decide (d.s.si + d.log.length < i) = true := by rw [decide_eq_true_eq]; omega
        go_enter Try.func38, Try.ntmps38
        go_wp2_with (first | (go_at_call 41; (with_reducible refine (rlast' d _ (HK.out.sh HS.out)).mono ?_); rintro e w2 ⟨rfl, hb⟩; rw [HLO.out]; have HS1 := HS.out.quiet hb; clear HS hb; have HS := Aside0.mk HS1; clear HS1) | ((first | ((first | ((with_reducible refine gA rfl ?_); refine sh_alloc HS.out rfl rfl (zeT _ (by decide)) ?_) | ((with_reducible refine gB rfl ?_); refine bx HS.out rfl rfl ?_; first | refine bv (v := .agg (List.toArray _)) rfl ?_ | refine bv (v := .int _ _) rfl ?_ | refine bv (v := .slice _ _ _) rfl ?_ | refine bv (v := .bool _) rfl ?_ | refine bv (v := .pointer _) rfl ?_) | ((with_reducible refine gL rfl ?_); refine sh_lit HS.out rfl rfl (by go_simp; exact ⟨⟨rfl, rfl⟩, rfl⟩) ?_)); clear HS; intro g w1 hg HS1; (simp only [Ent.enc, zeF, segOf, aL, aC, aE] at HS1); have HS := Aside0.mk HS1; clear HS1) | ((with_reducible refine gLd rfl ?_); refine ld2 HS.out rfl rfl rfl (by repeat (first | exact AtI.here | apply AtI.there)) ?_; (first | refine LdK.one ((agT _ (by decide)).trans rfl) rfl ?_ | (refine LdK.agg ((agT _ (by decide)).trans rfl) (szT _ (by decide)) (lb rfl) ?_; try simp only [szL, aP, aN, aT, aZ, aS, aD, aF, aJ, aK, aM, aO]))) | ((with_reducible refine gSt rfl ?_); refine st2 HS.out rfl rfl rfl rfl (by repeat (first | exact AtI.here | apply AtI.there)) ?_; (first | refine sv (u := .agg (List.toArray _)) rfl ?_ | refine sv (u := .int _ _) rfl ?_ | refine sv (u := .slice _ _ _) rfl ?_ | refine sv (u := .bool _) rfl ?_ | refine sv (u := .pointer _) rfl ?_); refine sw (szT _ (by decide)) rfl (lb rfl) ?_; clear HS; intro w1 HS1; (simp only [Ent.enc, segOf, aL, aZ, aS, putSeg] at HS1); have HS := Aside0.mk HS1; clear HS1)); try simp only [aP, aN, aT, aZ, aS]))
        go_ret2
        exact ⟨by rw [HE.out]; rfl, HS.out.below⟩
    · obtain ⟨k, hkl, rfl⟩ : ∃ k : Nat, k < d.log.length ∧ i = d.s.si + 1 + k := ⟨(i - d.s.si - 1).toNat, by omega, by omega⟩
      have hto : termOf d (d.s.si + 1 + k) = ((d.log.getD k default).term, true) := by
        unfold termOf
        rw [if_neg h1, if_neg h2, show (d.s.si + 1 + (k : Int) - d.s.si - 1).toNat = k by omega]
      have HE := Aside0.mk hto
      clear hto
      have f2 : decide (d.s.si + 1 + (k : Int) < d.s.si) = false := by rw [decide_eq_false_iff_not]; omega
      have f3 : decide (d.s.si + d.log.length < d.s.si + 1 + (k : Int)) = false := by rw [decide_eq_false_iff_not]; omega
      have hk9 : (d.s.si + 1 + (k : Int) - d.s.si).toNat - 1 = k := by omega
      have hRR := HK.out.rg
      obtain ⟨ad, had⟩ := hRR.addr (by omega)
      generalize hx : d.log.getD k default = x
      have HX := Aside0.mk hx
      clear hx
      have HAD := Aside0.mk had
      rw [had] at hRR
      have HRR := Aside0.mk hRR
      clear had hRR h1 h2
      have HL' := Aside0.mk (fun w1 h => by
        have := rlast' d w1 h
        rwa [HAD.out, HLO.out] at this)
      rw [HAD.out]
      go_enter Try.func38, Try.ntmps38
      go_wp2_with (first | (go_at_call 41; (with_reducible refine (HL'.out _ (HK.out.sh HS.out)).mono ?_); rintro e w2 ⟨rfl, hb⟩;  have HS1 := HS.out.quiet hb; clear HS hb; have HS := Aside0.mk HS1; clear HS1) | ((with_reducible refine gLd rfl ?_); refine rd_loadf (Aside0.mk (HRR.out.sh HS.out)).out rfl rfl (i := k) 0 rfl hkl default ((agT _ (by decide)).trans rfl) (fun e => .int .u64 e.term) (fun _ => rfl) ?_; intro x hx; obtain rfl := HX.out.symm.trans hx; (try simp only [aP, aN, aT, aZ, aS])) | ((first | ((first | ((with_reducible refine gA rfl ?_); refine sh_alloc HS.out rfl rfl (zeT _ (by decide)) ?_) | ((with_reducible refine gB rfl ?_); refine bx HS.out rfl rfl ?_; first | refine bv (v := .agg (List.toArray _)) rfl ?_ | refine bv (v := .int _ _) rfl ?_ | refine bv (v := .slice _ _ _) rfl ?_ | refine bv (v := .bool _) rfl ?_ | refine bv (v := .pointer _) rfl ?_) | ((with_reducible refine gL rfl ?_); refine sh_lit HS.out rfl rfl (by go_simp; exact ⟨⟨rfl, rfl⟩, rfl⟩) ?_)); clear HS; intro g w1 hg HS1; (simp only [Ent.enc, zeF, segOf, aL, aC, aE] at HS1); have HS := Aside0.mk HS1; clear HS1) | ((with_reducible refine gLd rfl ?_); refine ld2 HS.out rfl rfl rfl (by repeat (first | exact AtI.here | apply AtI.there)) ?_; (first | refine LdK.one ((agT _ (by decide)).trans rfl) rfl ?_ | (refine LdK.agg ((agT _ (by decide)).trans rfl) (szT _ (by decide)) (lb rfl) ?_; try simp only [szL, aP, aN, aT, aZ, aS, aD, aF, aJ, aK, aM, aO]))) | ((with_reducible refine gSt rfl ?_); refine st2 HS.out rfl rfl rfl rfl (by repeat (first | exact AtI.here | apply AtI.there)) ?_; (first | refine sv (u := .agg (List.toArray _)) rfl ?_ | refine sv (u := .int _ _) rfl ?_ | refine sv (u := .slice _ _ _) rfl ?_ | refine sv (u := .bool _) rfl ?_ | refine sv (u := .pointer _) rfl ?_); refine sw (szT _ (by decide)) rfl (lb rfl) ?_; clear HS; intro w1 HS1; (simp only [Ent.enc, segOf, aL, aZ, aS, putSeg] at HS1); have HS := Aside0.mk HS1; clear HS1)); try simp only [aP, aN, aT, aZ, aS]))
      go_ret2
      exact ⟨by rw [HE.out, HX.out]; rfl, HS.out.below⟩
set_option maxHeartbeats 800000 in
theorem termAt_any (d : Hrd) (i : Int) (w : World) (hk : d.ok w) (hg : hardOk d = true) (hi : ln i) : Calls Try.prog 40 #[.agg #[.int .u64 d.boot, .int .u64 d.term, .int .i64 d.vote, .int .u64 d.s.si, .int .u64 d.s.st, .slice d.s.nA d.s.nodes.length d.s.nc, .int .i64 d.s.lim, .int .u64 d.s.nxt, .slice d.s.hA d.s.held.length d.s.hc, .slice d.s.lA d.s.last.length d.s.lc, .slice d.gA d.log.length d.gc], .int .u64 i] w (fun e w' => e = .returned (.tuple #[.int .u64 (termOf d i).1, .bool (termOf d i).2]) ∧ Below w.heap.size w w') := by
  obtain ⟨hl, hl2⟩ := hardOk_last hk hg
  have h0 := hk.s.si.1
  have hi0 := hi.1
  have HK := Aside0.mk hk
  have hm := hk.rg.len.2
  clear hk hg
  have HLO := Aside0.mk hl
  have HS := Aside0.mk (SH.start w)
  by_cases h1 : i = d.s.si
  · have hto : termOf d i = (d.s.st, true) := by unfold termOf; rw [if_pos h1]
    have f1 : (i == d.s.si) = true := beq_iff_eq.2 h1
    have HE := Aside0.mk (And.intro hto h1)
    clear hto h1
    go_enter Try.func40, Try.ntmps40
    go_wp2_with (first | (go_at_call 42; (with_reducible refine (refLast' d _ (HK.out.sh HS.out)).mono ?_); rintro e w2 ⟨rfl, hb⟩; rw [HLO.out]; have HS1 := HS.out.quiet hb; clear HS hb; have HS := Aside0.mk HS1; clear HS1) | ((first | ((first | ((with_reducible refine gA rfl ?_); refine sh_alloc HS.out rfl rfl (zeT _ (by decide)) ?_) | ((with_reducible refine gB rfl ?_); refine bx HS.out rfl rfl ?_; first | refine bv (v := .agg (List.toArray _)) rfl ?_ | refine bv (v := .int _ _) rfl ?_ | refine bv (v := .slice _ _ _) rfl ?_ | refine bv (v := .bool _) rfl ?_ | refine bv (v := .pointer _) rfl ?_) | ((with_reducible refine gL rfl ?_); refine sh_lit HS.out rfl rfl (by go_simp; exact ⟨⟨rfl, rfl⟩, rfl⟩) ?_)); clear HS; intro g w1 hg HS1; (simp only [Ent.enc, zeF, segOf, aL, aC, aE] at HS1); have HS := Aside0.mk HS1; clear HS1) | ((with_reducible refine gLd rfl ?_); refine ld2 HS.out rfl rfl rfl (by repeat (first | exact AtI.here | apply AtI.there)) ?_; (first | refine LdK.one ((agT _ (by decide)).trans rfl) rfl ?_ | (refine LdK.agg ((agT _ (by decide)).trans rfl) (szT _ (by decide)) (lb rfl) ?_; try simp only [szL, aP, aN, aT, aZ, aS, aD, aF, aJ, aK, aM, aO]))) | ((with_reducible refine gSt rfl ?_); refine st2 HS.out rfl rfl rfl rfl (by repeat (first | exact AtI.here | apply AtI.there)) ?_; (first | refine sv (u := .agg (List.toArray _)) rfl ?_ | refine sv (u := .int _ _) rfl ?_ | refine sv (u := .slice _ _ _) rfl ?_ | refine sv (u := .bool _) rfl ?_ | refine sv (u := .pointer _) rfl ?_); refine sw (szT _ (by decide)) rfl (lb rfl) ?_; clear HS; intro w1 HS1; (simp only [Ent.enc, segOf, aL, aZ, aS, putSeg] at HS1); have HS := Aside0.mk HS1; clear HS1)); try simp only [aP, aN, aT, aZ, aS]))
    go_ret2
    exact ⟨by rw [HE.out.1]; rfl, HS.out.below⟩
  · have f1 : (i == d.s.si) = false := beq_eq_false_iff_ne.2 h1
    by_cases h2 : i < d.s.si ∨ lastOf d < i
    · have hto : termOf d i = (0, false) := by unfold termOf; rw [if_neg h1, if_pos h2]
      have HE := Aside0.mk hto
      clear hto h1
      by_cases h3 : i < d.s.si
      · have f2 : decide (i < d.s.si) = true := by rw [decide_eq_true_eq]; exact h3
        go_enter Try.func40, Try.ntmps40
        go_wp2_with (first | (go_at_call 42; (with_reducible refine (refLast' d _ (HK.out.sh HS.out)).mono ?_); rintro e w2 ⟨rfl, hb⟩; rw [HLO.out]; have HS1 := HS.out.quiet hb; clear HS hb; have HS := Aside0.mk HS1; clear HS1) | ((first | ((first | ((with_reducible refine gA rfl ?_); refine sh_alloc HS.out rfl rfl (zeT _ (by decide)) ?_) | ((with_reducible refine gB rfl ?_); refine bx HS.out rfl rfl ?_; first | refine bv (v := .agg (List.toArray _)) rfl ?_ | refine bv (v := .int _ _) rfl ?_ | refine bv (v := .slice _ _ _) rfl ?_ | refine bv (v := .bool _) rfl ?_ | refine bv (v := .pointer _) rfl ?_) | ((with_reducible refine gL rfl ?_); refine sh_lit HS.out rfl rfl (by go_simp; exact ⟨⟨rfl, rfl⟩, rfl⟩) ?_)); clear HS; intro g w1 hg HS1; (simp only [Ent.enc, zeF, segOf, aL, aC, aE] at HS1); have HS := Aside0.mk HS1; clear HS1) | ((with_reducible refine gLd rfl ?_); refine ld2 HS.out rfl rfl rfl (by repeat (first | exact AtI.here | apply AtI.there)) ?_; (first | refine LdK.one ((agT _ (by decide)).trans rfl) rfl ?_ | (refine LdK.agg ((agT _ (by decide)).trans rfl) (szT _ (by decide)) (lb rfl) ?_; try simp only [szL, aP, aN, aT, aZ, aS, aD, aF, aJ, aK, aM, aO]))) | ((with_reducible refine gSt rfl ?_); refine st2 HS.out rfl rfl rfl rfl (by repeat (first | exact AtI.here | apply AtI.there)) ?_; (first | refine sv (u := .agg (List.toArray _)) rfl ?_ | refine sv (u := .int _ _) rfl ?_ | refine sv (u := .slice _ _ _) rfl ?_ | refine sv (u := .bool _) rfl ?_ | refine sv (u := .pointer _) rfl ?_); refine sw (szT _ (by decide)) rfl (lb rfl) ?_; clear HS; intro w1 HS1; (simp only [Ent.enc, segOf, aL, aZ, aS, putSeg] at HS1); have HS := Aside0.mk HS1; clear HS1)); try simp only [aP, aN, aT, aZ, aS]))
        go_ret2
        exact ⟨by rw [HE.out]; rfl, HS.out.below⟩
      · have f2 : decide (i < d.s.si) = false := by rw [decide_eq_false_iff_not]; exact h3
        have f3 : decide (d.s.si + d.log.length < i) = true := by rw [decide_eq_true_eq]; omega
        go_enter Try.func40, Try.ntmps40
        go_wp2_with (first | (go_at_call 42; (with_reducible refine (refLast' d _ (HK.out.sh HS.out)).mono ?_); rintro e w2 ⟨rfl, hb⟩; rw [HLO.out]; have HS1 := HS.out.quiet hb; clear HS hb; have HS := Aside0.mk HS1; clear HS1) | ((first | ((first | ((with_reducible refine gA rfl ?_); refine sh_alloc HS.out rfl rfl (zeT _ (by decide)) ?_) | ((with_reducible refine gB rfl ?_); refine bx HS.out rfl rfl ?_; first | refine bv (v := .agg (List.toArray _)) rfl ?_ | refine bv (v := .int _ _) rfl ?_ | refine bv (v := .slice _ _ _) rfl ?_ | refine bv (v := .bool _) rfl ?_ | refine bv (v := .pointer _) rfl ?_) | ((with_reducible refine gL rfl ?_); refine sh_lit HS.out rfl rfl (by go_simp; exact ⟨⟨rfl, rfl⟩, rfl⟩) ?_)); clear HS; intro g w1 hg HS1; (simp only [Ent.enc, zeF, segOf, aL, aC, aE] at HS1); have HS := Aside0.mk HS1; clear HS1) | ((with_reducible refine gLd rfl ?_); refine ld2 HS.out rfl rfl rfl (by repeat (first | exact AtI.here | apply AtI.there)) ?_; (first | refine LdK.one ((agT _ (by decide)).trans rfl) rfl ?_ | (refine LdK.agg ((agT _ (by decide)).trans rfl) (szT _ (by decide)) (lb rfl) ?_; try simp only [szL, aP, aN, aT, aZ, aS, aD, aF, aJ, aK, aM, aO]))) | ((with_reducible refine gSt rfl ?_); refine st2 HS.out rfl rfl rfl rfl (by repeat (first | exact AtI.here | apply AtI.there)) ?_; (first | refine sv (u := .agg (List.toArray _)) rfl ?_ | refine sv (u := .int _ _) rfl ?_ | refine sv (u := .slice _ _ _) rfl ?_ | refine sv (u := .bool _) rfl ?_ | refine sv (u := .pointer _) rfl ?_); refine sw (szT _ (by decide)) rfl (lb rfl) ?_; clear HS; intro w1 HS1; (simp only [Ent.enc, segOf, aL, aZ, aS, putSeg] at HS1); have HS := Aside0.mk HS1; clear HS1)); try simp only [aP, aN, aT, aZ, aS]))
        go_ret2
        exact ⟨by rw [HE.out]; rfl, HS.out.below⟩
    · obtain ⟨k, hkl, rfl⟩ : ∃ k : Nat, k < d.log.length ∧ i = d.s.si + 1 + k := ⟨(i - d.s.si - 1).toNat, by omega, by omega⟩
      have hto : termOf d (d.s.si + 1 + k) = ((d.log.getD k default).term, true) := by
        unfold termOf
        rw [if_neg h1, if_neg h2, show (d.s.si + 1 + (k : Int) - d.s.si - 1).toNat = k by omega]
      have HE := Aside0.mk hto
      clear hto
      have f2 : decide (d.s.si + 1 + (k : Int) < d.s.si) = false := by rw [decide_eq_false_iff_not]; omega
      have f3 : decide (d.s.si + d.log.length < d.s.si + 1 + (k : Int)) = false := by rw [decide_eq_false_iff_not]; omega
      have hk9 : (d.s.si + 1 + (k : Int) - d.s.si).toNat - 1 = k := by omega
      have hRR := HK.out.rg
      obtain ⟨ad, had⟩ := hRR.addr (by omega)
      generalize hx : d.log.getD k default = x
      have HX := Aside0.mk hx
      clear hx
      have HAD := Aside0.mk had
      rw [had] at hRR
      have HRR := Aside0.mk hRR
      clear had hRR h1 h2
      have HL' := Aside0.mk (fun w1 h => by
        have := refLast' d w1 h
        rwa [HAD.out, HLO.out] at this)
      rw [HAD.out]
      go_enter Try.func40, Try.ntmps40
      go_wp2_with (first | (go_at_call 42; (with_reducible refine (HL'.out _ (HK.out.sh HS.out)).mono ?_); rintro e w2 ⟨rfl, hb⟩;  have HS1 := HS.out.quiet hb; clear HS hb; have HS := Aside0.mk HS1; clear HS1) | ((with_reducible refine gLd rfl ?_); refine rd_loadf (Aside0.mk (HRR.out.sh HS.out)).out rfl rfl (i := k) 0 rfl hkl default ((agT _ (by decide)).trans rfl) (fun e => .int .u64 e.term) (fun _ => rfl) ?_; intro x hx; obtain rfl := HX.out.symm.trans hx; (try simp only [aP, aN, aT, aZ, aS])) | ((first | ((first | ((with_reducible refine gA rfl ?_); refine sh_alloc HS.out rfl rfl (zeT _ (by decide)) ?_) | ((with_reducible refine gB rfl ?_); refine bx HS.out rfl rfl ?_; first | refine bv (v := .agg (List.toArray _)) rfl ?_ | refine bv (v := .int _ _) rfl ?_ | refine bv (v := .slice _ _ _) rfl ?_ | refine bv (v := .bool _) rfl ?_ | refine bv (v := .pointer _) rfl ?_) | ((with_reducible refine gL rfl ?_); refine sh_lit HS.out rfl rfl (by go_simp; exact ⟨⟨rfl, rfl⟩, rfl⟩) ?_)); clear HS; intro g w1 hg HS1; (simp only [Ent.enc, zeF, segOf, aL, aC, aE] at HS1); have HS := Aside0.mk HS1; clear HS1) | ((with_reducible refine gLd rfl ?_); refine ld2 HS.out rfl rfl rfl (by repeat (first | exact AtI.here | apply AtI.there)) ?_; (first | refine LdK.one ((agT _ (by decide)).trans rfl) rfl ?_ | (refine LdK.agg ((agT _ (by decide)).trans rfl) (szT _ (by decide)) (lb rfl) ?_; try simp only [szL, aP, aN, aT, aZ, aS, aD, aF, aJ, aK, aM, aO]))) | ((with_reducible refine gSt rfl ?_); refine st2 HS.out rfl rfl rfl rfl (by repeat (first | exact AtI.here | apply AtI.there)) ?_; (first | refine sv (u := .agg (List.toArray _)) rfl ?_ | refine sv (u := .int _ _) rfl ?_ | refine sv (u := .slice _ _ _) rfl ?_ | refine sv (u := .bool _) rfl ?_ | refine sv (u := .pointer _) rfl ?_); refine sw (szT _ (by decide)) rfl (lb rfl) ?_; clear HS; intro w1 HS1; (simp only [Ent.enc, segOf, aL, aZ, aS, putSeg] at HS1); have HS := Aside0.mk HS1; clear HS1)); try simp only [aP, aN, aT, aZ, aS]))
      go_ret2
      exact ⟨by rw [HE.out, HX.out]; rfl, HS.out.below⟩
end Go.Proofs.Ytekjihmepdhmeaa.Rlo

