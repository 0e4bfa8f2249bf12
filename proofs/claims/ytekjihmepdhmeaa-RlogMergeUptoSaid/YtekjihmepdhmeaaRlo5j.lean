import Derived.Test.YtekjihmepdhmeaaRlo4j
/- Lemmas towards the law: what of the text Rlo5 it needs. -/
namespace Go.Proofs.Ytekjihmepdhmeaa.Rlo
open Go.RowKit Go.Proofs.YtekjihmepdhmeaaW.PrintWords Go.Proofs.Ytekjihmepdhmeaa.Sl
set_option linter.unusedVariables false
set_option linter.unusedSimpArgs false
theorem refCmd' (x : Ent) (w : World) (hk : x.ok w) : Calls Try.prog 86 #[.agg #[.int .i64 x.kind, .int .i64 x.node, .int .i64 x.token, .slice x.A x.nodes.length x.c, .int .u64 x.boot, .int .u64 x.seq, .int .u64 x.serial, .int .u64 x.stamp]] w (fun e w' => e = .returned (.int .i64 (if cmdOk x then 0 else 40)) ∧ Below w.heap.size w w') := by
  have := refCmd_any x w hk
  rw [refCmd_eq hk hk.nodeHi hk.tokHi] at this
  exact this
theorem refLast' (d : Hrd) (w : World) (hk : d.ok w) : Calls Try.prog 42 #[.agg #[.int .u64 d.boot, .int .u64 d.term, .int .i64 d.vote, .int .u64 d.s.si, .int .u64 d.s.st, .slice d.s.nA d.s.nodes.length d.s.nc, .int .i64 d.s.lim, .int .u64 d.s.nxt, .slice d.s.hA d.s.held.length d.s.hc, .slice d.s.lA d.s.last.length d.s.lc, .slice d.gA d.log.length d.gc]] w (fun e w' => e = .returned (.int .u64 (lastOf d)) ∧ Below w.heap.size w w') := refLast_any d w hk
set_option maxHeartbeats 3200000 in
set_option maxRecDepth 100000 in
theorem refHard_any (d : Hrd) (w : World) (hk : d.ok w) : Calls Try.prog 63 #[.agg #[.int .u64 d.boot, .int .u64 d.term, .int .i64 d.vote, .int .u64 d.s.si, .int .u64 d.s.st, .slice d.s.nA d.s.nodes.length d.s.nc, .int .i64 d.s.lim, .int .u64 d.s.nxt, .slice d.s.hA d.s.held.length d.s.hc, .slice d.s.lA d.s.last.length d.s.lc, .slice d.gA d.log.length d.gc]] w (fun e w' => e = .returned (.int .i64 (if hardOk d then 0 else 130)) ∧ Below w.heap.size w w') := by
  have HK := Aside0.mk hk
  have hm := hk.rg.len.2
  have hT := Aside0.mk hk.term
  have hST := Aside0.mk hk.s.st
  clear hk
  have HS := Aside0.mk (SH.start w)
  generalize hres : (if hardOk d then (0 : Int) else 130) = res
  have HRES := Aside0.mk hres
  clear hres
  obtain ⟨b2, h2⟩ : ∃ b, shotOk d.s = b := ⟨_, rfl⟩
  have H2 := Aside0.mk h2
  clear h2
  obtain ⟨lo, hlo⟩ : ∃ b, lastOf d = b := ⟨_, rfl⟩
  have HLO := Aside0.mk hlo
  clear hlo
  go_enter Try.func63, Try.ntmps63
  go_upto_region 1 with (first | ((first | ((first | ((with_reducible refine gA rfl ?_); refine sh_alloc HS.out rfl rfl (zeT _ (by decide)) ?_) | ((with_reducible refine gB rfl ?_); refine bx HS.out rfl rfl ?_; first | refine bv (v := .agg (List.toArray _)) rfl ?_ | refine bv (v := .int _ _) rfl ?_ | refine bv (v := .slice _ _ _) rfl ?_ | refine bv (v := .bool _) rfl ?_ | refine bv (v := .pointer _) rfl ?_) | ((with_reducible refine gL rfl ?_); refine sh_lit HS.out rfl rfl (by go_simp; exact ⟨⟨rfl, rfl⟩, rfl⟩) ?_)); clear HS; intro g w1 hg HS1; (simp only [Ent.enc, zeF, segOf, aL, aC, aE] at HS1); have HS := Aside0.mk HS1; clear HS1) | ((with_reducible refine gLd rfl ?_); refine ld2 HS.out rfl rfl rfl (by repeat (first | exact AtI.here | apply AtI.there)) ?_; (first | refine LdK.one ((agT _ (by decide)).trans rfl) rfl ?_ | (refine LdK.agg ((agT _ (by decide)).trans rfl) (szT _ (by decide)) (lb rfl) ?_; try simp only [szL, aP, aN, aT, aZ, aS, aD, aF, aJ, aK, aM, aO]))) | ((with_reducible refine gSt rfl ?_); refine st2 HS.out rfl rfl rfl rfl (by repeat (first | exact AtI.here | apply AtI.there)) ?_; (first | refine sv (u := .agg (List.toArray _)) rfl ?_ | refine sv (u := .int _ _) rfl ?_ | refine sv (u := .slice _ _ _) rfl ?_ | refine sv (u := .bool _) rfl ?_ | refine sv (u := .pointer _) rfl ?_); refine sw (szT _ (by decide)) rfl (lb rfl) ?_; clear HS; intro w1 HS1; (simp only [Ent.enc, segOf, aL, aZ, aS, putSeg] at HS1); have HS := Aside0.mk HS1; clear HS1)); try simp only [aP, aN, aT, aZ, aS]))
  obtain ⟨gh, hgh⟩ : ∃ gh, gh = g := ⟨_, rfl⟩
  subst hgh
  go_cut [3] (fun v3 wx => v3 = .bool (headOk d) ∧ Aside0 (SH w wx [blk gh [.int .u64 d.boot, .int .u64 d.term, .int .i64 d.vote, .int .u64 d.s.si, .int .u64 d.s.st, .slice d.s.nA d.s.nodes.length d.s.nc, .int .i64 d.s.lim, .int .u64 d.s.nxt, .slice d.s.hA d.s.held.length d.s.hc, .slice d.s.lA d.s.last.length d.s.lc, .slice d.gA d.log.length d.gc] 32]))
  case first =>
   cases b2
   all_goals
    go_wp2_with (first | (go_at_call 91; (with_reducible refine (refShot_any d.s _ (HK.out.s.sh HS.out)).mono ?_); rintro e w2 ⟨rfl, hb⟩; rw [H2.out]; have HS1 := HS.out.quiet hb; clear HS hb; have HS := Aside0.mk HS1; clear HS1) | (go_at_call 42; (with_reducible refine (refLast' d _ (HK.out.sh HS.out)).mono ?_); rintro e w2 ⟨rfl, hb⟩; rw [HLO.out]; have HS1 := HS.out.quiet hb; clear HS hb; have HS := Aside0.mk HS1; clear HS1) | ((with_reducible refine gGd rfl ?_); refine gsplit rfl rfl ?_ ?_ <;> (intro h; (fail_if_success guard_hyp h : true = true); (fail_if_success guard_hyp h : false = false); (fail_if_success guard_hyp h : true = false); (fail_if_success guard_hyp h : false = true); rewrite [h]; (try simp only [decide_eq_true_eq, decide_eq_false_iff_not, Bool.not_eq_true', Bool.not_eq_false', Int.not_lt, Int.not_le] at h);  (try first | contradiction | go_big_false); (try with_reducible refine WP.mk ?_))) | ((first | ((first | ((with_reducible refine gA rfl ?_); refine sh_alloc HS.out rfl rfl (zeT _ (by decide)) ?_) | ((with_reducible refine gB rfl ?_); refine bx HS.out rfl rfl ?_; first | refine bv (v := .agg (List.toArray _)) rfl ?_ | refine bv (v := .int _ _) rfl ?_ | refine bv (v := .slice _ _ _) rfl ?_ | refine bv (v := .bool _) rfl ?_ | refine bv (v := .pointer _) rfl ?_) | ((with_reducible refine gL rfl ?_); refine sh_lit HS.out rfl rfl (by go_simp; exact ⟨⟨rfl, rfl⟩, rfl⟩) ?_)); clear HS; intro g w1 hg HS1; (simp only [Ent.enc, zeF, segOf, aL, aC, aE] at HS1); have HS := Aside0.mk HS1; clear HS1) | ((with_reducible refine gLd rfl ?_); refine ld2 HS.out rfl rfl rfl (by repeat (first | exact AtI.here | apply AtI.there)) ?_; (first | refine LdK.one ((agT _ (by decide)).trans rfl) rfl ?_ | (refine LdK.agg ((agT _ (by decide)).trans rfl) (szT _ (by decide)) (lb rfl) ?_; try simp only [szL, aP, aN, aT, aZ, aS, aD, aF, aJ, aK, aM, aO]))) | ((with_reducible refine gSt rfl ?_); refine st2 HS.out rfl rfl rfl rfl (by repeat (first | exact AtI.here | apply AtI.there)) ?_; (first | refine sv (u := .agg (List.toArray _)) rfl ?_ | refine sv (u := .int _ _) rfl ?_ | refine sv (u := .slice _ _ _) rfl ?_ | refine sv (u := .bool _) rfl ?_ | refine sv (u := .pointer _) rfl ?_); refine sw (szT _ (by decide)) rfl (lb rfl) ?_; clear HS; intro w1 HS1; (simp only [Ent.enc, segOf, aL, aZ, aS, putSeg] at HS1); have HS := Aside0.mk HS1; clear HS1)); try simp only [aP, aN, aT, aZ, aS]))
    all_goals
      go_meet
      case rel =>
        refine ⟨?_, HS⟩
        refine congrArg Value.bool ?_
        have h2 := H2.out
        have hlo := HLO.out
        have ht := hT.out
        clear HS HRES HK hT hST
        (repeat (rename ∀ (_ : Act) (_ : World), _ => hK9; clear hK9))
        unfold headOk
        rw [h2, hlo]
        unfold ln at ht
        clear h2 hlo H2 HLO
        first | (simp_all; done) | (simp_all; omega) | grind
  case rest =>
    clear HS
    obtain ⟨rfl, HS⟩ := hcut
    have HLG := Aside0.mk (show (headOk d && logGo d.term (d.log.drop 0) d.s.st) = hardOk d from rfl)
    generalize hh : hardOk d = bl at HLG
    generalize headOk d = g0 at HLG ⊢
    have HD := Aside0.mk hh
    clear hh
    go_wp2_with (first | ((first | ((first | ((with_reducible refine gA rfl ?_); refine sh_alloc HS.out rfl rfl (zeT _ (by decide)) ?_) | ((with_reducible refine gB rfl ?_); refine bx HS.out rfl rfl ?_; first | refine bv (v := .agg (List.toArray _)) rfl ?_ | refine bv (v := .int _ _) rfl ?_ | refine bv (v := .slice _ _ _) rfl ?_ | refine bv (v := .bool _) rfl ?_ | refine bv (v := .pointer _) rfl ?_) | ((with_reducible refine gL rfl ?_); refine sh_lit HS.out rfl rfl (by go_simp; exact ⟨⟨rfl, rfl⟩, rfl⟩) ?_)); clear HS; intro g w1 hg HS1; (simp only [Ent.enc, zeF, segOf, aL, aC, aE] at HS1); have HS := Aside0.mk HS1; clear HS1) | ((with_reducible refine gLd rfl ?_); refine ld2 HS.out rfl rfl rfl (by repeat (first | exact AtI.here | apply AtI.there)) ?_; (first | refine LdK.one ((agT _ (by decide)).trans rfl) rfl ?_ | (refine LdK.agg ((agT _ (by decide)).trans rfl) (szT _ (by decide)) (lb rfl) ?_; try simp only [szL, aP, aN, aT, aZ, aS, aD, aF, aJ, aK, aM, aO]))) | ((with_reducible refine gSt rfl ?_); refine st2 HS.out rfl rfl rfl rfl (by repeat (first | exact AtI.here | apply AtI.there)) ?_; (first | refine sv (u := .agg (List.toArray _)) rfl ?_ | refine sv (u := .int _ _) rfl ?_ | refine sv (u := .slice _ _ _) rfl ?_ | refine sv (u := .bool _) rfl ?_ | refine sv (u := .pointer _) rfl ?_); refine sw (szT _ (by decide)) rfl (lb rfl) ?_; clear HS; intro w1 HS1; (simp only [Ent.enc, segOf, aL, aZ, aS, putSeg] at HS1); have HS := Aside0.mk HS1; clear HS1)); try simp only [aP, aN, aT, aZ, aS]))
    go_loopw [3, 4, 53] (fun v3 v4 v53 wr => ∃ (k : Nat) (p : Int) (g0 : Bool), k ≤ d.log.length ∧ v53 = .int .i64 k ∧ v3 = .bool g0 ∧ v4 = .int .u64 p ∧ Aside0 ((g0 && logGo d.term (d.log.drop k) p) = bl) ∧ Aside0 (ln p) ∧ Aside0 (SH w wr [blk gh [.int .u64 d.boot, .int .u64 d.term, .int .i64 d.vote, .int .u64 d.s.si, .int .u64 d.s.st, .slice d.s.nA d.s.nodes.length d.s.nc, .int .i64 d.s.lim, .int .u64 d.s.nxt, .slice d.s.hA d.s.held.length d.s.hc, .slice d.s.lA d.s.last.length d.s.lc, .slice d.gA d.log.length d.gc] 32])) (fun _ _ v53 _ => d.log.length - (intOf v53).toNat)
    case atStart => exact ⟨0, _, _, Nat.zero_le _, rfl, rfl, rfl, HLG, hST, HS⟩
    case round =>
      clear HS HLG
      obtain ⟨k, p, g0, hk, rfl, rfl, rfl, HLG, HP, HS⟩ := hrel
      by_cases hlt : k < d.log.length
      · have hRR := HK.out.rg.sh HS.out
        obtain ⟨ad, had⟩ := hRR.addr (by omega)
        generalize hx : d.log.getD k default = x
        have hlg := HLG.out
        rw [drop_consP hlt hx, logGo] at hlg
        clear HLG
        have HXO := Aside0.mk (HK.out.re x (getD_in hlt hx))
        have HX := Aside0.mk hx
        clear hx
        have HAD := Aside0.mk had
        rw [had] at hRR
        have HRR := Aside0.mk hRR
        clear had hRR
        rw [HAD.out] at HS ⊢
        obtain ⟨bc, hbc⟩ : ∃ b, cmdOk x = b := ⟨_, rfl⟩
        rw [hbc] at hlg
        have HBC := Aside0.mk hbc
        clear hbc
        have HLG := Aside0.mk (show ((g0 && decide (1 ≤ x.term) && decide (p ≤ x.term) && bc) && logGo d.term (d.log.drop (k + 1)) x.term) = bl by rw [← hlg]; simp only [Bool.and_assoc])
        clear hlg
        cases g0 with
        | false =>
          go_wp2_with (first | ((with_reducible refine gLd rfl ?_); refine rd_load HRR.out rfl rfl (i := k) rfl hlt default Ent.len ((agT _ (by decide)).trans rfl) (szT _ (by decide)) ?_; intro x hx; obtain rfl := HX.out.symm.trans hx; (try simp only [Ent.enc, aP, aN, aT, aZ, aS])) | (go_at_call 86; (with_reducible refine (refCmd' x _ (HXO.out.sh HS.out)).mono ?_); rintro e w2 ⟨rfl, hb⟩; rw [HBC.out]; have HS1 := HS.out.quiet hb; clear HS hb; have HS := Aside0.mk HS1; clear HS1) | ((first | ((first | ((with_reducible refine gA rfl ?_); refine sh_alloc HS.out rfl rfl (zeT _ (by decide)) ?_) | ((with_reducible refine gB rfl ?_); refine bx HS.out rfl rfl ?_; first | refine bv (v := .agg (List.toArray _)) rfl ?_ | refine bv (v := .int _ _) rfl ?_ | refine bv (v := .slice _ _ _) rfl ?_ | refine bv (v := .bool _) rfl ?_ | refine bv (v := .pointer _) rfl ?_) | ((with_reducible refine gL rfl ?_); refine sh_lit HS.out rfl rfl (by go_simp; exact ⟨⟨rfl, rfl⟩, rfl⟩) ?_)); clear HS; intro g w1 hg HS1; (simp only [Ent.enc, zeF, segOf, aL, aC, aE] at HS1); have HS := Aside0.mk HS1; clear HS1) | ((with_reducible refine gLd rfl ?_); refine ld2 HS.out rfl rfl rfl (by repeat (first | exact AtI.here | apply AtI.there)) ?_; (first | refine LdK.one ((agT _ (by decide)).trans rfl) rfl ?_ | (refine LdK.agg ((agT _ (by decide)).trans rfl) (szT _ (by decide)) (lb rfl) ?_; try simp only [szL, aP, aN, aT, aZ, aS, aD, aF, aJ, aK, aM, aO]))) | ((with_reducible refine gSt rfl ?_); refine st2 HS.out rfl rfl rfl rfl (by repeat (first | exact AtI.here | apply AtI.there)) ?_; (first | refine sv (u := .agg (List.toArray _)) rfl ?_ | refine sv (u := .int _ _) rfl ?_ | refine sv (u := .slice _ _ _) rfl ?_ | refine sv (u := .bool _) rfl ?_ | refine sv (u := .pointer _) rfl ?_); refine sw (szT _ (by decide)) rfl (lb rfl) ?_; clear HS; intro w1 HS1; (simp only [Ent.enc, segOf, aL, aZ, aS, putSeg] at HS1); have HS := Aside0.mk HS1; clear HS1)); try simp only [aP, aN, aT, aZ, aS]))
          have HS1 := HS.out.pick [0] rfl (by decide)
          clear HS
          have HS := Aside0.mk HS1
          clear HS1
          go_roundw
          case rel => exact ⟨k + 1, x.term, _, by omega, by go_num, rfl, rfl, HLG, ⟨HXO.out.term⟩, HS⟩
          case measure => simp [intOf]; omega
        | true =>
          cases h1 : decide (1 ≤ x.term) with
          | false =>
            have HE := Aside0.mk h1
            go_wp2_with (first | ((with_reducible refine gLd rfl ?_); refine rd_load HRR.out rfl rfl (i := k) rfl hlt default Ent.len ((agT _ (by decide)).trans rfl) (szT _ (by decide)) ?_; intro x hx; obtain rfl := HX.out.symm.trans hx; (try simp only [Ent.enc, aP, aN, aT, aZ, aS])) | (go_at_call 86; (with_reducible refine (refCmd' x _ (HXO.out.sh HS.out)).mono ?_); rintro e w2 ⟨rfl, hb⟩; rw [HBC.out]; have HS1 := HS.out.quiet hb; clear HS hb; have HS := Aside0.mk HS1; clear HS1) | ((first | ((first | ((with_reducible refine gA rfl ?_); refine sh_alloc HS.out rfl rfl (zeT _ (by decide)) ?_) | ((with_reducible refine gB rfl ?_); refine bx HS.out rfl rfl ?_; first | refine bv (v := .agg (List.toArray _)) rfl ?_ | refine bv (v := .int _ _) rfl ?_ | refine bv (v := .slice _ _ _) rfl ?_ | refine bv (v := .bool _) rfl ?_ | refine bv (v := .pointer _) rfl ?_) | ((with_reducible refine gL rfl ?_); refine sh_lit HS.out rfl rfl (by go_simp; exact ⟨⟨rfl, rfl⟩, rfl⟩) ?_)); clear HS; intro g w1 hg HS1; (simp only [Ent.enc, zeF, segOf, aL, aC, aE] at HS1); have HS := Aside0.mk HS1; clear HS1) | ((with_reducible refine gLd rfl ?_); refine ld2 HS.out rfl rfl rfl (by repeat (first | exact AtI.here | apply AtI.there)) ?_; (first | refine LdK.one ((agT _ (by decide)).trans rfl) rfl ?_ | (refine LdK.agg ((agT _ (by decide)).trans rfl) (szT _ (by decide)) (lb rfl) ?_; try simp only [szL, aP, aN, aT, aZ, aS, aD, aF, aJ, aK, aM, aO]))) | ((with_reducible refine gSt rfl ?_); refine st2 HS.out rfl rfl rfl rfl (by repeat (first | exact AtI.here | apply AtI.there)) ?_; (first | refine sv (u := .agg (List.toArray _)) rfl ?_ | refine sv (u := .int _ _) rfl ?_ | refine sv (u := .slice _ _ _) rfl ?_ | refine sv (u := .bool _) rfl ?_ | refine sv (u := .pointer _) rfl ?_); refine sw (szT _ (by decide)) rfl (lb rfl) ?_; clear HS; intro w1 HS1; (simp only [Ent.enc, segOf, aL, aZ, aS, putSeg] at HS1); have HS := Aside0.mk HS1; clear HS1)); try simp only [aP, aN, aT, aZ, aS]))
            have HS1 := HS.out.pick [0] rfl (by decide)
            clear HS
            have HS := Aside0.mk HS1
            clear HS1
            have hlg := HLG.out
            rw [HE.out] at hlg
            go_roundw
            case rel => exact ⟨k + 1, x.term, _, by omega, by go_num, rfl, rfl, ⟨hlg⟩, ⟨HXO.out.term⟩, HS⟩
            case measure => simp [intOf]; omega
          | true =>
            cases h2 : decide (p ≤ x.term) with
            | false =>
              have HE := Aside0.mk (And.intro h1 h2)
              go_wp2_with (first | ((with_reducible refine gLd rfl ?_); refine rd_load HRR.out rfl rfl (i := k) rfl hlt default Ent.len ((agT _ (by decide)).trans rfl) (szT _ (by decide)) ?_; intro x hx; obtain rfl := HX.out.symm.trans hx; (try simp only [Ent.enc, aP, aN, aT, aZ, aS])) | (go_at_call 86; (with_reducible refine (refCmd' x _ (HXO.out.sh HS.out)).mono ?_); rintro e w2 ⟨rfl, hb⟩; rw [HBC.out]; have HS1 := HS.out.quiet hb; clear HS hb; have HS := Aside0.mk HS1; clear HS1) | ((first | ((first | ((with_reducible refine gA rfl ?_); refine sh_alloc HS.out rfl rfl (zeT _ (by decide)) ?_) | ((with_reducible refine gB rfl ?_); refine bx HS.out rfl rfl ?_; first | refine bv (v := .agg (List.toArray _)) rfl ?_ | refine bv (v := .int _ _) rfl ?_ | refine bv (v := .slice _ _ _) rfl ?_ | refine bv (v := .bool _) rfl ?_ | refine bv (v := .pointer _) rfl ?_) | ((with_reducible refine gL rfl ?_); refine sh_lit HS.out rfl rfl (by go_simp; exact ⟨⟨rfl, rfl⟩, rfl⟩) ?_)); clear HS; intro g w1 hg HS1; (simp only [Ent.enc, zeF, segOf, aL, aC, aE] at HS1); have HS := Aside0.mk HS1; clear HS1) | ((with_reducible refine gLd rfl ?_); refine ld2 HS.out rfl rfl rfl (by repeat (first | exact AtI.here | apply AtI.there)) ?_; (first | refine LdK.one ((agT _ (by decide)).trans rfl) rfl ?_ | (refine LdK.agg ((agT _ (by decide)).trans rfl) (szT _ (by decide)) (lb rfl) ?_; try simp only [szL, aP, aN, aT, aZ, aS, aD, aF, aJ, aK, aM, aO]))) | ((with_reducible refine gSt rfl ?_); refine st2 HS.out rfl rfl rfl rfl (by repeat (first | exact AtI.here | apply AtI.there)) ?_; (first | refine sv (u := .agg (List.toArray _)) rfl ?_ | refine sv (u := .int _ _) rfl ?_ | refine sv (u := .slice _ _ _) rfl ?_ | refine sv (u := .bool _) rfl ?_ | refine sv (u := .pointer _) rfl ?_); refine sw (szT _ (by decide)) rfl (lb rfl) ?_; clear HS; intro w1 HS1; (simp only [Ent.enc, segOf, aL, aZ, aS, putSeg] at HS1); have HS := Aside0.mk HS1; clear HS1)); try simp only [aP, aN, aT, aZ, aS]))
              have HS1 := HS.out.pick [0] rfl (by decide)
              clear HS
              have HS := Aside0.mk HS1
              clear HS1
              have hlg := HLG.out
              rw [HE.out.1, HE.out.2] at hlg
              go_roundw
              case rel => exact ⟨k + 1, x.term, _, by omega, by go_num, rfl, rfl, ⟨hlg⟩, ⟨HXO.out.term⟩, HS⟩
              case measure => simp [intOf]; omega
            | true =>
              have HE := Aside0.mk (And.intro h1 h2)
              cases bc
              all_goals
                go_wp2_with (first | ((with_reducible refine gLd rfl ?_); refine rd_load HRR.out rfl rfl (i := k) rfl hlt default Ent.len ((agT _ (by decide)).trans rfl) (szT _ (by decide)) ?_; intro x hx; obtain rfl := HX.out.symm.trans hx; (try simp only [Ent.enc, aP, aN, aT, aZ, aS])) | (go_at_call 86; (with_reducible refine (refCmd' x _ (HXO.out.sh HS.out)).mono ?_); rintro e w2 ⟨rfl, hb⟩; rw [HBC.out]; have HS1 := HS.out.quiet hb; clear HS hb; have HS := Aside0.mk HS1; clear HS1) | ((first | ((first | ((with_reducible refine gA rfl ?_); refine sh_alloc HS.out rfl rfl (zeT _ (by decide)) ?_) | ((with_reducible refine gB rfl ?_); refine bx HS.out rfl rfl ?_; first | refine bv (v := .agg (List.toArray _)) rfl ?_ | refine bv (v := .int _ _) rfl ?_ | refine bv (v := .slice _ _ _) rfl ?_ | refine bv (v := .bool _) rfl ?_ | refine bv (v := .pointer _) rfl ?_) | ((with_reducible refine gL rfl ?_); refine sh_lit HS.out rfl rfl (by go_simp; exact ⟨⟨rfl, rfl⟩, rfl⟩) ?_)); clear HS; intro g w1 hg HS1; (simp only [Ent.enc, zeF, segOf, aL, aC, aE] at HS1); have HS := Aside0.mk HS1; clear HS1) | ((with_reducible refine gLd rfl ?_); refine ld2 HS.out rfl rfl rfl (by repeat (first | exact AtI.here | apply AtI.there)) ?_; (first | refine LdK.one ((agT _ (by decide)).trans rfl) rfl ?_ | (refine LdK.agg ((agT _ (by decide)).trans rfl) (szT _ (by decide)) (lb rfl) ?_; try simp only [szL, aP, aN, aT, aZ, aS, aD, aF, aJ, aK, aM, aO]))) | ((with_reducible refine gSt rfl ?_); refine st2 HS.out rfl rfl rfl rfl (by repeat (first | exact AtI.here | apply AtI.there)) ?_; (first | refine sv (u := .agg (List.toArray _)) rfl ?_ | refine sv (u := .int _ _) rfl ?_ | refine sv (u := .slice _ _ _) rfl ?_ | refine sv (u := .bool _) rfl ?_ | refine sv (u := .pointer _) rfl ?_); refine sw (szT _ (by decide)) rfl (lb rfl) ?_; clear HS; intro w1 HS1; (simp only [Ent.enc, segOf, aL, aZ, aS, putSeg] at HS1); have HS := Aside0.mk HS1; clear HS1)); try simp only [aP, aN, aT, aZ, aS]))
                have HS1 := HS.out.pick [0] rfl (by decide)
                clear HS
                have HS := Aside0.mk HS1
                clear HS1
                have hlg := HLG.out
                rw [HE.out.1, HE.out.2] at hlg
                go_roundw
                case rel => exact ⟨k + 1, x.term, _, by omega, by go_num, rfl, rfl, ⟨hlg⟩, ⟨HXO.out.term⟩, HS⟩
                case measure => simp [intOf]; omega
      · obtain rfl : k = d.log.length := by omega
        have hlg := HLG.out
        rw [List.drop_length, logGo] at hlg
        clear HLG
        cases g0 with
        | false =>
          have HB := Aside0.mk (show false = bl from hlg)
          clear hlg
          go_wp2_with (first | ((first | ((first | ((with_reducible refine gA rfl ?_); refine sh_alloc HS.out rfl rfl (zeT _ (by decide)) ?_) | ((with_reducible refine gB rfl ?_); refine bx HS.out rfl rfl ?_; first | refine bv (v := .agg (List.toArray _)) rfl ?_ | refine bv (v := .int _ _) rfl ?_ | refine bv (v := .slice _ _ _) rfl ?_ | refine bv (v := .bool _) rfl ?_ | refine bv (v := .pointer _) rfl ?_) | ((with_reducible refine gL rfl ?_); refine sh_lit HS.out rfl rfl (by go_simp; exact ⟨⟨rfl, rfl⟩, rfl⟩) ?_)); clear HS; intro g w1 hg HS1; (simp only [Ent.enc, zeF, segOf, aL, aC, aE] at HS1); have HS := Aside0.mk HS1; clear HS1) | ((with_reducible refine gLd rfl ?_); refine ld2 HS.out rfl rfl rfl (by repeat (first | exact AtI.here | apply AtI.there)) ?_; (first | refine LdK.one ((agT _ (by decide)).trans rfl) rfl ?_ | (refine LdK.agg ((agT _ (by decide)).trans rfl) (szT _ (by decide)) (lb rfl) ?_; try simp only [szL, aP, aN, aT, aZ, aS, aD, aF, aJ, aK, aM, aO]))) | ((with_reducible refine gSt rfl ?_); refine st2 HS.out rfl rfl rfl rfl (by repeat (first | exact AtI.here | apply AtI.there)) ?_; (first | refine sv (u := .agg (List.toArray _)) rfl ?_ | refine sv (u := .int _ _) rfl ?_ | refine sv (u := .slice _ _ _) rfl ?_ | refine sv (u := .bool _) rfl ?_ | refine sv (u := .pointer _) rfl ?_); refine sw (szT _ (by decide)) rfl (lb rfl) ?_; clear HS; intro w1 HS1; (simp only [Ent.enc, segOf, aL, aZ, aS, putSeg] at HS1); have HS := Aside0.mk HS1; clear HS1)); try simp only [aP, aN, aT, aZ, aS]))
          go_ret
          exact ⟨by rw [← HRES.out, HD.out, ← HB.out]; rfl, HS.out.below⟩
        | true =>
          cases h1 : decide (p ≤ d.term) with
          | false =>
            have HB := Aside0.mk (show false = bl by rw [h1] at hlg; exact hlg)
            have f1 : decide (d.term < p) = true := by rw [decide_eq_true_eq]; rw [decide_eq_false_iff_not] at h1; omega
            clear hlg
            go_wp2_with (first | ((first | ((first | ((with_reducible refine gA rfl ?_); refine sh_alloc HS.out rfl rfl (zeT _ (by decide)) ?_) | ((with_reducible refine gB rfl ?_); refine bx HS.out rfl rfl ?_; first | refine bv (v := .agg (List.toArray _)) rfl ?_ | refine bv (v := .int _ _) rfl ?_ | refine bv (v := .slice _ _ _) rfl ?_ | refine bv (v := .bool _) rfl ?_ | refine bv (v := .pointer _) rfl ?_) | ((with_reducible refine gL rfl ?_); refine sh_lit HS.out rfl rfl (by go_simp; exact ⟨⟨rfl, rfl⟩, rfl⟩) ?_)); clear HS; intro g w1 hg HS1; (simp only [Ent.enc, zeF, segOf, aL, aC, aE] at HS1); have HS := Aside0.mk HS1; clear HS1) | ((with_reducible refine gLd rfl ?_); refine ld2 HS.out rfl rfl rfl (by repeat (first | exact AtI.here | apply AtI.there)) ?_; (first | refine LdK.one ((agT _ (by decide)).trans rfl) rfl ?_ | (refine LdK.agg ((agT _ (by decide)).trans rfl) (szT _ (by decide)) (lb rfl) ?_; try simp only [szL, aP, aN, aT, aZ, aS, aD, aF, aJ, aK, aM, aO]))) | ((with_reducible refine gSt rfl ?_); refine st2 HS.out rfl rfl rfl rfl (by repeat (first | exact AtI.here | apply AtI.there)) ?_; (first | refine sv (u := .agg (List.toArray _)) rfl ?_ | refine sv (u := .int _ _) rfl ?_ | refine sv (u := .slice _ _ _) rfl ?_ | refine sv (u := .bool _) rfl ?_ | refine sv (u := .pointer _) rfl ?_); refine sw (szT _ (by decide)) rfl (lb rfl) ?_; clear HS; intro w1 HS1; (simp only [Ent.enc, segOf, aL, aZ, aS, putSeg] at HS1); have HS := Aside0.mk HS1; clear HS1)); try simp only [aP, aN, aT, aZ, aS]))
            go_ret
            exact ⟨by rw [← HRES.out, HD.out, ← HB.out]; rfl, HS.out.below⟩
          | true =>
            have HB := Aside0.mk (show true = bl by rw [h1] at hlg; exact hlg)
            have f1 : decide (d.term < p) = false := by rw [decide_eq_false_iff_not]; rw [decide_eq_true_eq] at h1; omega
            clear hlg
            go_wp2_with (first | ((first | ((first | ((with_reducible refine gA rfl ?_); refine sh_alloc HS.out rfl rfl (zeT _ (by decide)) ?_) | ((with_reducible refine gB rfl ?_); refine bx HS.out rfl rfl ?_; first | refine bv (v := .agg (List.toArray _)) rfl ?_ | refine bv (v := .int _ _) rfl ?_ | refine bv (v := .slice _ _ _) rfl ?_ | refine bv (v := .bool _) rfl ?_ | refine bv (v := .pointer _) rfl ?_) | ((with_reducible refine gL rfl ?_); refine sh_lit HS.out rfl rfl (by go_simp; exact ⟨⟨rfl, rfl⟩, rfl⟩) ?_)); clear HS; intro g w1 hg HS1; (simp only [Ent.enc, zeF, segOf, aL, aC, aE] at HS1); have HS := Aside0.mk HS1; clear HS1) | ((with_reducible refine gLd rfl ?_); refine ld2 HS.out rfl rfl rfl (by repeat (first | exact AtI.here | apply AtI.there)) ?_; (first | refine LdK.one ((agT _ (by decide)).trans rfl) rfl ?_ | (refine LdK.agg ((agT _ (by decide)).trans rfl) (szT _ (by decide)) (lb rfl) ?_; try simp only [szL, aP, aN, aT, aZ, aS, aD, aF, aJ, aK, aM, aO]))) | ((with_reducible refine gSt rfl ?_); refine st2 HS.out rfl rfl rfl rfl (by repeat (first | exact AtI.here | apply AtI.there)) ?_; (first | refine sv (u := .agg (List.toArray _)) rfl ?_ | refine sv (u := .int _ _) rfl ?_ | refine sv (u := .slice _ _ _) rfl ?_ | refine sv (u := .bool _) rfl ?_ | refine sv (u := .pointer _) rfl ?_); refine sw (szT _ (by decide)) rfl (lb rfl) ?_; clear HS; intro w1 HS1; (simp only [Ent.enc, segOf, aL, aZ, aS, putSeg] at HS1); have HS := Aside0.mk HS1; clear HS1)); try simp only [aP, aN, aT, aZ, aS]))
            go_ret
            exact ⟨by rw [← HRES.out, HD.out, ← HB.out]; rfl, HS.out.below⟩
end Go.Proofs.Ytekjihmepdhmeaa.Rlo

