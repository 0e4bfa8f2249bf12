import Derived.Test.YtekjihmepdhmeaaRlpZj
/- Lemmas towards the law: what of the text RlqA it needs. -/
namespace Go.Proofs.Ytekjihmepdhmeaa.Rlo
open Go.RowKit Go.Proofs.YtekjihmepdhmeaaW.PrintWords Go.Proofs.Ytekjihmepdhmeaa.Sl
set_option linter.unusedVariables false
set_option linter.unusedSimpArgs false
set_option maxHeartbeats 6400000 in
set_option maxRecDepth 100000 in
theorem refDo_cut (d : Hrd) (k : Nat) (ix : Int) (w : World) (hk : d.ok w) (hz : d.szd) (hg : hardOk d = true) (hkn : k ≤ d.log.length) (hix : ix = d.s.si + k + 1) :
    Calls Try.prog 49 #[.agg #[.int .u64 d.boot, .int .u64 d.term, .int .i64 d.vote, .int .u64 d.s.si, .int .u64 d.s.st, .slice d.s.nA d.s.nodes.length d.s.nc, .int .i64 d.s.lim, .int .u64 d.s.nxt, .slice d.s.hA d.s.held.length d.s.hc, .slice d.s.lA d.s.last.length d.s.lc, .slice d.gA d.log.length d.gc], .agg #[.int .i64 4, .int .i64 0, .int .u64 0, .int .u64 0, .int .u64 ix, .int .u64 0, .int .i64 0, .int .i64 0, .int .i64 0, .slice none 0 0, .int .u64 0, .int .u64 0, .int .u64 0, .int .u64 0, .int .u64 0, .int .u64 0, .slice none 0 0, .int .i64 0, .int .u64 0, .slice none 0 0, .slice none 0 0]] w (DoneL d (d.log.take k) w) := by
  have HK := Aside0.mk hk
  have HZ := Aside0.mk hz
  have HG := Aside0.mk hg
  have HI := Aside0.mk hix
  have HKN := Aside0.mk hkn
  have HCK := Aside0.mk (fun w1 (h : d.ok w1) => by
    have := refHard_any d w1 h
    rw [HG.out, if_pos rfl] at this
    exact this)
  have hi1 : 1 ≤ ix := by have := hk.s.si.1; omega
  have HMY := Aside0.mk (fun w1 => refMay_cut ix w1 hi1)
  clear hk hz hg hkn hix hi1
  have HS := Aside0.mk (SH.start w)
  go_enter Try.func49, Try.ntmps49
  go_upto_region 3 with (first | (go_at_call 63; (with_reducible refine (HCK.out _ (HK.out.sh HS.out)).mono ?_); rintro e w2 ⟨rfl, hb⟩;  have HS1 := HS.out.quiet hb; clear HS hb; have HS := Aside0.mk HS1; clear HS1) | (go_at_call 64; (with_reducible refine (HMY.out _).mono ?_); rintro e w2 ⟨rfl, hb⟩;  have HS1 := HS.out.quiet hb; clear HS hb; have HS := Aside0.mk HS1; clear HS1) | ((fail_if_success (have _ := b2)); ((with_reducible refine gB rfl ?_); refine bx HS.out rfl rfl ?_; (first | refine bv (v := .agg (List.toArray _)) rfl ?_ | refine bv (v := .int _ _) rfl ?_ | refine bv (v := .slice _ _ _) rfl ?_ | refine bv (v := .bool _) rfl ?_ | refine bv (v := .pointer _) rfl ?_); clear HS; intro b2 w1 hb2 HS1; (simp only [Ent.enc, Led.Held.enc, Led.Last.enc, Rc.enc, segOf, aL, aC, aE] at HS1); have HS := Aside0.mk HS1; clear HS1; try simp only [aP, aN, aT, aZ, aS])) | ((fail_if_success (have _ := b3)); ((with_reducible refine gB rfl ?_); refine bx HS.out rfl rfl ?_; (first | refine bv (v := .agg (List.toArray _)) rfl ?_ | refine bv (v := .int _ _) rfl ?_ | refine bv (v := .slice _ _ _) rfl ?_ | refine bv (v := .bool _) rfl ?_ | refine bv (v := .pointer _) rfl ?_); clear HS; intro b3 w1 hb3 HS1; (simp only [Ent.enc, Led.Held.enc, Led.Last.enc, Rc.enc, segOf, aL, aC, aE] at HS1); have HS := Aside0.mk HS1; clear HS1; try simp only [aP, aN, aT, aZ, aS])) | ((fail_if_success (have _ := b4)); ((with_reducible refine gA rfl ?_); refine sh_alloc HS.out rfl rfl (zeT _ (by decide)) ?_; clear HS; intro b4 w1 hb4 HS1; (simp only [Ent.enc, Led.Held.enc, Led.Last.enc, Rc.enc, zeF, segOf, aL, aC, aE] at HS1); have HS := Aside0.mk HS1; clear HS1; try simp only [aP, aN, aT, aZ, aS])) | ((first | ((first | ((with_reducible refine gA rfl ?_); refine sh_alloc HS.out rfl rfl (zeT _ (by decide)) ?_) | ((with_reducible refine gB rfl ?_); refine bx HS.out rfl rfl ?_; first | refine bv (v := .agg (List.toArray _)) rfl ?_ | refine bv (v := .int _ _) rfl ?_ | refine bv (v := .slice _ _ _) rfl ?_ | refine bv (v := .bool _) rfl ?_ | refine bv (v := .pointer _) rfl ?_) | ((with_reducible refine gL rfl ?_); refine sh_lit HS.out rfl rfl (by go_simp; exact ⟨⟨rfl, rfl⟩, rfl⟩) ?_)); clear HS; intro g w1 hg HS1; (simp only [Ent.enc, Led.Held.enc, Led.Last.enc, Rc.enc, zeF, segOf, aL, aC, aE] at HS1); have HS := Aside0.mk HS1; clear HS1) | ((with_reducible refine gLd rfl ?_); refine ld2 HS.out rfl rfl rfl (by repeat (first | exact AtI.here | apply AtI.there)) ?_; (first | refine LdK.one ((agT _ (by decide)).trans rfl) rfl ?_ | (refine LdK.agg ((agT _ (by decide)).trans rfl) (szT _ (by decide)) (lb rfl) ?_; try simp only [szL, aP, aN, aT, aZ, aS, aD, aF, aJ, aK, aM, aO]))) | ((with_reducible refine gSt rfl ?_); refine st2 HS.out rfl rfl rfl rfl (by repeat (first | exact AtI.here | apply AtI.there)) ?_; (first | refine sv (u := .agg (List.toArray _)) rfl ?_ | refine sv (u := .int _ _) rfl ?_ | refine sv (u := .slice _ _ _) rfl ?_ | refine sv (u := .bool _) rfl ?_ | refine sv (u := .pointer _) rfl ?_); refine sw (szT _ (by decide)) rfl (lb rfl) ?_; clear HS; intro w1 HS1; (simp only [Ent.enc, Led.Held.enc, Led.Last.enc, Rc.enc, segOf, aL, aZ, aS, putSeg] at HS1); have HS := Aside0.mk HS1; clear HS1)); try simp only [aP, aN, aT, aZ, aS]))
  have HC := Aside0.mk (HS.out.pick [0, 1] rfl (by decide))
  refine kheld_start [] mixed HC.out (fun HC1 => ?_)
  have HS1 := HS.out.drew
  clear HS HC
  have HS := Aside0.mk HS1
  have HC := Aside0.mk HC1
  clear HS1 HC1
  refine k_loads 0 (by simp only [aG, aH, aI]; rfl) (by kernel_rfl) (by kernel_rfl) (by kernel_rfl) (by kernel_rfl) (v := _) (by exact fun _ _ _ h => h) HC.out (by kernel_rfl) rfl rfl 0 rfl ((agT _ (by decide)).trans rfl) (szT _ (by decide)) (lb rfl) rfl ?_
  (try simp only [szL, aP, aN, aT, aZ, aS, aD, aF, aJ, aK, aM, aO])
  (try simp only [aP, aN, aT, aZ, aS])
  refine k_loads 2 (by simp only [aG, aH, aI]; rfl) (by kernel_rfl) (by kernel_rfl) (by kernel_rfl) (by kernel_rfl) (v := _) (by exact fun _ _ _ h => h) HC.out (by kernel_rfl) rfl rfl 1 rfl ((agT _ (by decide)).trans rfl) (szT _ (by decide)) (lb rfl) rfl ?_
  (try simp only [szL, aP, aN, aT, aZ, aS, aD, aF, aJ, aK, aM, aO])
  (try simp only [aP, aN, aT, aZ, aS])
  refine k_two 1 8 (by kernel_rfl) ?_ ?_
  · skip
    refine k_callI 1 (by simp only [aG, aH, aI]; rfl) (by kernel_rfl) rfl (vs := #[.agg #[.int .u64 d.boot, .int .u64 d.term, .int .i64 d.vote, .int .u64 d.s.si, .int .u64 d.s.st, .slice d.s.nA d.s.nodes.length d.s.nc, .int .i64 d.s.lim, .int .u64 d.s.nxt, .slice d.s.hA d.s.held.length d.s.hc, .slice d.s.lA d.s.last.length d.s.lc, .slice d.gA d.log.length d.gc]]) (by kernel_rfl) (fnT _ (by decide)) (cpHardR_any d _ (HK.out.sh HS.out) HZ.out) (fun e w2 hpost => ?_); obtain ⟨d1, S1, S2, S3, S4, S5, rfl, hsm, hhc, hgc, HS2⟩ := hpost; have HSN := (show SH w w2 [_, _, _, _, _, _, _, _] from HS.out.call HS2); have HC1 := HSN.pick [0, 1] rfl (by decide); refine ⟨_, rfl, HC1, ?_⟩; clear HS HC; have HS := Aside0.mk HSN; have HC := Aside0.mk HC1; clear HSN HC1 ; have HSM := Aside0.mk hsm; have HHC := Aside0.mk hhc; have HGC := Aside0.mk hgc; clear hsm hhc hgc HS2; have hlen1 : d1.log.length = d.log.length := same_len HSM.out; have hg1 := (same_hardOk HSM.out).trans HG.out; have HK1 := Aside0.mk (show k ≤ d1.log.length by rw [hlen1]; exact HKN.out); have HI1 := Aside0.mk (show ix = d1.s.si + k + 1 by rw [HSM.out.s.si]; exact HI.out); obtain ⟨L2, hL2⟩ : ∃ L2, d1.log.take k = L2 := ⟨_, rfl⟩; have HL2 := Aside0.mk hL2; have HLN := Aside0.mk hlen1; have HG1 := Aside0.mk hg1; clear hL2 hlen1 hg1
    (try simp only [aP, aN, aT, aZ, aS])
    refine k_two 3 8 (by kernel_rfl) ?_ ?_
    · skip
      refine k_callI 3 (by simp only [aG, aH, aI]; rfl) (by kernel_rfl) rfl (vs := #[.agg #[.int .i64 4, .int .i64 0, .int .u64 0, .int .u64 0, .int .u64 ix, .int .u64 0, .int .i64 0, .int .i64 0, .int .i64 0, .slice none 0 0, .int .u64 0, .int .u64 0, .int .u64 0, .int .u64 0, .int .u64 0, .int .u64 0, .slice none 0 0, .int .i64 0, .int .u64 0, .slice none 0 0, .slice none 0 0]]) (by kernel_rfl) (fnT _ (by decide)) (cpRec_cut ix _) (fun e w2 hpost => ?_); obtain ⟨rfl, hb⟩ := hpost; have HSN := HS.out.quiet hb; have HC1 := HSN.pick [0, 1] rfl (by decide); refine ⟨_, rfl, HC1, ?_⟩; clear HS HC; have HS := Aside0.mk HSN; have HC := Aside0.mk HC1; clear HSN HC1 ; clear hb
      (try simp only [aP, aN, aT, aZ, aS])
      refine k_two 4 8 (by kernel_rfl) ?_ ?_
      · skip
        refine k_callI 4 (by simp only [aG, aH, aI]; rfl) (by kernel_rfl) rfl (vs := #[.agg #[.int .u64 d1.boot, .int .u64 d1.term, .int .i64 d1.vote, .int .u64 d1.s.si, .int .u64 d1.s.st, .slice d1.s.nA d1.s.nodes.length d1.s.nc, .int .i64 d1.s.lim, .int .u64 d1.s.nxt, .slice d1.s.hA d1.s.held.length d1.s.hc, .slice d1.s.lA d1.s.last.length d1.s.lc, .slice d1.gA d1.log.length d1.gc], .agg #[.int .i64 4, .int .i64 0, .int .u64 0, .int .u64 0, .int .u64 ix, .int .u64 0, .int .i64 0, .int .i64 0, .int .i64 0, .slice none 0 0, .int .u64 0, .int .u64 0, .int .u64 0, .int .u64 0, .int .u64 0, .int .u64 0, .slice none 0 0, .int .i64 0, .int .u64 0, .slice none 0 0, .slice none 0 0]]) (by kernel_rfl) (fnT _ (by decide)) (refDone_cutL d1 k ix L2 _ (d1ok HSM.out HK.out HHC.out (HS.out.at 3 rfl).1 (HS.out.at 4 rfl).1 (HS.out.at 5 rfl).1 (row_rds (hl := Ent.len) (h1 := Ent.one) 6 rfl _ HS.out) (fun e he => (HS.out.at 7 rfl e he).1)) HG1.out HK1.out HGC.out HI1.out HL2.out) (fun e w2 hpost => ?_); obtain ⟨rfl, hb⟩ := hpost; have HSN := HS.out.quiet hb; have HC1 := HSN.pick [0, 1] rfl (by decide); refine ⟨_, rfl, HC1, ?_⟩; clear HS HC; have HS := Aside0.mk HSN; have HC := Aside0.mk HC1; clear HSN HC1 ; clear hb
        (try simp only [aP, aN, aT, aZ, aS])
        refine k_any 5 (v := _) (by simp only [aG, aH, aI]; rfl) (by kernel_rfl) (by kernel_rfl) (by kernel_rfl) (by kernel_rfl) (by exact fun _ _ _ h => h) (.inr HC.out) (by kernel_rfl) (fun w => by (repeat (rename ∀ (_ : Act) (_ : World), _ => hK9; clear hK9)); go_simp; rfl) ?_
        (try simp only [aP, aN, aT, aZ, aS])
        refine k_any 6 (v := _) (by simp only [aG, aH, aI]; rfl) (by kernel_rfl) (by kernel_rfl) (by kernel_rfl) (by kernel_rfl) (by exact fun _ _ _ h => h) (.inr HC.out) (by kernel_rfl) (fun w => by (repeat (rename ∀ (_ : Act) (_ : World), _ => hK9; clear hK9)); go_simp; rfl) ?_
        (try simp only [aP, aN, aT, aZ, aS])
        refine k_any 7 (v := _) (by simp only [aG, aH, aI]; rfl) (by kernel_rfl) (by kernel_rfl) (by kernel_rfl) (by kernel_rfl) (by exact fun _ _ _ h => h) (.inr HC.out) (by kernel_rfl) (fun w => by (repeat (rename ∀ (_ : Act) (_ : World), _ => hK9; clear hK9)); go_simp; rfl) ?_
        (try simp only [aP, aN, aT, aZ, aS])
        refine k_one 8 (by simp only [aG, aH, aI]; rfl) (by kernel_rfl) ?_
        ((with_reducible refine gA rfl ?_); refine sh_alloc HS.out rfl rfl (zeT _ (by decide)) ?_; clear HS; intro g w1 hg HS1; (simp only [Ent.enc, Led.Held.enc, Led.Last.enc, Rc.enc, zeF, segOf, aL, aC, aE] at HS1); have HS := Aside0.mk HS1; clear HS1; try simp only [aP, aN, aT, aZ, aS])
        have HC1 := HS.out.pick [0, 1] rfl (by decide)
        clear HC
        have HC := Aside0.mk HC1
        clear HC1
        refine k_nil (.inr HC.out) ?_
        (try simp only [aP, aN, aT, aZ, aS])
        refine k_one 9 (by simp only [aG, aH, aI]; rfl) (by kernel_rfl) ?_
        ((with_reducible refine gSt rfl ?_); refine st2 HS.out rfl rfl rfl rfl (by repeat (first | exact AtI.here | apply AtI.there)) ?_; (first | refine sv (u := .agg (List.toArray _)) rfl ?_ | refine sv (u := .int _ _) rfl ?_ | refine sv (u := .slice _ _ _) rfl ?_ | refine sv (u := .bool _) rfl ?_ | refine sv (u := .pointer _) rfl ?_); refine sw (szT _ (by decide)) rfl (lb rfl) ?_; clear HS; intro w1 HS1; (simp only [Ent.enc, Led.Held.enc, Led.Last.enc, Rc.enc, segOf, aL, aZ, aS, putSeg] at HS1); have HS := Aside0.mk HS1; clear HS1; try simp only [aP, aN, aT, aZ, aS])
        have HC1 := HS.out.pick [0, 1] rfl (by decide)
        clear HC
        have HC := Aside0.mk HC1
        clear HC1
        refine k_nil (.inr HC.out) ?_
        (try simp only [aP, aN, aT, aZ, aS])
        refine k_any 10 (v := _) (by simp only [aG, aH, aI]; rfl) (by kernel_rfl) (by kernel_rfl) (by kernel_rfl) (by kernel_rfl) (by exact fun _ _ _ h => h) (.inr HC.out) (by kernel_rfl) (fun w => by (repeat (rename ∀ (_ : Act) (_ : World), _ => hK9; clear hK9)); go_simp; rfl) ?_
        (try simp only [aP, aN, aT, aZ, aS])
        refine k_done (by kernel_rfl) ?_ _
        have hd2 : k = L2.length := by rw [← HL2.out, List.length_take]; have := HK1.out; omega
        have HD2 := Aside0.mk hd2
        have HBT := Aside0.mk (@hardOk_take d1 ⟨d1.boot, d1.term, d1.vote, d1.s, cutA d1.gA d1.gc 0, d1.gc, L2⟩ _ k (d1ok HSM.out HK.out HHC.out (HS.out.at 3 rfl).1 (HS.out.at 4 rfl).1 (HS.out.at 5 rfl).1 (row_rds (hl := Ent.len) (h1 := Ent.one) 6 rfl _ HS.out) (fun e he => (HS.out.at 7 rfl e he).1)) HG1.out HK1.out rfl rfl rfl ⟨rfl, rfl, rfl, rfl, rfl, rfl, rfl⟩ (by rw [← HL2.out]))
        have HCX := Aside0.mk (fun w2 (h : Hrd.ok w2 ⟨d1.boot, d1.term, d1.vote, d1.s, cutA d1.gA d1.gc 0, d1.gc, L2⟩) => by
          have := refHard_any ⟨d1.boot, d1.term, d1.vote, d1.s, cutA d1.gA d1.gc 0, d1.gc, L2⟩ w2 h
          rw [HBT.out, if_pos rfl] at this
          exact this)
        have HS3 := ((show SH w w1 [_, _, _, _, _, _, _, _, _] from HS.out).say 6 (i' := rdI Ent.enc 9 (cutA d1.gA d1.gc 0) k (d1.log.take k) S4) rfl (fun h => ⟨take_rd (rowok_rd (hl := Ent.len) (h1 := Ent.one) h).1 HK1.out HGC.out, cutA_in (rowok_rd (hl := Ent.len) (h1 := Ent.one) h).2.1⟩) (fun b hb => hb)).say 7 (i' := nodesI (d1.log.take k) S5) rfl (fun h e he => h e (List.mem_of_mem_take he)) (fun b hb => hb)
        rw [HL2.out, HD2.out] at HS3
        simp only [aZ, aS] at HS3
        clear HS HC hd2
        have HS := Aside0.mk HS3
        clear HS3
        go_wp2_with (first | (go_at_call 63; have HW8 := d1ok (A := cutA d1.gA d1.gc 0) (c := d1.gc) HSM.out HK.out HHC.out (HS.out.at 3 rfl).1 (HS.out.at 4 rfl).1 (HS.out.at 5 rfl).1 (HS.out.at 6 rfl).1 (fun e he => (HS.out.at 7 rfl e he).1); (go_at_call 63; (with_reducible refine (HCX.out _ HW8).mono ?_); rintro e w2 ⟨rfl, hb⟩;  have HS1 := HS.out.quiet hb; clear HS hb; have HS := Aside0.mk HS1; clear HS1); clear HW8) | ((first | ((first | ((with_reducible refine gA rfl ?_); refine sh_alloc HS.out rfl rfl (zeT _ (by decide)) ?_) | ((with_reducible refine gB rfl ?_); refine bx HS.out rfl rfl ?_; first | refine bv (v := .agg (List.toArray _)) rfl ?_ | refine bv (v := .int _ _) rfl ?_ | refine bv (v := .slice _ _ _) rfl ?_ | refine bv (v := .bool _) rfl ?_ | refine bv (v := .pointer _) rfl ?_) | ((with_reducible refine gL rfl ?_); refine sh_lit HS.out rfl rfl (by go_simp; exact ⟨⟨rfl, rfl⟩, rfl⟩) ?_)); clear HS; intro g w1 hg HS1; (simp only [Ent.enc, Led.Held.enc, Led.Last.enc, Rc.enc, zeF, segOf, aL, aC, aE] at HS1); have HS := Aside0.mk HS1; clear HS1) | ((with_reducible refine gLd rfl ?_); refine ld2 HS.out rfl rfl rfl (by repeat (first | exact AtI.here | apply AtI.there)) ?_; (first | refine LdK.one ((agT _ (by decide)).trans rfl) rfl ?_ | (refine LdK.agg ((agT _ (by decide)).trans rfl) (szT _ (by decide)) (lb rfl) ?_; try simp only [szL, aP, aN, aT, aZ, aS, aD, aF, aJ, aK, aM, aO]))) | ((with_reducible refine gSt rfl ?_); refine st2 HS.out rfl rfl rfl rfl (by repeat (first | exact AtI.here | apply AtI.there)) ?_; (first | refine sv (u := .agg (List.toArray _)) rfl ?_ | refine sv (u := .int _ _) rfl ?_ | refine sv (u := .slice _ _ _) rfl ?_ | refine sv (u := .bool _) rfl ?_ | refine sv (u := .pointer _) rfl ?_); refine sw (szT _ (by decide)) rfl (lb rfl) ?_; clear HS; intro w1 HS1; (simp only [Ent.enc, Led.Held.enc, Led.Last.enc, Rc.enc, segOf, aL, aZ, aS, putSeg] at HS1); have HS := Aside0.mk HS1; clear HS1)); try simp only [aP, aN, aT, aZ, aS]))
        refine bodyPost_ret (results_list (rs := [.cell 4 32, .tmp 5]) rfl (by simp) (.cell _ _ _ _ _ rfl (HS.out.blk 2 rfl) Try.underlying32 rfl ((szT _ (by decide)).trans rfl) (.tmp .nil))) rfl ?_
        exact ⟨⟨d1.boot, d1.term, d1.vote, d1.s, cutA d1.gA d1.gc 0, d1.gc, L2⟩, S1, S2, S3, S4, S5, rfl, HSM.out.boot, HSM.out.term, HSM.out.vote, HSM.out.s, by show L2.map Ent.data = _; rw [← HL2.out, List.map_take, List.map_take, HSM.out.log], HHC.out, by show L2.length ≤ d1.gc; rw [← HD2.out]; have := HGC.out; have := HK1.out; omega, HS.out.pick [3, 4, 5, 6, 7] rfl (by decide)⟩
      · skip
        refine k_oneI 8 (by simp only [aG, aH, aI]; rfl) ?_
        ((with_reducible refine gA rfl ?_); refine sh_alloc HS.out rfl rfl (zeT _ (by decide)) ?_; clear HS; intro g w1 hg HS1; (simp only [Ent.enc, Led.Held.enc, Led.Last.enc, Rc.enc, zeF, segOf, aL, aC, aE] at HS1); have HS := Aside0.mk HS1; clear HS1; try simp only [aP, aN, aT, aZ, aS])
        have HC1 := HS.out.pick [0, 1] rfl (by decide)
        clear HC
        have HC := Aside0.mk HC1
        clear HC1
        refine k_nil (.inr HC.out) ?_
        (try simp only [aP, aN, aT, aZ, aS])
        refine k_call 4 (by simp only [aG, aH, aI]; rfl) (by kernel_rfl) (by kernel_rfl) rfl (vs := #[.agg #[.int .u64 d1.boot, .int .u64 d1.term, .int .i64 d1.vote, .int .u64 d1.s.si, .int .u64 d1.s.st, .slice d1.s.nA d1.s.nodes.length d1.s.nc, .int .i64 d1.s.lim, .int .u64 d1.s.nxt, .slice d1.s.hA d1.s.held.length d1.s.hc, .slice d1.s.lA d1.s.last.length d1.s.lc, .slice d1.gA d1.log.length d1.gc], .agg #[.int .i64 4, .int .i64 0, .int .u64 0, .int .u64 0, .int .u64 ix, .int .u64 0, .int .i64 0, .int .i64 0, .int .i64 0, .slice none 0 0, .int .u64 0, .int .u64 0, .int .u64 0, .int .u64 0, .int .u64 0, .int .u64 0, .slice none 0 0, .int .i64 0, .int .u64 0, .slice none 0 0, .slice none 0 0]]) (by kernel_rfl) (fnT _ (by decide)) (refDone_cutL d1 k ix L2 _ (d1ok HSM.out HK.out HHC.out (HS.out.at 3 rfl).1 (HS.out.at 4 rfl).1 (HS.out.at 5 rfl).1 (row_rds (hl := Ent.len) (h1 := Ent.one) 6 rfl _ HS.out) (fun e he => (HS.out.at 7 rfl e he).1)) HG1.out HK1.out HGC.out HI1.out HL2.out) (fun e w2 hpost => ?_); obtain ⟨rfl, hb⟩ := hpost; have HSN := HS.out.quiet hb; have HC1 := HSN.pick [0, 1] rfl (by decide); refine ⟨_, rfl, HC1, ?_⟩; clear HS HC; have HS := Aside0.mk HSN; have HC := Aside0.mk HC1; clear HSN HC1 ; clear hb
        (try simp only [aP, aN, aT, aZ, aS])
        refine k_any 5 (v := _) (by simp only [aG, aH, aI]; rfl) (by kernel_rfl) (by kernel_rfl) (by kernel_rfl) (by kernel_rfl) (by exact fun _ _ _ h => h) (.inr HC.out) (by kernel_rfl) (fun w => by (repeat (rename ∀ (_ : Act) (_ : World), _ => hK9; clear hK9)); go_simp; rfl) ?_
        (try simp only [aP, aN, aT, aZ, aS])
        refine k_any 6 (v := _) (by simp only [aG, aH, aI]; rfl) (by kernel_rfl) (by kernel_rfl) (by kernel_rfl) (by kernel_rfl) (by exact fun _ _ _ h => h) (.inr HC.out) (by kernel_rfl) (fun w => by (repeat (rename ∀ (_ : Act) (_ : World), _ => hK9; clear hK9)); go_simp; rfl) ?_
        (try simp only [aP, aN, aT, aZ, aS])
        refine k_any 7 (v := _) (by simp only [aG, aH, aI]; rfl) (by kernel_rfl) (by kernel_rfl) (by kernel_rfl) (by kernel_rfl) (by exact fun _ _ _ h => h) (.inr HC.out) (by kernel_rfl) (fun w => by (repeat (rename ∀ (_ : Act) (_ : World), _ => hK9; clear hK9)); go_simp; rfl) ?_
        (try simp only [aP, aN, aT, aZ, aS])
        refine k_one 9 (by simp only [aG, aH, aI]; rfl) (by kernel_rfl) ?_
        ((with_reducible refine gSt rfl ?_); refine st2 HS.out rfl rfl rfl rfl (by repeat (first | exact AtI.here | apply AtI.there)) ?_; (first | refine sv (u := .agg (List.toArray _)) rfl ?_ | refine sv (u := .int _ _) rfl ?_ | refine sv (u := .slice _ _ _) rfl ?_ | refine sv (u := .bool _) rfl ?_ | refine sv (u := .pointer _) rfl ?_); refine sw (szT _ (by decide)) rfl (lb rfl) ?_; clear HS; intro w1 HS1; (simp only [Ent.enc, Led.Held.enc, Led.Last.enc, Rc.enc, segOf, aL, aZ, aS, putSeg] at HS1); have HS := Aside0.mk HS1; clear HS1; try simp only [aP, aN, aT, aZ, aS])
        have HC1 := HS.out.pick [0, 1] rfl (by decide)
        clear HC
        have HC := Aside0.mk HC1
        clear HC1
        refine k_nil (.inr HC.out) ?_
        (try simp only [aP, aN, aT, aZ, aS])
        refine k_any 10 (v := _) (by simp only [aG, aH, aI]; rfl) (by kernel_rfl) (by kernel_rfl) (by kernel_rfl) (by kernel_rfl) (by exact fun _ _ _ h => h) (.inr HC.out) (by kernel_rfl) (fun w => by (repeat (rename ∀ (_ : Act) (_ : World), _ => hK9; clear hK9)); go_simp; rfl) ?_
        (try simp only [aP, aN, aT, aZ, aS])
        refine k_done (by kernel_rfl) ?_ _
        have hd2 : k = L2.length := by rw [← HL2.out, List.length_take]; have := HK1.out; omega
        have HD2 := Aside0.mk hd2
        have HBT := Aside0.mk (@hardOk_take d1 ⟨d1.boot, d1.term, d1.vote, d1.s, cutA d1.gA d1.gc 0, d1.gc, L2⟩ _ k (d1ok HSM.out HK.out HHC.out (HS.out.at 3 rfl).1 (HS.out.at 4 rfl).1 (HS.out.at 5 rfl).1 (row_rds (hl := Ent.len) (h1 := Ent.one) 6 rfl _ HS.out) (fun e he => (HS.out.at 7 rfl e he).1)) HG1.out HK1.out rfl rfl rfl ⟨rfl, rfl, rfl, rfl, rfl, rfl, rfl⟩ (by rw [← HL2.out]))
        have HCX := Aside0.mk (fun w2 (h : Hrd.ok w2 ⟨d1.boot, d1.term, d1.vote, d1.s, cutA d1.gA d1.gc 0, d1.gc, L2⟩) => by
          have := refHard_any ⟨d1.boot, d1.term, d1.vote, d1.s, cutA d1.gA d1.gc 0, d1.gc, L2⟩ w2 h
          rw [HBT.out, if_pos rfl] at this
          exact this)
        have HS3 := ((show SH w w1 [_, _, _, _, _, _, _, _, _] from HS.out).say 6 (i' := rdI Ent.enc 9 (cutA d1.gA d1.gc 0) k (d1.log.take k) S4) rfl (fun h => ⟨take_rd (rowok_rd (hl := Ent.len) (h1 := Ent.one) h).1 HK1.out HGC.out, cutA_in (rowok_rd (hl := Ent.len) (h1 := Ent.one) h).2.1⟩) (fun b hb => hb)).say 7 (i' := nodesI (d1.log.take k) S5) rfl (fun h e he => h e (List.mem_of_mem_take he)) (fun b hb => hb)
        rw [HL2.out, HD2.out] at HS3
        simp only [aZ, aS] at HS3
        clear HS HC hd2
        have HS := Aside0.mk HS3
        clear HS3
        go_wp2_with (first | (go_at_call 63; have HW8 := d1ok (A := cutA d1.gA d1.gc 0) (c := d1.gc) HSM.out HK.out HHC.out (HS.out.at 3 rfl).1 (HS.out.at 4 rfl).1 (HS.out.at 5 rfl).1 (HS.out.at 6 rfl).1 (fun e he => (HS.out.at 7 rfl e he).1); (go_at_call 63; (with_reducible refine (HCX.out _ HW8).mono ?_); rintro e w2 ⟨rfl, hb⟩;  have HS1 := HS.out.quiet hb; clear HS hb; have HS := Aside0.mk HS1; clear HS1); clear HW8) | ((first | ((first | ((with_reducible refine gA rfl ?_); refine sh_alloc HS.out rfl rfl (zeT _ (by decide)) ?_) | ((with_reducible refine gB rfl ?_); refine bx HS.out rfl rfl ?_; first | refine bv (v := .agg (List.toArray _)) rfl ?_ | refine bv (v := .int _ _) rfl ?_ | refine bv (v := .slice _ _ _) rfl ?_ | refine bv (v := .bool _) rfl ?_ | refine bv (v := .pointer _) rfl ?_) | ((with_reducible refine gL rfl ?_); refine sh_lit HS.out rfl rfl (by go_simp; exact ⟨⟨rfl, rfl⟩, rfl⟩) ?_)); clear HS; intro g w1 hg HS1; (simp only [Ent.enc, Led.Held.enc, Led.Last.enc, Rc.enc, zeF, segOf, aL, aC, aE] at HS1); have HS := Aside0.mk HS1; clear HS1) | ((with_reducible refine gLd rfl ?_); refine ld2 HS.out rfl rfl rfl (by repeat (first | exact AtI.here | apply AtI.there)) ?_; (first | refine LdK.one ((agT _ (by decide)).trans rfl) rfl ?_ | (refine LdK.agg ((agT _ (by decide)).trans rfl) (szT _ (by decide)) (lb rfl) ?_; try simp only [szL, aP, aN, aT, aZ, aS, aD, aF, aJ, aK, aM, aO]))) | ((with_reducible refine gSt rfl ?_); refine st2 HS.out rfl rfl rfl rfl (by repeat (first | exact AtI.here | apply AtI.there)) ?_; (first | refine sv (u := .agg (List.toArray _)) rfl ?_ | refine sv (u := .int _ _) rfl ?_ | refine sv (u := .slice _ _ _) rfl ?_ | refine sv (u := .bool _) rfl ?_ | refine sv (u := .pointer _) rfl ?_); refine sw (szT _ (by decide)) rfl (lb rfl) ?_; clear HS; intro w1 HS1; (simp only [Ent.enc, Led.Held.enc, Led.Last.enc, Rc.enc, segOf, aL, aZ, aS, putSeg] at HS1); have HS := Aside0.mk HS1; clear HS1)); try simp only [aP, aN, aT, aZ, aS]))
        refine bodyPost_ret (results_list (rs := [.cell 4 32, .tmp 5]) rfl (by simp) (.cell _ _ _ _ _ rfl (HS.out.blk 2 rfl) Try.underlying32 rfl ((szT _ (by decide)).trans rfl) (.tmp .nil))) rfl ?_
        exact ⟨⟨d1.boot, d1.term, d1.vote, d1.s, cutA d1.gA d1.gc 0, d1.gc, L2⟩, S1, S2, S3, S4, S5, rfl, HSM.out.boot, HSM.out.term, HSM.out.vote, HSM.out.s, by show L2.map Ent.data = _; rw [← HL2.out, List.map_take, List.map_take, HSM.out.log], HHC.out, by show L2.length ≤ d1.gc; rw [← HD2.out]; have := HGC.out; have := HK1.out; omega, HS.out.pick [3, 4, 5, 6, 7] rfl (by decide)⟩
    · skip
      refine k_oneI 8 (by simp only [aG, aH, aI]; rfl) ?_
      ((with_reducible refine gA rfl ?_); refine sh_alloc HS.out rfl rfl (zeT _ (by decide)) ?_; clear HS; intro g w1 hg HS1; (simp only [Ent.enc, Led.Held.enc, Led.Last.enc, Rc.enc, zeF, segOf, aL, aC, aE] at HS1); have HS := Aside0.mk HS1; clear HS1; try simp only [aP, aN, aT, aZ, aS])
      have HC1 := HS.out.pick [0, 1] rfl (by decide)
      clear HC
      have HC := Aside0.mk HC1
      clear HC1
      refine k_nil (.inr HC.out) ?_
      (try simp only [aP, aN, aT, aZ, aS])
      refine k_call 3 (by simp only [aG, aH, aI]; rfl) (by kernel_rfl) (by kernel_rfl) rfl (vs := #[.agg #[.int .i64 4, .int .i64 0, .int .u64 0, .int .u64 0, .int .u64 ix, .int .u64 0, .int .i64 0, .int .i64 0, .int .i64 0, .slice none 0 0, .int .u64 0, .int .u64 0, .int .u64 0, .int .u64 0, .int .u64 0, .int .u64 0, .slice none 0 0, .int .i64 0, .int .u64 0, .slice none 0 0, .slice none 0 0]]) (by kernel_rfl) (fnT _ (by decide)) (cpRec_cut ix _) (fun e w2 hpost => ?_); obtain ⟨rfl, hb⟩ := hpost; have HSN := HS.out.quiet hb; have HC1 := HSN.pick [0, 1] rfl (by decide); refine ⟨_, rfl, HC1, ?_⟩; clear HS HC; have HS := Aside0.mk HSN; have HC := Aside0.mk HC1; clear HSN HC1 ; clear hb
      (try simp only [aP, aN, aT, aZ, aS])
      refine k_call 4 (by simp only [aG, aH, aI]; rfl) (by kernel_rfl) (by kernel_rfl) rfl (vs := #[.agg #[.int .u64 d1.boot, .int .u64 d1.term, .int .i64 d1.vote, .int .u64 d1.s.si, .int .u64 d1.s.st, .slice d1.s.nA d1.s.nodes.length d1.s.nc, .int .i64 d1.s.lim, .int .u64 d1.s.nxt, .slice d1.s.hA d1.s.held.length d1.s.hc, .slice d1.s.lA d1.s.last.length d1.s.lc, .slice d1.gA d1.log.length d1.gc], .agg #[.int .i64 4, .int .i64 0, .int .u64 0, .int .u64 0, .int .u64 ix, .int .u64 0, .int .i64 0, .int .i64 0, .int .i64 0, .slice none 0 0, .int .u64 0, .int .u64 0, .int .u64 0, .int .u64 0, .int .u64 0, .int .u64 0, .slice none 0 0, .int .i64 0, .int .u64 0, .slice none 0 0, .slice none 0 0]]) (by kernel_rfl) (fnT _ (by decide)) (refDone_cutL d1 k ix L2 _ (d1ok HSM.out HK.out HHC.out (HS.out.at 3 rfl).1 (HS.out.at 4 rfl).1 (HS.out.at 5 rfl).1 (row_rds (hl := Ent.len) (h1 := Ent.one) 6 rfl _ HS.out) (fun e he => (HS.out.at 7 rfl e he).1)) HG1.out HK1.out HGC.out HI1.out HL2.out) (fun e w2 hpost => ?_); obtain ⟨rfl, hb⟩ := hpost; have HSN := HS.out.quiet hb; have HC1 := HSN.pick [0, 1] rfl (by decide); refine ⟨_, rfl, HC1, ?_⟩; clear HS HC; have HS := Aside0.mk HSN; have HC := Aside0.mk HC1; clear HSN HC1 ; clear hb
      (try simp only [aP, aN, aT, aZ, aS])
      refine k_any 5 (v := _) (by simp only [aG, aH, aI]; rfl) (by kernel_rfl) (by kernel_rfl) (by kernel_rfl) (by kernel_rfl) (by exact fun _ _ _ h => h) (.inr HC.out) (by kernel_rfl) (fun w => by (repeat (rename ∀ (_ : Act) (_ : World), _ => hK9; clear hK9)); go_simp; rfl) ?_
      (try simp only [aP, aN, aT, aZ, aS])
      refine k_any 6 (v := _) (by simp only [aG, aH, aI]; rfl) (by kernel_rfl) (by kernel_rfl) (by kernel_rfl) (by kernel_rfl) (by exact fun _ _ _ h => h) (.inr HC.out) (by kernel_rfl) (fun w => by (repeat (rename ∀ (_ : Act) (_ : World), _ => hK9; clear hK9)); go_simp; rfl) ?_
      (try simp only [aP, aN, aT, aZ, aS])
      refine k_any 7 (v := _) (by simp only [aG, aH, aI]; rfl) (by kernel_rfl) (by kernel_rfl) (by kernel_rfl) (by kernel_rfl) (by exact fun _ _ _ h => h) (.inr HC.out) (by kernel_rfl) (fun w => by (repeat (rename ∀ (_ : Act) (_ : World), _ => hK9; clear hK9)); go_simp; rfl) ?_
      (try simp only [aP, aN, aT, aZ, aS])
      refine k_one 9 (by simp only [aG, aH, aI]; rfl) (by kernel_rfl) ?_
      ((with_reducible refine gSt rfl ?_); refine st2 HS.out rfl rfl rfl rfl (by repeat (first | exact AtI.here | apply AtI.there)) ?_; (first | refine sv (u := .agg (List.toArray _)) rfl ?_ | refine sv (u := .int _ _) rfl ?_ | refine sv (u := .slice _ _ _) rfl ?_ | refine sv (u := .bool _) rfl ?_ | refine sv (u := .pointer _) rfl ?_); refine sw (szT _ (by decide)) rfl (lb rfl) ?_; clear HS; intro w1 HS1; (simp only [Ent.enc, Led.Held.enc, Led.Last.enc, Rc.enc, segOf, aL, aZ, aS, putSeg] at HS1); have HS := Aside0.mk HS1; clear HS1; try simp only [aP, aN, aT, aZ, aS])
      have HC1 := HS.out.pick [0, 1] rfl (by decide)
      clear HC
      have HC := Aside0.mk HC1
      clear HC1
      refine k_nil (.inr HC.out) ?_
      (try simp only [aP, aN, aT, aZ, aS])
      refine k_any 10 (v := _) (by simp only [aG, aH, aI]; rfl) (by kernel_rfl) (by kernel_rfl) (by kernel_rfl) (by kernel_rfl) (by exact fun _ _ _ h => h) (.inr HC.out) (by kernel_rfl) (fun w => by (repeat (rename ∀ (_ : Act) (_ : World), _ => hK9; clear hK9)); go_simp; rfl) ?_
      (try simp only [aP, aN, aT, aZ, aS])
      refine k_done (by kernel_rfl) ?_ _
      have hd2 : k = L2.length := by rw [← HL2.out, List.length_take]; have := HK1.out; omega
      have HD2 := Aside0.mk hd2
      have HBT := Aside0.mk (@hardOk_take d1 ⟨d1.boot, d1.term, d1.vote, d1.s, cutA d1.gA d1.gc 0, d1.gc, L2⟩ _ k (d1ok HSM.out HK.out HHC.out (HS.out.at 3 rfl).1 (HS.out.at 4 rfl).1 (HS.out.at 5 rfl).1 (row_rds (hl := Ent.len) (h1 := Ent.one) 6 rfl _ HS.out) (fun e he => (HS.out.at 7 rfl e he).1)) HG1.out HK1.out rfl rfl rfl ⟨rfl, rfl, rfl, rfl, rfl, rfl, rfl⟩ (by rw [← HL2.out]))
      have HCX := Aside0.mk (fun w2 (h : Hrd.ok w2 ⟨d1.boot, d1.term, d1.vote, d1.s, cutA d1.gA d1.gc 0, d1.gc, L2⟩) => by
        have := refHard_any ⟨d1.boot, d1.term, d1.vote, d1.s, cutA d1.gA d1.gc 0, d1.gc, L2⟩ w2 h
        rw [HBT.out, if_pos rfl] at this
        exact this)
      have HS3 := ((show SH w w1 [_, _, _, _, _, _, _, _, _] from HS.out).say 6 (i' := rdI Ent.enc 9 (cutA d1.gA d1.gc 0) k (d1.log.take k) S4) rfl (fun h => ⟨take_rd (rowok_rd (hl := Ent.len) (h1 := Ent.one) h).1 HK1.out HGC.out, cutA_in (rowok_rd (hl := Ent.len) (h1 := Ent.one) h).2.1⟩) (fun b hb => hb)).say 7 (i' := nodesI (d1.log.take k) S5) rfl (fun h e he => h e (List.mem_of_mem_take he)) (fun b hb => hb)
      rw [HL2.out, HD2.out] at HS3
      simp only [aZ, aS] at HS3
      clear HS HC hd2
      have HS := Aside0.mk HS3
      clear HS3
      go_wp2_with (first | (go_at_call 63; have HW8 := d1ok (A := cutA d1.gA d1.gc 0) (c := d1.gc) HSM.out HK.out HHC.out (HS.out.at 3 rfl).1 (HS.out.at 4 rfl).1 (HS.out.at 5 rfl).1 (HS.out.at 6 rfl).1 (fun e he => (HS.out.at 7 rfl e he).1); (go_at_call 63; (with_reducible refine (HCX.out _ HW8).mono ?_); rintro e w2 ⟨rfl, hb⟩;  have HS1 := HS.out.quiet hb; clear HS hb; have HS := Aside0.mk HS1; clear HS1); clear HW8) | ((first | ((first | ((with_reducible refine gA rfl ?_); refine sh_alloc HS.out rfl rfl (zeT _ (by decide)) ?_) | ((with_reducible refine gB rfl ?_); refine bx HS.out rfl rfl ?_; first | refine bv (v := .agg (List.toArray _)) rfl ?_ | refine bv (v := .int _ _) rfl ?_ | refine bv (v := .slice _ _ _) rfl ?_ | refine bv (v := .bool _) rfl ?_ | refine bv (v := .pointer _) rfl ?_) | ((with_reducible refine gL rfl ?_); refine sh_lit HS.out rfl rfl (by go_simp; exact ⟨⟨rfl, rfl⟩, rfl⟩) ?_)); clear HS; intro g w1 hg HS1; (simp only [Ent.enc, Led.Held.enc, Led.Last.enc, Rc.enc, zeF, segOf, aL, aC, aE] at HS1); have HS := Aside0.mk HS1; clear HS1) | ((with_reducible refine gLd rfl ?_); refine ld2 HS.out rfl rfl rfl (by repeat (first | exact AtI.here | apply AtI.there)) ?_; (first | refine LdK.one ((agT _ (by decide)).trans rfl) rfl ?_ | (refine LdK.agg ((agT _ (by decide)).trans rfl) (szT _ (by decide)) (lb rfl) ?_; try simp only [szL, aP, aN, aT, aZ, aS, aD, aF, aJ, aK, aM, aO]))) | ((with_reducible refine gSt rfl ?_); refine st2 HS.out rfl rfl rfl rfl (by repeat (first | exact AtI.here | apply AtI.there)) ?_; (first | refine sv (u := .agg (List.toArray _)) rfl ?_ | refine sv (u := .int _ _) rfl ?_ | refine sv (u := .slice _ _ _) rfl ?_ | refine sv (u := .bool _) rfl ?_ | refine sv (u := .pointer _) rfl ?_); refine sw (szT _ (by decide)) rfl (lb rfl) ?_; clear HS; intro w1 HS1; (simp only [Ent.enc, Led.Held.enc, Led.Last.enc, Rc.enc, segOf, aL, aZ, aS, putSeg] at HS1); have HS := Aside0.mk HS1; clear HS1)); try simp only [aP, aN, aT, aZ, aS]))
      refine bodyPost_ret (results_list (rs := [.cell 4 32, .tmp 5]) rfl (by simp) (.cell _ _ _ _ _ rfl (HS.out.blk 2 rfl) Try.underlying32 rfl ((szT _ (by decide)).trans rfl) (.tmp .nil))) rfl ?_
      exact ⟨⟨d1.boot, d1.term, d1.vote, d1.s, cutA d1.gA d1.gc 0, d1.gc, L2⟩, S1, S2, S3, S4, S5, rfl, HSM.out.boot, HSM.out.term, HSM.out.vote, HSM.out.s, by show L2.map Ent.data = _; rw [← HL2.out, List.map_take, List.map_take, HSM.out.log], HHC.out, by show L2.length ≤ d1.gc; rw [← HD2.out]; have := HGC.out; have := HK1.out; omega, HS.out.pick [3, 4, 5, 6, 7] rfl (by decide)⟩
  · skip
    refine k_oneI 8 (by simp only [aG, aH, aI]; rfl) ?_
    ((with_reducible refine gA rfl ?_); refine sh_alloc HS.out rfl rfl (zeT _ (by decide)) ?_; clear HS; intro g w1 hg HS1; (simp only [Ent.enc, Led.Held.enc, Led.Last.enc, Rc.enc, zeF, segOf, aL, aC, aE] at HS1); have HS := Aside0.mk HS1; clear HS1; try simp only [aP, aN, aT, aZ, aS])
    have HC1 := HS.out.pick [0, 1] rfl (by decide)
    clear HC
    have HC := Aside0.mk HC1
    clear HC1
    refine k_nil (.inr HC.out) ?_
    (try simp only [aP, aN, aT, aZ, aS])
    refine k_call 1 (by simp only [aG, aH, aI]; rfl) (by kernel_rfl) (by kernel_rfl) rfl (vs := #[.agg #[.int .u64 d.boot, .int .u64 d.term, .int .i64 d.vote, .int .u64 d.s.si, .int .u64 d.s.st, .slice d.s.nA d.s.nodes.length d.s.nc, .int .i64 d.s.lim, .int .u64 d.s.nxt, .slice d.s.hA d.s.held.length d.s.hc, .slice d.s.lA d.s.last.length d.s.lc, .slice d.gA d.log.length d.gc]]) (by kernel_rfl) (fnT _ (by decide)) (cpHardR_any d _ (HK.out.sh HS.out) HZ.out) (fun e w2 hpost => ?_); obtain ⟨d1, S1, S2, S3, S4, S5, rfl, hsm, hhc, hgc, HS2⟩ := hpost; have HSN := (show SH w w2 [_, _, _, _, _, _, _, _, _] from HS.out.call HS2).pick [0, 1, 2, 4, 5, 6, 7, 8, 3] rfl (by decide); have HC1 := HSN.pick [0, 1] rfl (by decide); refine ⟨_, rfl, HC1, ?_⟩; clear HS HC; have HS := Aside0.mk HSN; have HC := Aside0.mk HC1; clear HSN HC1 ; have HSM := Aside0.mk hsm; have HHC := Aside0.mk hhc; have HGC := Aside0.mk hgc; clear hsm hhc hgc HS2; have hlen1 : d1.log.length = d.log.length := same_len HSM.out; have hg1 := (same_hardOk HSM.out).trans HG.out; have HK1 := Aside0.mk (show k ≤ d1.log.length by rw [hlen1]; exact HKN.out); have HI1 := Aside0.mk (show ix = d1.s.si + k + 1 by rw [HSM.out.s.si]; exact HI.out); obtain ⟨L2, hL2⟩ : ∃ L2, d1.log.take k = L2 := ⟨_, rfl⟩; have HL2 := Aside0.mk hL2; have HLN := Aside0.mk hlen1; have HG1 := Aside0.mk hg1; clear hL2 hlen1 hg1
    (try simp only [aP, aN, aT, aZ, aS])
    refine k_call 3 (by simp only [aG, aH, aI]; rfl) (by kernel_rfl) (by kernel_rfl) rfl (vs := #[.agg #[.int .i64 4, .int .i64 0, .int .u64 0, .int .u64 0, .int .u64 ix, .int .u64 0, .int .i64 0, .int .i64 0, .int .i64 0, .slice none 0 0, .int .u64 0, .int .u64 0, .int .u64 0, .int .u64 0, .int .u64 0, .int .u64 0, .slice none 0 0, .int .i64 0, .int .u64 0, .slice none 0 0, .slice none 0 0]]) (by kernel_rfl) (fnT _ (by decide)) (cpRec_cut ix _) (fun e w2 hpost => ?_); obtain ⟨rfl, hb⟩ := hpost; have HSN := HS.out.quiet hb; have HC1 := HSN.pick [0, 1] rfl (by decide); refine ⟨_, rfl, HC1, ?_⟩; clear HS HC; have HS := Aside0.mk HSN; have HC := Aside0.mk HC1; clear HSN HC1 ; clear hb
    (try simp only [aP, aN, aT, aZ, aS])
    refine k_call 4 (by simp only [aG, aH, aI]; rfl) (by kernel_rfl) (by kernel_rfl) rfl (vs := #[.agg #[.int .u64 d1.boot, .int .u64 d1.term, .int .i64 d1.vote, .int .u64 d1.s.si, .int .u64 d1.s.st, .slice d1.s.nA d1.s.nodes.length d1.s.nc, .int .i64 d1.s.lim, .int .u64 d1.s.nxt, .slice d1.s.hA d1.s.held.length d1.s.hc, .slice d1.s.lA d1.s.last.length d1.s.lc, .slice d1.gA d1.log.length d1.gc], .agg #[.int .i64 4, .int .i64 0, .int .u64 0, .int .u64 0, .int .u64 ix, .int .u64 0, .int .i64 0, .int .i64 0, .int .i64 0, .slice none 0 0, .int .u64 0, .int .u64 0, .int .u64 0, .int .u64 0, .int .u64 0, .int .u64 0, .slice none 0 0, .int .i64 0, .int .u64 0, .slice none 0 0, .slice none 0 0]]) (by kernel_rfl) (fnT _ (by decide)) (refDone_cutL d1 k ix L2 _ (d1ok HSM.out HK.out HHC.out (HS.out.at 3 rfl).1 (HS.out.at 4 rfl).1 (HS.out.at 5 rfl).1 (row_rds (hl := Ent.len) (h1 := Ent.one) 6 rfl _ HS.out) (fun e he => (HS.out.at 7 rfl e he).1)) HG1.out HK1.out HGC.out HI1.out HL2.out) (fun e w2 hpost => ?_); obtain ⟨rfl, hb⟩ := hpost; have HSN := HS.out.quiet hb; have HC1 := HSN.pick [0, 1] rfl (by decide); refine ⟨_, rfl, HC1, ?_⟩; clear HS HC; have HS := Aside0.mk HSN; have HC := Aside0.mk HC1; clear HSN HC1 ; clear hb
    (try simp only [aP, aN, aT, aZ, aS])
    refine k_any 5 (v := _) (by simp only [aG, aH, aI]; rfl) (by kernel_rfl) (by kernel_rfl) (by kernel_rfl) (by kernel_rfl) (by exact fun _ _ _ h => h) (.inr HC.out) (by kernel_rfl) (fun w => by (repeat (rename ∀ (_ : Act) (_ : World), _ => hK9; clear hK9)); go_simp; rfl) ?_
    (try simp only [aP, aN, aT, aZ, aS])
    refine k_any 6 (v := _) (by simp only [aG, aH, aI]; rfl) (by kernel_rfl) (by kernel_rfl) (by kernel_rfl) (by kernel_rfl) (by exact fun _ _ _ h => h) (.inr HC.out) (by kernel_rfl) (fun w => by (repeat (rename ∀ (_ : Act) (_ : World), _ => hK9; clear hK9)); go_simp; rfl) ?_
    (try simp only [aP, aN, aT, aZ, aS])
    refine k_any 7 (v := _) (by simp only [aG, aH, aI]; rfl) (by kernel_rfl) (by kernel_rfl) (by kernel_rfl) (by kernel_rfl) (by exact fun _ _ _ h => h) (.inr HC.out) (by kernel_rfl) (fun w => by (repeat (rename ∀ (_ : Act) (_ : World), _ => hK9; clear hK9)); go_simp; rfl) ?_
    (try simp only [aP, aN, aT, aZ, aS])
    refine k_one 9 (by simp only [aG, aH, aI]; rfl) (by kernel_rfl) ?_
    ((with_reducible refine gSt rfl ?_); refine st2 HS.out rfl rfl rfl rfl (by repeat (first | exact AtI.here | apply AtI.there)) ?_; (first | refine sv (u := .agg (List.toArray _)) rfl ?_ | refine sv (u := .int _ _) rfl ?_ | refine sv (u := .slice _ _ _) rfl ?_ | refine sv (u := .bool _) rfl ?_ | refine sv (u := .pointer _) rfl ?_); refine sw (szT _ (by decide)) rfl (lb rfl) ?_; clear HS; intro w1 HS1; (simp only [Ent.enc, Led.Held.enc, Led.Last.enc, Rc.enc, segOf, aL, aZ, aS, putSeg] at HS1); have HS := Aside0.mk HS1; clear HS1; try simp only [aP, aN, aT, aZ, aS])
    have HC1 := HS.out.pick [0, 1] rfl (by decide)
    clear HC
    have HC := Aside0.mk HC1
    clear HC1
    refine k_nil (.inr HC.out) ?_
    (try simp only [aP, aN, aT, aZ, aS])
    refine k_any 10 (v := _) (by simp only [aG, aH, aI]; rfl) (by kernel_rfl) (by kernel_rfl) (by kernel_rfl) (by kernel_rfl) (by exact fun _ _ _ h => h) (.inr HC.out) (by kernel_rfl) (fun w => by (repeat (rename ∀ (_ : Act) (_ : World), _ => hK9; clear hK9)); go_simp; rfl) ?_
    (try simp only [aP, aN, aT, aZ, aS])
    refine k_done (by kernel_rfl) ?_ _
    have hd2 : k = L2.length := by rw [← HL2.out, List.length_take]; have := HK1.out; omega
    have HD2 := Aside0.mk hd2
    have HBT := Aside0.mk (@hardOk_take d1 ⟨d1.boot, d1.term, d1.vote, d1.s, cutA d1.gA d1.gc 0, d1.gc, L2⟩ _ k (d1ok HSM.out HK.out HHC.out (HS.out.at 3 rfl).1 (HS.out.at 4 rfl).1 (HS.out.at 5 rfl).1 (row_rds (hl := Ent.len) (h1 := Ent.one) 6 rfl _ HS.out) (fun e he => (HS.out.at 7 rfl e he).1)) HG1.out HK1.out rfl rfl rfl ⟨rfl, rfl, rfl, rfl, rfl, rfl, rfl⟩ (by rw [← HL2.out]))
    have HCX := Aside0.mk (fun w2 (h : Hrd.ok w2 ⟨d1.boot, d1.term, d1.vote, d1.s, cutA d1.gA d1.gc 0, d1.gc, L2⟩) => by
      have := refHard_any ⟨d1.boot, d1.term, d1.vote, d1.s, cutA d1.gA d1.gc 0, d1.gc, L2⟩ w2 h
      rw [HBT.out, if_pos rfl] at this
      exact this)
    have HS3 := ((show SH w w1 [_, _, _, _, _, _, _, _, _] from HS.out).say 6 (i' := rdI Ent.enc 9 (cutA d1.gA d1.gc 0) k (d1.log.take k) S4) rfl (fun h => ⟨take_rd (rowok_rd (hl := Ent.len) (h1 := Ent.one) h).1 HK1.out HGC.out, cutA_in (rowok_rd (hl := Ent.len) (h1 := Ent.one) h).2.1⟩) (fun b hb => hb)).say 7 (i' := nodesI (d1.log.take k) S5) rfl (fun h e he => h e (List.mem_of_mem_take he)) (fun b hb => hb)
    rw [HL2.out, HD2.out] at HS3
    simp only [aZ, aS] at HS3
    clear HS HC hd2
    have HS := Aside0.mk HS3
    clear HS3
    go_wp2_with (first | (go_at_call 63; have HW8 := d1ok (A := cutA d1.gA d1.gc 0) (c := d1.gc) HSM.out HK.out HHC.out (HS.out.at 3 rfl).1 (HS.out.at 4 rfl).1 (HS.out.at 5 rfl).1 (HS.out.at 6 rfl).1 (fun e he => (HS.out.at 7 rfl e he).1); (go_at_call 63; (with_reducible refine (HCX.out _ HW8).mono ?_); rintro e w2 ⟨rfl, hb⟩;  have HS1 := HS.out.quiet hb; clear HS hb; have HS := Aside0.mk HS1; clear HS1); clear HW8) | ((first | ((first | ((with_reducible refine gA rfl ?_); refine sh_alloc HS.out rfl rfl (zeT _ (by decide)) ?_) | ((with_reducible refine gB rfl ?_); refine bx HS.out rfl rfl ?_; first | refine bv (v := .agg (List.toArray _)) rfl ?_ | refine bv (v := .int _ _) rfl ?_ | refine bv (v := .slice _ _ _) rfl ?_ | refine bv (v := .bool _) rfl ?_ | refine bv (v := .pointer _) rfl ?_) | ((with_reducible refine gL rfl ?_); refine sh_lit HS.out rfl rfl (by go_simp; exact ⟨⟨rfl, rfl⟩, rfl⟩) ?_)); clear HS; intro g w1 hg HS1; (simp only [Ent.enc, Led.Held.enc, Led.Last.enc, Rc.enc, zeF, segOf, aL, aC, aE] at HS1); have HS := Aside0.mk HS1; clear HS1) | ((with_reducible refine gLd rfl ?_); refine ld2 HS.out rfl rfl rfl (by repeat (first | exact AtI.here | apply AtI.there)) ?_; (first | refine LdK.one ((agT _ (by decide)).trans rfl) rfl ?_ | (refine LdK.agg ((agT _ (by decide)).trans rfl) (szT _ (by decide)) (lb rfl) ?_; try simp only [szL, aP, aN, aT, aZ, aS, aD, aF, aJ, aK, aM, aO]))) | ((with_reducible refine gSt rfl ?_); refine st2 HS.out rfl rfl rfl rfl (by repeat (first | exact AtI.here | apply AtI.there)) ?_; (first | refine sv (u := .agg (List.toArray _)) rfl ?_ | refine sv (u := .int _ _) rfl ?_ | refine sv (u := .slice _ _ _) rfl ?_ | refine sv (u := .bool _) rfl ?_ | refine sv (u := .pointer _) rfl ?_); refine sw (szT _ (by decide)) rfl (lb rfl) ?_; clear HS; intro w1 HS1; (simp only [Ent.enc, Led.Held.enc, Led.Last.enc, Rc.enc, segOf, aL, aZ, aS, putSeg] at HS1); have HS := Aside0.mk HS1; clear HS1)); try simp only [aP, aN, aT, aZ, aS]))
    refine bodyPost_ret (results_list (rs := [.cell 4 32, .tmp 5]) rfl (by simp) (.cell _ _ _ _ _ rfl (HS.out.blk 2 rfl) Try.underlying32 rfl ((szT _ (by decide)).trans rfl) (.tmp .nil))) rfl ?_
    exact ⟨⟨d1.boot, d1.term, d1.vote, d1.s, cutA d1.gA d1.gc 0, d1.gc, L2⟩, S1, S2, S3, S4, S5, rfl, HSM.out.boot, HSM.out.term, HSM.out.vote, HSM.out.s, by show L2.map Ent.data = _; rw [← HL2.out, List.map_take, List.map_take, HSM.out.log], HHC.out, by show L2.length ≤ d1.gc; rw [← HD2.out]; have := HGC.out; have := HK1.out; omega, HS.out.pick [3, 4, 5, 6, 7] rfl (by decide)⟩
set_option maxHeartbeats 6400000 in
set_option maxRecDepth 100000 in
theorem refDo_add (d : Hrd) (x : Ent) (ix : Int) (w : World) (hk : d.ok w) (hz : d.szd) (hg : hardOk d = true) (hx : x.ok w) (hxz : x.nodes.length * 8 ≤ 140737488351232) (hn : d.log.length ≤ 1000000) (hix : ix = d.s.si + d.log.length + 1) :
    Calls Try.prog 49 #[.agg #[.int .u64 d.boot, .int .u64 d.term, .int .i64 d.vote, .int .u64 d.s.si, .int .u64 d.s.st, .slice d.s.nA d.s.nodes.length d.s.nc, .int .i64 d.s.lim, .int .u64 d.s.nxt, .slice d.s.hA d.s.held.length d.s.hc, .slice d.s.lA d.s.last.length d.s.lc, .slice d.gA d.log.length d.gc], .agg #[.int .i64 3, .int .i64 0, .int .u64 0, .int .u64 0, .int .u64 ix, .int .u64 x.term, .int .i64 x.kind, .int .i64 x.node, .int .i64 x.token, .slice x.A x.nodes.length x.c, .int .u64 x.boot, .int .u64 x.seq, .int .u64 x.serial, .int .u64 x.stamp, .int .u64 0, .int .u64 0, .slice none 0 0, .int .i64 0, .int .u64 0, .slice none 0 0, .slice none 0 0]] w (DoAdd d x w) := by
  have HK := Aside0.mk hk
  have HZ := Aside0.mk hz
  have HG := Aside0.mk hg
  have HI := Aside0.mk hix
  have HX := Aside0.mk hx
  have HN := Aside0.mk hn
  have HCK := Aside0.mk (fun w1 (h : d.ok w1) => by
    have := refHard_any d w1 h
    rw [HG.out, if_pos rfl] at this
    exact this)
  have hi1 : 1 ≤ ix := by have := hk.s.si.1; omega
  obtain ⟨m, hm⟩ : ∃ m, (decide (1 ≤ x.term) && cmdOk x) = m := ⟨_, rfl⟩
  have HM := Aside0.mk hm
  have HMY := Aside0.mk (fun w1 (h : x.ok w1) => by
    have := refMay_add ix x w1 hi1 h
    rw [hm] at this
    exact this)
  clear hk hz hg hix hi1 hm hn hx
  have HS := Aside0.mk (SH.start w)
  cases m with
  | false =>
    go_enter Try.func49, Try.ntmps49
    go_wp2_with (first | (go_at_call 63; (with_reducible refine (HCK.out _ (HK.out.sh HS.out)).mono ?_); rintro e w2 ⟨rfl, hb⟩;  have HS1 := HS.out.quiet hb; clear HS hb; have HS := Aside0.mk HS1; clear HS1) | (go_at_call 64; (with_reducible refine (HMY.out _ (HX.out.sh HS.out)).mono ?_); rintro e w2 ⟨rfl, hb⟩;  have HS1 := HS.out.quiet hb; clear HS hb; have HS := Aside0.mk HS1; clear HS1) | ((fail_if_success (have _ := b2)); ((with_reducible refine gB rfl ?_); refine bx HS.out rfl rfl ?_; (first | refine bv (v := .agg (List.toArray _)) rfl ?_ | refine bv (v := .int _ _) rfl ?_ | refine bv (v := .slice _ _ _) rfl ?_ | refine bv (v := .bool _) rfl ?_ | refine bv (v := .pointer _) rfl ?_); clear HS; intro b2 w1 hb2 HS1; (simp only [Ent.enc, Led.Held.enc, Led.Last.enc, Rc.enc, segOf, aL, aC, aE] at HS1); have HS := Aside0.mk HS1; clear HS1; try simp only [aP, aN, aT, aZ, aS])) | ((fail_if_success (have _ := b3)); ((with_reducible refine gB rfl ?_); refine bx HS.out rfl rfl ?_; (first | refine bv (v := .agg (List.toArray _)) rfl ?_ | refine bv (v := .int _ _) rfl ?_ | refine bv (v := .slice _ _ _) rfl ?_ | refine bv (v := .bool _) rfl ?_ | refine bv (v := .pointer _) rfl ?_); clear HS; intro b3 w1 hb3 HS1; (simp only [Ent.enc, Led.Held.enc, Led.Last.enc, Rc.enc, segOf, aL, aC, aE] at HS1); have HS := Aside0.mk HS1; clear HS1; try simp only [aP, aN, aT, aZ, aS])) | ((fail_if_success (have _ := b4)); ((with_reducible refine gA rfl ?_); refine sh_alloc HS.out rfl rfl (zeT _ (by decide)) ?_; clear HS; intro b4 w1 hb4 HS1; (simp only [Ent.enc, Led.Held.enc, Led.Last.enc, Rc.enc, zeF, segOf, aL, aC, aE] at HS1); have HS := Aside0.mk HS1; clear HS1; try simp only [aP, aN, aT, aZ, aS])) | ((first | ((first | ((with_reducible refine gA rfl ?_); refine sh_alloc HS.out rfl rfl (zeT _ (by decide)) ?_) | ((with_reducible refine gB rfl ?_); refine bx HS.out rfl rfl ?_; first | refine bv (v := .agg (List.toArray _)) rfl ?_ | refine bv (v := .int _ _) rfl ?_ | refine bv (v := .slice _ _ _) rfl ?_ | refine bv (v := .bool _) rfl ?_ | refine bv (v := .pointer _) rfl ?_) | ((with_reducible refine gL rfl ?_); refine sh_lit HS.out rfl rfl (by go_simp; exact ⟨⟨rfl, rfl⟩, rfl⟩) ?_)); clear HS; intro g w1 hg HS1; (simp only [Ent.enc, Led.Held.enc, Led.Last.enc, Rc.enc, zeF, segOf, aL, aC, aE] at HS1); have HS := Aside0.mk HS1; clear HS1) | ((with_reducible refine gLd rfl ?_); refine ld2 HS.out rfl rfl rfl (by repeat (first | exact AtI.here | apply AtI.there)) ?_; (first | refine LdK.one ((agT _ (by decide)).trans rfl) rfl ?_ | (refine LdK.agg ((agT _ (by decide)).trans rfl) (szT _ (by decide)) (lb rfl) ?_; try simp only [szL, aP, aN, aT, aZ, aS, aD, aF, aJ, aK, aM, aO]))) | ((with_reducible refine gSt rfl ?_); refine st2 HS.out rfl rfl rfl rfl (by repeat (first | exact AtI.here | apply AtI.there)) ?_; (first | refine sv (u := .agg (List.toArray _)) rfl ?_ | refine sv (u := .int _ _) rfl ?_ | refine sv (u := .slice _ _ _) rfl ?_ | refine sv (u := .bool _) rfl ?_ | refine sv (u := .pointer _) rfl ?_); refine sw (szT _ (by decide)) rfl (lb rfl) ?_; clear HS; intro w1 HS1; (simp only [Ent.enc, Led.Held.enc, Led.Last.enc, Rc.enc, segOf, aL, aZ, aS, putSeg] at HS1); have HS := Aside0.mk HS1; clear HS1)); try simp only [aP, aN, aT, aZ, aS]))
    refine bodyPost_ret (results_list (rs := [.cell 4 32, .tmp 5]) rfl (by simp) (.cell _ _ _ _ _ rfl (HS.out.blk 2 rfl) Try.underlying32 rfl ((szT _ (by decide)).trans rfl) (.tmp .nil))) rfl ?_
    refine doAdd_mk (.inr ⟨okAdd_may ?_, rfl, HS.out.below⟩)
    have h9 := HM.out
    have hx0 := HX.out.term.1
    cases e1 : cmdOk x
    · simp
    · rw [e1, Bool.and_true, decide_eq_false_iff_not] at h9
      have : x.term = 0 := by omega
      simp [this]
  | true =>
    obtain ⟨b, hb9⟩ : ∃ b, okAdd d x = b := ⟨_, rfl⟩
    have HB := Aside0.mk hb9
    clear hb9
    cases b
    · skip
      go_enter Try.func49, Try.ntmps49
      go_upto_region 3 with (first | (go_at_call 63; (with_reducible refine (HCK.out _ (HK.out.sh HS.out)).mono ?_); rintro e w2 ⟨rfl, hb⟩;  have HS1 := HS.out.quiet hb; clear HS hb; have HS := Aside0.mk HS1; clear HS1) | (go_at_call 64; (with_reducible refine (HMY.out _ (HX.out.sh HS.out)).mono ?_); rintro e w2 ⟨rfl, hb⟩;  have HS1 := HS.out.quiet hb; clear HS hb; have HS := Aside0.mk HS1; clear HS1) | ((fail_if_success (have _ := b2)); ((with_reducible refine gB rfl ?_); refine bx HS.out rfl rfl ?_; (first | refine bv (v := .agg (List.toArray _)) rfl ?_ | refine bv (v := .int _ _) rfl ?_ | refine bv (v := .slice _ _ _) rfl ?_ | refine bv (v := .bool _) rfl ?_ | refine bv (v := .pointer _) rfl ?_); clear HS; intro b2 w1 hb2 HS1; (simp only [Ent.enc, Led.Held.enc, Led.Last.enc, Rc.enc, segOf, aL, aC, aE] at HS1); have HS := Aside0.mk HS1; clear HS1; try simp only [aP, aN, aT, aZ, aS])) | ((fail_if_success (have _ := b3)); ((with_reducible refine gB rfl ?_); refine bx HS.out rfl rfl ?_; (first | refine bv (v := .agg (List.toArray _)) rfl ?_ | refine bv (v := .int _ _) rfl ?_ | refine bv (v := .slice _ _ _) rfl ?_ | refine bv (v := .bool _) rfl ?_ | refine bv (v := .pointer _) rfl ?_); clear HS; intro b3 w1 hb3 HS1; (simp only [Ent.enc, Led.Held.enc, Led.Last.enc, Rc.enc, segOf, aL, aC, aE] at HS1); have HS := Aside0.mk HS1; clear HS1; try simp only [aP, aN, aT, aZ, aS])) | ((fail_if_success (have _ := b4)); ((with_reducible refine gA rfl ?_); refine sh_alloc HS.out rfl rfl (zeT _ (by decide)) ?_; clear HS; intro b4 w1 hb4 HS1; (simp only [Ent.enc, Led.Held.enc, Led.Last.enc, Rc.enc, zeF, segOf, aL, aC, aE] at HS1); have HS := Aside0.mk HS1; clear HS1; try simp only [aP, aN, aT, aZ, aS])) | ((first | ((first | ((with_reducible refine gA rfl ?_); refine sh_alloc HS.out rfl rfl (zeT _ (by decide)) ?_) | ((with_reducible refine gB rfl ?_); refine bx HS.out rfl rfl ?_; first | refine bv (v := .agg (List.toArray _)) rfl ?_ | refine bv (v := .int _ _) rfl ?_ | refine bv (v := .slice _ _ _) rfl ?_ | refine bv (v := .bool _) rfl ?_ | refine bv (v := .pointer _) rfl ?_) | ((with_reducible refine gL rfl ?_); refine sh_lit HS.out rfl rfl (by go_simp; exact ⟨⟨rfl, rfl⟩, rfl⟩) ?_)); clear HS; intro g w1 hg HS1; (simp only [Ent.enc, Led.Held.enc, Led.Last.enc, Rc.enc, zeF, segOf, aL, aC, aE] at HS1); have HS := Aside0.mk HS1; clear HS1) | ((with_reducible refine gLd rfl ?_); refine ld2 HS.out rfl rfl rfl (by repeat (first | exact AtI.here | apply AtI.there)) ?_; (first | refine LdK.one ((agT _ (by decide)).trans rfl) rfl ?_ | (refine LdK.agg ((agT _ (by decide)).trans rfl) (szT _ (by decide)) (lb rfl) ?_; try simp only [szL, aP, aN, aT, aZ, aS, aD, aF, aJ, aK, aM, aO]))) | ((with_reducible refine gSt rfl ?_); refine st2 HS.out rfl rfl rfl rfl (by repeat (first | exact AtI.here | apply AtI.there)) ?_; (first | refine sv (u := .agg (List.toArray _)) rfl ?_ | refine sv (u := .int _ _) rfl ?_ | refine sv (u := .slice _ _ _) rfl ?_ | refine sv (u := .bool _) rfl ?_ | refine sv (u := .pointer _) rfl ?_); refine sw (szT _ (by decide)) rfl (lb rfl) ?_; clear HS; intro w1 HS1; (simp only [Ent.enc, Led.Held.enc, Led.Last.enc, Rc.enc, segOf, aL, aZ, aS, putSeg] at HS1); have HS := Aside0.mk HS1; clear HS1)); try simp only [aP, aN, aT, aZ, aS]))
      have HC := Aside0.mk (HS.out.pick [0, 1] rfl (by decide))
      refine kheld_start [] mixed HC.out (fun HC1 => ?_)
      have HS1 := HS.out.drew
      clear HS HC
      have HS := Aside0.mk HS1
      have HC := Aside0.mk HC1
      clear HS1 HC1
      refine k_loads 0 (by simp only [aG, aH, aI]; rfl) (by kernel_rfl) (by kernel_rfl) (by kernel_rfl) (by kernel_rfl) (v := _) (by exact fun _ _ _ h => h) HC.out (by kernel_rfl) rfl rfl 0 rfl ((agT _ (by decide)).trans rfl) (szT _ (by decide)) (lb rfl) rfl ?_
      (try simp only [szL, aP, aN, aT, aZ, aS, aD, aF, aJ, aK, aM, aO])
      (try simp only [aP, aN, aT, aZ, aS])
      refine k_loads 2 (by simp only [aG, aH, aI]; rfl) (by kernel_rfl) (by kernel_rfl) (by kernel_rfl) (by kernel_rfl) (v := _) (by exact fun _ _ _ h => h) HC.out (by kernel_rfl) rfl rfl 1 rfl ((agT _ (by decide)).trans rfl) (szT _ (by decide)) (lb rfl) rfl ?_
      (try simp only [szL, aP, aN, aT, aZ, aS, aD, aF, aJ, aK, aM, aO])
      (try simp only [aP, aN, aT, aZ, aS])
      refine k_two 1 8 (by kernel_rfl) ?_ ?_
      · skip
        refine k_callI 1 (by simp only [aG, aH, aI]; rfl) (by kernel_rfl) rfl (vs := #[.agg #[.int .u64 d.boot, .int .u64 d.term, .int .i64 d.vote, .int .u64 d.s.si, .int .u64 d.s.st, .slice d.s.nA d.s.nodes.length d.s.nc, .int .i64 d.s.lim, .int .u64 d.s.nxt, .slice d.s.hA d.s.held.length d.s.hc, .slice d.s.lA d.s.last.length d.s.lc, .slice d.gA d.log.length d.gc]]) (by kernel_rfl) (fnT _ (by decide)) (cpHardR_any d _ (HK.out.sh HS.out) HZ.out) (fun e w2 hpost => ?_); obtain ⟨d1, S1, S2, S3, S4, S5, rfl, hsm, hhc, hgc, HS2⟩ := hpost; have HSN := (show SH w w2 [_, _, _, _, _, _, _, _] from HS.out.call HS2); have HC1 := HSN.pick [0, 1] rfl (by decide); refine ⟨_, rfl, HC1, ?_⟩; clear HS HC; have HS := Aside0.mk HSN; have HC := Aside0.mk HC1; clear HSN HC1 ; have HSM := Aside0.mk hsm; have HHC := Aside0.mk hhc; have HGC := Aside0.mk hgc; clear hsm hhc hgc HS2; have hlen1 : d1.log.length = d.log.length := same_len HSM.out; have hg1 := (same_hardOk HSM.out).trans HG.out; have HI1 := Aside0.mk (show ix = d1.s.si + d1.log.length + 1 by rw [HSM.out.s.si, hlen1]; exact HI.out); have HN1 := Aside0.mk (show d1.log.length ≤ 1000000 by rw [hlen1]; exact HN.out); have HFD := Aside0.mk (fun (w1 : World) (i1 i2 i3 i4 : HP) (h0 : (row entK 52 (.slice d1.gA d1.log.length d1.gc) d1.log S4).ok w1) (h : (allI [i1, i2, i3, rdI (ints .i64) 1 d1.s.nA d1.s.nodes.length d1.s.nodes S1, rdI Led.Held.enc 5 d1.s.hA d1.s.held.length d1.s.held S2, rdI Led.Last.enc 6 d1.s.lA d1.s.last.length d1.s.last S3, nodesI d1.log S5, i4]).ok w1) => show d1.ok w1 from d1ok (A := d1.gA) (c := d1.gc) HSM.out HK.out HHC.out (h.1 (rdI (ints .i64) 1 d1.s.nA d1.s.nodes.length d1.s.nodes S1) (by simp)).1 (h.1 (rdI Led.Held.enc 5 d1.s.hA d1.s.held.length d1.s.held S2) (by simp)).1 (h.1 (rdI Led.Last.enc 6 d1.s.lA d1.s.last.length d1.s.last S3) (by simp)).1 (rowok_rd (hl := Ent.len) (h1 := Ent.one) h0).1 (fun e he => (h.1 (nodesI d1.log S5) (by simp) e he).1)); have HFE := Aside0.mk (fun (w1 : World) (i1 i2 i3 i4 i5 : HP) (h0 : (row entK 52 (.slice d1.gA d1.log.length d1.gc) d1.log S4).ok w1) (h : (allI [i1, i2, i3, rdI (ints .i64) 1 d1.s.nA d1.s.nodes.length d1.s.nodes S1, rdI Led.Held.enc 5 d1.s.hA d1.s.held.length d1.s.held S2, rdI Led.Last.enc 6 d1.s.lA d1.s.last.length d1.s.last S3, nodesI d1.log S5, i4, i5]).ok w1) => show d1.ok w1 from d1ok (A := d1.gA) (c := d1.gc) HSM.out HK.out HHC.out (h.1 (rdI (ints .i64) 1 d1.s.nA d1.s.nodes.length d1.s.nodes S1) (by simp)).1 (h.1 (rdI Led.Held.enc 5 d1.s.hA d1.s.held.length d1.s.held S2) (by simp)).1 (h.1 (rdI Led.Last.enc 6 d1.s.lA d1.s.last.length d1.s.last S3) (by simp)).1 (rowok_rd (hl := Ent.len) (h1 := Ent.one) h0).1 (fun e he => (h.1 (nodesI d1.log S5) (by simp) e he).1)); have HLN := Aside0.mk hlen1; have HG1 := Aside0.mk hg1; clear hlen1 hg1
        (try simp only [aP, aN, aT, aZ, aS])
        refine k_two 3 8 (by kernel_rfl) ?_ ?_
        · skip
          refine k_callI 3 (by simp only [aG, aH, aI]; rfl) (by kernel_rfl) rfl (vs := #[.agg #[.int .i64 3, .int .i64 0, .int .u64 0, .int .u64 0, .int .u64 ix, .int .u64 x.term, .int .i64 x.kind, .int .i64 x.node, .int .i64 x.token, .slice x.A x.nodes.length x.c, .int .u64 x.boot, .int .u64 x.seq, .int .u64 x.serial, .int .u64 x.stamp, .int .u64 0, .int .u64 0, .slice none 0 0, .int .i64 0, .int .u64 0, .slice none 0 0, .slice none 0 0]]) (by kernel_rfl) (fnT _ (by decide)) (cpRec_add ix x _ (HX.out.sh HS.out) hxz) (fun e w2 hpost => ?_); obtain ⟨A1, c1, T1, rfl, HS2⟩ := hpost; have HSN := (show SH w w2 [_, _, _, _, _, _, _, _, _] from HS.out.call HS2); have HC1 := HSN.pick [0, 1] rfl (by decide); refine ⟨_, rfl, HC1, ?_⟩; clear HS HC; have HS := Aside0.mk HSN; have HC := Aside0.mk HC1; clear HSN HC1 ; clear HS2; obtain ⟨L2, hL2⟩ : ∃ L2, d1.log ++ [x.at A1 c1] = L2 := ⟨_, rfl⟩; have HL2 := Aside0.mk hL2; clear hL2
          (try simp only [aP, aN, aT, aZ, aS])
          refine k_two 4 8 (by kernel_rfl) ?_ ?_
          · skip
            refine k_callI 4 (by simp only [aG, aH, aI]; rfl) (by kernel_rfl) rfl (vs := #[.agg #[.int .u64 d1.boot, .int .u64 d1.term, .int .i64 d1.vote, .int .u64 d1.s.si, .int .u64 d1.s.st, .slice d1.s.nA d1.s.nodes.length d1.s.nc, .int .i64 d1.s.lim, .int .u64 d1.s.nxt, .slice d1.s.hA d1.s.held.length d1.s.hc, .slice d1.s.lA d1.s.last.length d1.s.lc, .slice d1.gA d1.log.length d1.gc], .agg #[.int .i64 3, .int .i64 0, .int .u64 0, .int .u64 0, .int .u64 ix, .int .u64 x.term, .int .i64 x.kind, .int .i64 x.node, .int .i64 x.token, .slice A1 x.nodes.length c1, .int .u64 x.boot, .int .u64 x.seq, .int .u64 x.serial, .int .u64 x.stamp, .int .u64 0, .int .u64 0, .slice none 0 0, .int .i64 0, .int .u64 0, .slice none 0 0, .slice none 0 0]]) (by kernel_rfl) (fnT _ (by decide)) (refDone_addL d1 (x.at A1 c1) ix L2 S4 _ (SH.pack (is := [_]) [_, _, _, _, _, _, _, _] (HS.out.pick [6, 0, 1, 2, 3, 4, 5, 7, 8] rfl (by decide))) (fun w1 h0 h => HFD.out w1 _ _ _ _ h0 h) HG1.out HN1.out HI1.out HL2.out) (fun e w2 hpost => ?_); obtain ⟨A9, c9, S9, rfl, HS2⟩ := hpost; have HSN := (show SH w w2 [_, _, _, _, _, _, _, _, _] from (SH.unpack (is := [_]) [_, _, _, _, _, _, _, _] HS2).pick [1, 2, 3, 4, 5, 6, 0, 7, 8] rfl (by decide)); have HC1 := HSN.pick [0, 1] rfl (by decide); refine ⟨_, rfl, HC1, ?_⟩; clear HS HC; have HS := Aside0.mk HSN; have HC := Aside0.mk HC1; clear HSN HC1 ; clear HS2
            (try simp only [aP, aN, aT, aZ, aS])
            refine k_any 5 (v := _) (by simp only [aG, aH, aI]; rfl) (by kernel_rfl) (by kernel_rfl) (by kernel_rfl) (by kernel_rfl) (by exact fun _ _ _ h => h) (.inr HC.out) (by kernel_rfl) (fun w => by (repeat (rename ∀ (_ : Act) (_ : World), _ => hK9; clear hK9)); go_simp; rfl) ?_
            (try simp only [aP, aN, aT, aZ, aS])
            refine k_any 6 (v := _) (by simp only [aG, aH, aI]; rfl) (by kernel_rfl) (by kernel_rfl) (by kernel_rfl) (by kernel_rfl) (by exact fun _ _ _ h => h) (.inr HC.out) (by kernel_rfl) (fun w => by (repeat (rename ∀ (_ : Act) (_ : World), _ => hK9; clear hK9)); go_simp; rfl) ?_
            (try simp only [aP, aN, aT, aZ, aS])
            refine k_any 7 (v := _) (by simp only [aG, aH, aI]; rfl) (by kernel_rfl) (by kernel_rfl) (by kernel_rfl) (by kernel_rfl) (by exact fun _ _ _ h => h) (.inr HC.out) (by kernel_rfl) (fun w => by (repeat (rename ∀ (_ : Act) (_ : World), _ => hK9; clear hK9)); go_simp; rfl) ?_
            (try simp only [aP, aN, aT, aZ, aS])
            refine k_one 8 (by simp only [aG, aH, aI]; rfl) (by kernel_rfl) ?_
            ((with_reducible refine gA rfl ?_); refine sh_alloc HS.out rfl rfl (zeT _ (by decide)) ?_; clear HS; intro g w1 hg HS1; (simp only [Ent.enc, Led.Held.enc, Led.Last.enc, Rc.enc, zeF, segOf, aL, aC, aE] at HS1); have HS := Aside0.mk HS1; clear HS1; try simp only [aP, aN, aT, aZ, aS])
            have HC1 := HS.out.pick [0, 1] rfl (by decide)
            clear HC
            have HC := Aside0.mk HC1
            clear HC1
            refine k_nil (.inr HC.out) ?_
            (try simp only [aP, aN, aT, aZ, aS])
            refine k_one 9 (by simp only [aG, aH, aI]; rfl) (by kernel_rfl) ?_
            ((with_reducible refine gSt rfl ?_); refine st2 HS.out rfl rfl rfl rfl (by repeat (first | exact AtI.here | apply AtI.there)) ?_; (first | refine sv (u := .agg (List.toArray _)) rfl ?_ | refine sv (u := .int _ _) rfl ?_ | refine sv (u := .slice _ _ _) rfl ?_ | refine sv (u := .bool _) rfl ?_ | refine sv (u := .pointer _) rfl ?_); refine sw (szT _ (by decide)) rfl (lb rfl) ?_; clear HS; intro w1 HS1; (simp only [Ent.enc, Led.Held.enc, Led.Last.enc, Rc.enc, segOf, aL, aZ, aS, putSeg] at HS1); have HS := Aside0.mk HS1; clear HS1; try simp only [aP, aN, aT, aZ, aS])
            have HC1 := HS.out.pick [0, 1] rfl (by decide)
            clear HC
            have HC := Aside0.mk HC1
            clear HC1
            refine k_nil (.inr HC.out) ?_
            (try simp only [aP, aN, aT, aZ, aS])
            refine k_any 10 (v := _) (by simp only [aG, aH, aI]; rfl) (by kernel_rfl) (by kernel_rfl) (by kernel_rfl) (by kernel_rfl) (by exact fun _ _ _ h => h) (.inr HC.out) (by kernel_rfl) (fun w => by (repeat (rename ∀ (_ : Act) (_ : World), _ => hK9; clear hK9)); go_simp; rfl) ?_
            (try simp only [aP, aN, aT, aZ, aS])
            refine k_done (by kernel_rfl) ?_ _
            have hdt : L2.map Ent.data = (d.log ++ [x]).map Ent.data := by rw [← HL2.out, List.map_append, List.map_append, HSM.out.log]; rfl
            have HDT := Aside0.mk hdt
            have HC9 := Aside0.mk (row_hi (hl := Ent.len) (h1 := Ent.one) HS.out 6 rfl).2
            have HBT := Aside0.mk (show hardOk ⟨d1.boot, d1.term, d1.vote, d1.s, A9, c9, L2⟩ = okAdd d x from hardOk_of (d := { d with log := d.log ++ [x] }) HSM.out.boot HSM.out.term HSM.out.vote HSM.out.s hdt)
            have HCX := Aside0.mk (fun w2 (h : Hrd.ok w2 ⟨d1.boot, d1.term, d1.vote, d1.s, A9, c9, L2⟩) => by
              have := refHard_any ⟨d1.boot, d1.term, d1.vote, d1.s, A9, c9, L2⟩ w2 h
              rw [HBT.out, HB.out] at this
              exact this)
            have HS3 := ((show SH w w1 [_, _, _, _, _, _, _, _, _, _] from HS.out).merge 7 8 (by decide) (i' := nodesI (d1.log ++ [x.at A1 c1]) (fun b => S5 b ∨ T1 b)) rfl rfl (fun k1 k2 e he => (by
                rcases List.mem_append.1 he with h1 | h1
                · exact ⟨(k1 e h1).1, (k1 e h1).2.mono (fun b hb => .inl hb)⟩
                · obtain rfl := List.mem_singleton.1 h1
                  exact ⟨{ (HX.out.sh HS.out) with rd := k2.1 }, k2.2.mono (fun b hb => .inr hb)⟩)) (fun b hb => hb)).toRd (hl := Ent.len) (h1 := Ent.one) 6 rfl
            rw [HL2.out] at HS3
            simp only [aZ, aS] at HS3
            clear HS HC hdt
            have HS := Aside0.mk HS3
            clear HS3
            go_wp2_with (first | (go_at_call 63; have HW8 := d1ok (A := A9) (c := c9) HSM.out HK.out HHC.out (HS.out.at 3 rfl).1 (HS.out.at 4 rfl).1 (HS.out.at 5 rfl).1 (HS.out.at 6 rfl).1 (fun e he => (HS.out.at 7 rfl e he).1); (go_at_call 63; (with_reducible refine (HCX.out _ HW8).mono ?_); rintro e w2 ⟨rfl, hb⟩;  have HS1 := HS.out.quiet hb; clear HS hb; have HS := Aside0.mk HS1; clear HS1); clear HW8) | ((first | ((first | ((with_reducible refine gA rfl ?_); refine sh_alloc HS.out rfl rfl (zeT _ (by decide)) ?_) | ((with_reducible refine gB rfl ?_); refine bx HS.out rfl rfl ?_; first | refine bv (v := .agg (List.toArray _)) rfl ?_ | refine bv (v := .int _ _) rfl ?_ | refine bv (v := .slice _ _ _) rfl ?_ | refine bv (v := .bool _) rfl ?_ | refine bv (v := .pointer _) rfl ?_) | ((with_reducible refine gL rfl ?_); refine sh_lit HS.out rfl rfl (by go_simp; exact ⟨⟨rfl, rfl⟩, rfl⟩) ?_)); clear HS; intro g w1 hg HS1; (simp only [Ent.enc, Led.Held.enc, Led.Last.enc, Rc.enc, zeF, segOf, aL, aC, aE] at HS1); have HS := Aside0.mk HS1; clear HS1) | ((with_reducible refine gLd rfl ?_); refine ld2 HS.out rfl rfl rfl (by repeat (first | exact AtI.here | apply AtI.there)) ?_; (first | refine LdK.one ((agT _ (by decide)).trans rfl) rfl ?_ | (refine LdK.agg ((agT _ (by decide)).trans rfl) (szT _ (by decide)) (lb rfl) ?_; try simp only [szL, aP, aN, aT, aZ, aS, aD, aF, aJ, aK, aM, aO]))) | ((with_reducible refine gSt rfl ?_); refine st2 HS.out rfl rfl rfl rfl (by repeat (first | exact AtI.here | apply AtI.there)) ?_; (first | refine sv (u := .agg (List.toArray _)) rfl ?_ | refine sv (u := .int _ _) rfl ?_ | refine sv (u := .slice _ _ _) rfl ?_ | refine sv (u := .bool _) rfl ?_ | refine sv (u := .pointer _) rfl ?_); refine sw (szT _ (by decide)) rfl (lb rfl) ?_; clear HS; intro w1 HS1; (simp only [Ent.enc, Led.Held.enc, Led.Last.enc, Rc.enc, segOf, aL, aZ, aS, putSeg] at HS1); have HS := Aside0.mk HS1; clear HS1)); try simp only [aP, aN, aT, aZ, aS]))
            refine bodyPost_ret (results_list (rs := [.cell 4 32, .tmp 5]) rfl (by simp) (.cell _ _ _ _ _ rfl (HS.out.blk 2 rfl) Try.underlying32 rfl ((szT _ (by decide)).trans rfl) (.tmp .nil))) rfl ?_
            exact doAdd_mk (.inr ⟨HB.out, rfl, HS.out.below⟩)
          · skip
            refine k_oneI 8 (by simp only [aG, aH, aI]; rfl) ?_
            ((with_reducible refine gA rfl ?_); refine sh_alloc HS.out rfl rfl (zeT _ (by decide)) ?_; clear HS; intro g w1 hg HS1; (simp only [Ent.enc, Led.Held.enc, Led.Last.enc, Rc.enc, zeF, segOf, aL, aC, aE] at HS1); have HS := Aside0.mk HS1; clear HS1; try simp only [aP, aN, aT, aZ, aS])
            have HC1 := HS.out.pick [0, 1] rfl (by decide)
            clear HC
            have HC := Aside0.mk HC1
            clear HC1
            refine k_nil (.inr HC.out) ?_
            (try simp only [aP, aN, aT, aZ, aS])
            refine k_call 4 (by simp only [aG, aH, aI]; rfl) (by kernel_rfl) (by kernel_rfl) rfl (vs := #[.agg #[.int .u64 d1.boot, .int .u64 d1.term, .int .i64 d1.vote, .int .u64 d1.s.si, .int .u64 d1.s.st, .slice d1.s.nA d1.s.nodes.length d1.s.nc, .int .i64 d1.s.lim, .int .u64 d1.s.nxt, .slice d1.s.hA d1.s.held.length d1.s.hc, .slice d1.s.lA d1.s.last.length d1.s.lc, .slice d1.gA d1.log.length d1.gc], .agg #[.int .i64 3, .int .i64 0, .int .u64 0, .int .u64 0, .int .u64 ix, .int .u64 x.term, .int .i64 x.kind, .int .i64 x.node, .int .i64 x.token, .slice A1 x.nodes.length c1, .int .u64 x.boot, .int .u64 x.seq, .int .u64 x.serial, .int .u64 x.stamp, .int .u64 0, .int .u64 0, .slice none 0 0, .int .i64 0, .int .u64 0, .slice none 0 0, .slice none 0 0]]) (by kernel_rfl) (fnT _ (by decide)) (refDone_addL d1 (x.at A1 c1) ix L2 S4 _ (SH.pack (is := [_]) [_, _, _, _, _, _, _, _, _] (HS.out.pick [6, 0, 1, 2, 3, 4, 5, 7, 8, 9] rfl (by decide))) (fun w1 h0 h => HFE.out w1 _ _ _ _ _ h0 h) HG1.out HN1.out HI1.out HL2.out) (fun e w2 hpost => ?_); obtain ⟨A9, c9, S9, rfl, HS2⟩ := hpost; have HSN := (show SH w w2 [_, _, _, _, _, _, _, _, _, _] from (SH.unpack (is := [_]) [_, _, _, _, _, _, _, _, _] HS2).pick [1, 2, 3, 4, 5, 6, 0, 7, 8, 9] rfl (by decide)); have HC1 := HSN.pick [0, 1] rfl (by decide); refine ⟨_, rfl, HC1, ?_⟩; clear HS HC; have HS := Aside0.mk HSN; have HC := Aside0.mk HC1; clear HSN HC1 ; clear HS2
            (try simp only [aP, aN, aT, aZ, aS])
            refine k_any 5 (v := _) (by simp only [aG, aH, aI]; rfl) (by kernel_rfl) (by kernel_rfl) (by kernel_rfl) (by kernel_rfl) (by exact fun _ _ _ h => h) (.inr HC.out) (by kernel_rfl) (fun w => by (repeat (rename ∀ (_ : Act) (_ : World), _ => hK9; clear hK9)); go_simp; rfl) ?_
            (try simp only [aP, aN, aT, aZ, aS])
            refine k_any 6 (v := _) (by simp only [aG, aH, aI]; rfl) (by kernel_rfl) (by kernel_rfl) (by kernel_rfl) (by kernel_rfl) (by exact fun _ _ _ h => h) (.inr HC.out) (by kernel_rfl) (fun w => by (repeat (rename ∀ (_ : Act) (_ : World), _ => hK9; clear hK9)); go_simp; rfl) ?_
            (try simp only [aP, aN, aT, aZ, aS])
            refine k_any 7 (v := _) (by simp only [aG, aH, aI]; rfl) (by kernel_rfl) (by kernel_rfl) (by kernel_rfl) (by kernel_rfl) (by exact fun _ _ _ h => h) (.inr HC.out) (by kernel_rfl) (fun w => by (repeat (rename ∀ (_ : Act) (_ : World), _ => hK9; clear hK9)); go_simp; rfl) ?_
            (try simp only [aP, aN, aT, aZ, aS])
            refine k_one 9 (by simp only [aG, aH, aI]; rfl) (by kernel_rfl) ?_
            ((with_reducible refine gSt rfl ?_); refine st2 HS.out rfl rfl rfl rfl (by repeat (first | exact AtI.here | apply AtI.there)) ?_; (first | refine sv (u := .agg (List.toArray _)) rfl ?_ | refine sv (u := .int _ _) rfl ?_ | refine sv (u := .slice _ _ _) rfl ?_ | refine sv (u := .bool _) rfl ?_ | refine sv (u := .pointer _) rfl ?_); refine sw (szT _ (by decide)) rfl (lb rfl) ?_; clear HS; intro w1 HS1; (simp only [Ent.enc, Led.Held.enc, Led.Last.enc, Rc.enc, segOf, aL, aZ, aS, putSeg] at HS1); have HS := Aside0.mk HS1; clear HS1; try simp only [aP, aN, aT, aZ, aS])
            have HC1 := HS.out.pick [0, 1] rfl (by decide)
            clear HC
            have HC := Aside0.mk HC1
            clear HC1
            refine k_nil (.inr HC.out) ?_
            (try simp only [aP, aN, aT, aZ, aS])
            refine k_any 10 (v := _) (by simp only [aG, aH, aI]; rfl) (by kernel_rfl) (by kernel_rfl) (by kernel_rfl) (by kernel_rfl) (by exact fun _ _ _ h => h) (.inr HC.out) (by kernel_rfl) (fun w => by (repeat (rename ∀ (_ : Act) (_ : World), _ => hK9; clear hK9)); go_simp; rfl) ?_
            (try simp only [aP, aN, aT, aZ, aS])
            refine k_done (by kernel_rfl) ?_ _
            have hdt : L2.map Ent.data = (d.log ++ [x]).map Ent.data := by rw [← HL2.out, List.map_append, List.map_append, HSM.out.log]; rfl
            have HDT := Aside0.mk hdt
            have HC9 := Aside0.mk (row_hi (hl := Ent.len) (h1 := Ent.one) HS.out 6 rfl).2
            have HBT := Aside0.mk (show hardOk ⟨d1.boot, d1.term, d1.vote, d1.s, A9, c9, L2⟩ = okAdd d x from hardOk_of (d := { d with log := d.log ++ [x] }) HSM.out.boot HSM.out.term HSM.out.vote HSM.out.s hdt)
            have HCX := Aside0.mk (fun w2 (h : Hrd.ok w2 ⟨d1.boot, d1.term, d1.vote, d1.s, A9, c9, L2⟩) => by
              have := refHard_any ⟨d1.boot, d1.term, d1.vote, d1.s, A9, c9, L2⟩ w2 h
              rw [HBT.out, HB.out] at this
              exact this)
            have HS3 := ((show SH w w1 [_, _, _, _, _, _, _, _, _, _] from HS.out).merge 7 8 (by decide) (i' := nodesI (d1.log ++ [x.at A1 c1]) (fun b => S5 b ∨ T1 b)) rfl rfl (fun k1 k2 e he => (by
                rcases List.mem_append.1 he with h1 | h1
                · exact ⟨(k1 e h1).1, (k1 e h1).2.mono (fun b hb => .inl hb)⟩
                · obtain rfl := List.mem_singleton.1 h1
                  exact ⟨{ (HX.out.sh HS.out) with rd := k2.1 }, k2.2.mono (fun b hb => .inr hb)⟩)) (fun b hb => hb)).toRd (hl := Ent.len) (h1 := Ent.one) 6 rfl
            rw [HL2.out] at HS3
            simp only [aZ, aS] at HS3
            clear HS HC hdt
            have HS := Aside0.mk HS3
            clear HS3
            go_wp2_with (first | (go_at_call 63; have HW8 := d1ok (A := A9) (c := c9) HSM.out HK.out HHC.out (HS.out.at 3 rfl).1 (HS.out.at 4 rfl).1 (HS.out.at 5 rfl).1 (HS.out.at 6 rfl).1 (fun e he => (HS.out.at 7 rfl e he).1); (go_at_call 63; (with_reducible refine (HCX.out _ HW8).mono ?_); rintro e w2 ⟨rfl, hb⟩;  have HS1 := HS.out.quiet hb; clear HS hb; have HS := Aside0.mk HS1; clear HS1); clear HW8) | ((first | ((first | ((with_reducible refine gA rfl ?_); refine sh_alloc HS.out rfl rfl (zeT _ (by decide)) ?_) | ((with_reducible refine gB rfl ?_); refine bx HS.out rfl rfl ?_; first | refine bv (v := .agg (List.toArray _)) rfl ?_ | refine bv (v := .int _ _) rfl ?_ | refine bv (v := .slice _ _ _) rfl ?_ | refine bv (v := .bool _) rfl ?_ | refine bv (v := .pointer _) rfl ?_) | ((with_reducible refine gL rfl ?_); refine sh_lit HS.out rfl rfl (by go_simp; exact ⟨⟨rfl, rfl⟩, rfl⟩) ?_)); clear HS; intro g w1 hg HS1; (simp only [Ent.enc, Led.Held.enc, Led.Last.enc, Rc.enc, zeF, segOf, aL, aC, aE] at HS1); have HS := Aside0.mk HS1; clear HS1) | ((with_reducible refine gLd rfl ?_); refine ld2 HS.out rfl rfl rfl (by repeat (first | exact AtI.here | apply AtI.there)) ?_; (first | refine LdK.one ((agT _ (by decide)).trans rfl) rfl ?_ | (refine LdK.agg ((agT _ (by decide)).trans rfl) (szT _ (by decide)) (lb rfl) ?_; try simp only [szL, aP, aN, aT, aZ, aS, aD, aF, aJ, aK, aM, aO]))) | ((with_reducible refine gSt rfl ?_); refine st2 HS.out rfl rfl rfl rfl (by repeat (first | exact AtI.here | apply AtI.there)) ?_; (first | refine sv (u := .agg (List.toArray _)) rfl ?_ | refine sv (u := .int _ _) rfl ?_ | refine sv (u := .slice _ _ _) rfl ?_ | refine sv (u := .bool _) rfl ?_ | refine sv (u := .pointer _) rfl ?_); refine sw (szT _ (by decide)) rfl (lb rfl) ?_; clear HS; intro w1 HS1; (simp only [Ent.enc, Led.Held.enc, Led.Last.enc, Rc.enc, segOf, aL, aZ, aS, putSeg] at HS1); have HS := Aside0.mk HS1; clear HS1)); try simp only [aP, aN, aT, aZ, aS]))
            refine bodyPost_ret (results_list (rs := [.cell 4 32, .tmp 5]) rfl (by simp) (.cell _ _ _ _ _ rfl (HS.out.blk 2 rfl) Try.underlying32 rfl ((szT _ (by decide)).trans rfl) (.tmp .nil))) rfl ?_
            exact doAdd_mk (.inr ⟨HB.out, rfl, HS.out.below⟩)
        · skip
          refine k_oneI 8 (by simp only [aG, aH, aI]; rfl) ?_
          ((with_reducible refine gA rfl ?_); refine sh_alloc HS.out rfl rfl (zeT _ (by decide)) ?_; clear HS; intro g w1 hg HS1; (simp only [Ent.enc, Led.Held.enc, Led.Last.enc, Rc.enc, zeF, segOf, aL, aC, aE] at HS1); have HS := Aside0.mk HS1; clear HS1; try simp only [aP, aN, aT, aZ, aS])
          have HC1 := HS.out.pick [0, 1] rfl (by decide)
          clear HC
          have HC := Aside0.mk HC1
          clear HC1
          refine k_nil (.inr HC.out) ?_
          (try simp only [aP, aN, aT, aZ, aS])
          refine k_call 3 (by simp only [aG, aH, aI]; rfl) (by kernel_rfl) (by kernel_rfl) rfl (vs := #[.agg #[.int .i64 3, .int .i64 0, .int .u64 0, .int .u64 0, .int .u64 ix, .int .u64 x.term, .int .i64 x.kind, .int .i64 x.node, .int .i64 x.token, .slice x.A x.nodes.length x.c, .int .u64 x.boot, .int .u64 x.seq, .int .u64 x.serial, .int .u64 x.stamp, .int .u64 0, .int .u64 0, .slice none 0 0, .int .i64 0, .int .u64 0, .slice none 0 0, .slice none 0 0]]) (by kernel_rfl) (fnT _ (by decide)) (cpRec_add ix x _ (HX.out.sh HS.out) hxz) (fun e w2 hpost => ?_); obtain ⟨A1, c1, T1, rfl, HS2⟩ := hpost; have HSN := (show SH w w2 [_, _, _, _, _, _, _, _, _, _] from HS.out.call HS2).pick [0, 1, 2, 3, 4, 5, 6, 7, 9, 8] rfl (by decide); have HC1 := HSN.pick [0, 1] rfl (by decide); refine ⟨_, rfl, HC1, ?_⟩; clear HS HC; have HS := Aside0.mk HSN; have HC := Aside0.mk HC1; clear HSN HC1 ; clear HS2; obtain ⟨L2, hL2⟩ : ∃ L2, d1.log ++ [x.at A1 c1] = L2 := ⟨_, rfl⟩; have HL2 := Aside0.mk hL2; clear hL2
          (try simp only [aP, aN, aT, aZ, aS])
          refine k_call 4 (by simp only [aG, aH, aI]; rfl) (by kernel_rfl) (by kernel_rfl) rfl (vs := #[.agg #[.int .u64 d1.boot, .int .u64 d1.term, .int .i64 d1.vote, .int .u64 d1.s.si, .int .u64 d1.s.st, .slice d1.s.nA d1.s.nodes.length d1.s.nc, .int .i64 d1.s.lim, .int .u64 d1.s.nxt, .slice d1.s.hA d1.s.held.length d1.s.hc, .slice d1.s.lA d1.s.last.length d1.s.lc, .slice d1.gA d1.log.length d1.gc], .agg #[.int .i64 3, .int .i64 0, .int .u64 0, .int .u64 0, .int .u64 ix, .int .u64 x.term, .int .i64 x.kind, .int .i64 x.node, .int .i64 x.token, .slice A1 x.nodes.length c1, .int .u64 x.boot, .int .u64 x.seq, .int .u64 x.serial, .int .u64 x.stamp, .int .u64 0, .int .u64 0, .slice none 0 0, .int .i64 0, .int .u64 0, .slice none 0 0, .slice none 0 0]]) (by kernel_rfl) (fnT _ (by decide)) (refDone_addL d1 (x.at A1 c1) ix L2 S4 _ (SH.pack (is := [_]) [_, _, _, _, _, _, _, _, _] (HS.out.pick [6, 0, 1, 2, 3, 4, 5, 7, 8, 9] rfl (by decide))) (fun w1 h0 h => HFE.out w1 _ _ _ _ _ h0 h) HG1.out HN1.out HI1.out HL2.out) (fun e w2 hpost => ?_); obtain ⟨A9, c9, S9, rfl, HS2⟩ := hpost; have HSN := (show SH w w2 [_, _, _, _, _, _, _, _, _, _] from (SH.unpack (is := [_]) [_, _, _, _, _, _, _, _, _] HS2).pick [1, 2, 3, 4, 5, 6, 0, 7, 8, 9] rfl (by decide)); have HC1 := HSN.pick [0, 1] rfl (by decide); refine ⟨_, rfl, HC1, ?_⟩; clear HS HC; have HS := Aside0.mk HSN; have HC := Aside0.mk HC1; clear HSN HC1 ; clear HS2
          (try simp only [aP, aN, aT, aZ, aS])
          refine k_any 5 (v := _) (by simp only [aG, aH, aI]; rfl) (by kernel_rfl) (by kernel_rfl) (by kernel_rfl) (by kernel_rfl) (by exact fun _ _ _ h => h) (.inr HC.out) (by kernel_rfl) (fun w => by (repeat (rename ∀ (_ : Act) (_ : World), _ => hK9; clear hK9)); go_simp; rfl) ?_
          (try simp only [aP, aN, aT, aZ, aS])
          refine k_any 6 (v := _) (by simp only [aG, aH, aI]; rfl) (by kernel_rfl) (by kernel_rfl) (by kernel_rfl) (by kernel_rfl) (by exact fun _ _ _ h => h) (.inr HC.out) (by kernel_rfl) (fun w => by (repeat (rename ∀ (_ : Act) (_ : World), _ => hK9; clear hK9)); go_simp; rfl) ?_
          (try simp only [aP, aN, aT, aZ, aS])
          refine k_any 7 (v := _) (by simp only [aG, aH, aI]; rfl) (by kernel_rfl) (by kernel_rfl) (by kernel_rfl) (by kernel_rfl) (by exact fun _ _ _ h => h) (.inr HC.out) (by kernel_rfl) (fun w => by (repeat (rename ∀ (_ : Act) (_ : World), _ => hK9; clear hK9)); go_simp; rfl) ?_
          (try simp only [aP, aN, aT, aZ, aS])
          refine k_one 9 (by simp only [aG, aH, aI]; rfl) (by kernel_rfl) ?_
          ((with_reducible refine gSt rfl ?_); refine st2 HS.out rfl rfl rfl rfl (by repeat (first | exact AtI.here | apply AtI.there)) ?_; (first | refine sv (u := .agg (List.toArray _)) rfl ?_ | refine sv (u := .int _ _) rfl ?_ | refine sv (u := .slice _ _ _) rfl ?_ | refine sv (u := .bool _) rfl ?_ | refine sv (u := .pointer _) rfl ?_); refine sw (szT _ (by decide)) rfl (lb rfl) ?_; clear HS; intro w1 HS1; (simp only [Ent.enc, Led.Held.enc, Led.Last.enc, Rc.enc, segOf, aL, aZ, aS, putSeg] at HS1); have HS := Aside0.mk HS1; clear HS1; try simp only [aP, aN, aT, aZ, aS])
          have HC1 := HS.out.pick [0, 1] rfl (by decide)
          clear HC
          have HC := Aside0.mk HC1
          clear HC1
          refine k_nil (.inr HC.out) ?_
          (try simp only [aP, aN, aT, aZ, aS])
          refine k_any 10 (v := _) (by simp only [aG, aH, aI]; rfl) (by kernel_rfl) (by kernel_rfl) (by kernel_rfl) (by kernel_rfl) (by exact fun _ _ _ h => h) (.inr HC.out) (by kernel_rfl) (fun w => by (repeat (rename ∀ (_ : Act) (_ : World), _ => hK9; clear hK9)); go_simp; rfl) ?_
          (try simp only [aP, aN, aT, aZ, aS])
          refine k_done (by kernel_rfl) ?_ _
          have hdt : L2.map Ent.data = (d.log ++ [x]).map Ent.data := by rw [← HL2.out, List.map_append, List.map_append, HSM.out.log]; rfl
          have HDT := Aside0.mk hdt
          have HC9 := Aside0.mk (row_hi (hl := Ent.len) (h1 := Ent.one) HS.out 6 rfl).2
          have HBT := Aside0.mk (show hardOk ⟨d1.boot, d1.term, d1.vote, d1.s, A9, c9, L2⟩ = okAdd d x from hardOk_of (d := { d with log := d.log ++ [x] }) HSM.out.boot HSM.out.term HSM.out.vote HSM.out.s hdt)
          have HCX := Aside0.mk (fun w2 (h : Hrd.ok w2 ⟨d1.boot, d1.term, d1.vote, d1.s, A9, c9, L2⟩) => by
            have := refHard_any ⟨d1.boot, d1.term, d1.vote, d1.s, A9, c9, L2⟩ w2 h
            rw [HBT.out, HB.out] at this
            exact this)
          have HS3 := ((show SH w w1 [_, _, _, _, _, _, _, _, _, _] from HS.out).merge 7 8 (by decide) (i' := nodesI (d1.log ++ [x.at A1 c1]) (fun b => S5 b ∨ T1 b)) rfl rfl (fun k1 k2 e he => (by
              rcases List.mem_append.1 he with h1 | h1
              · exact ⟨(k1 e h1).1, (k1 e h1).2.mono (fun b hb => .inl hb)⟩
              · obtain rfl := List.mem_singleton.1 h1
                exact ⟨{ (HX.out.sh HS.out) with rd := k2.1 }, k2.2.mono (fun b hb => .inr hb)⟩)) (fun b hb => hb)).toRd (hl := Ent.len) (h1 := Ent.one) 6 rfl
          rw [HL2.out] at HS3
          simp only [aZ, aS] at HS3
          clear HS HC hdt
          have HS := Aside0.mk HS3
          clear HS3
          go_wp2_with (first | (go_at_call 63; have HW8 := d1ok (A := A9) (c := c9) HSM.out HK.out HHC.out (HS.out.at 3 rfl).1 (HS.out.at 4 rfl).1 (HS.out.at 5 rfl).1 (HS.out.at 6 rfl).1 (fun e he => (HS.out.at 7 rfl e he).1); (go_at_call 63; (with_reducible refine (HCX.out _ HW8).mono ?_); rintro e w2 ⟨rfl, hb⟩;  have HS1 := HS.out.quiet hb; clear HS hb; have HS := Aside0.mk HS1; clear HS1); clear HW8) | ((first | ((first | ((with_reducible refine gA rfl ?_); refine sh_alloc HS.out rfl rfl (zeT _ (by decide)) ?_) | ((with_reducible refine gB rfl ?_); refine bx HS.out rfl rfl ?_; first | refine bv (v := .agg (List.toArray _)) rfl ?_ | refine bv (v := .int _ _) rfl ?_ | refine bv (v := .slice _ _ _) rfl ?_ | refine bv (v := .bool _) rfl ?_ | refine bv (v := .pointer _) rfl ?_) | ((with_reducible refine gL rfl ?_); refine sh_lit HS.out rfl rfl (by go_simp; exact ⟨⟨rfl, rfl⟩, rfl⟩) ?_)); clear HS; intro g w1 hg HS1; (simp only [Ent.enc, Led.Held.enc, Led.Last.enc, Rc.enc, zeF, segOf, aL, aC, aE] at HS1); have HS := Aside0.mk HS1; clear HS1) | ((with_reducible refine gLd rfl ?_); refine ld2 HS.out rfl rfl rfl (by repeat (first | exact AtI.here | apply AtI.there)) ?_; (first | refine LdK.one ((agT _ (by decide)).trans rfl) rfl ?_ | (refine LdK.agg ((agT _ (by decide)).trans rfl) (szT _ (by decide)) (lb rfl) ?_; try simp only [szL, aP, aN, aT, aZ, aS, aD, aF, aJ, aK, aM, aO]))) | ((with_reducible refine gSt rfl ?_); refine st2 HS.out rfl rfl rfl rfl (by repeat (first | exact AtI.here | apply AtI.there)) ?_; (first | refine sv (u := .agg (List.toArray _)) rfl ?_ | refine sv (u := .int _ _) rfl ?_ | refine sv (u := .slice _ _ _) rfl ?_ | refine sv (u := .bool _) rfl ?_ | refine sv (u := .pointer _) rfl ?_); refine sw (szT _ (by decide)) rfl (lb rfl) ?_; clear HS; intro w1 HS1; (simp only [Ent.enc, Led.Held.enc, Led.Last.enc, Rc.enc, segOf, aL, aZ, aS, putSeg] at HS1); have HS := Aside0.mk HS1; clear HS1)); try simp only [aP, aN, aT, aZ, aS]))
          refine bodyPost_ret (results_list (rs := [.cell 4 32, .tmp 5]) rfl (by simp) (.cell _ _ _ _ _ rfl (HS.out.blk 2 rfl) Try.underlying32 rfl ((szT _ (by decide)).trans rfl) (.tmp .nil))) rfl ?_
          exact doAdd_mk (.inr ⟨HB.out, rfl, HS.out.below⟩)
      · skip
        refine k_oneI 8 (by simp only [aG, aH, aI]; rfl) ?_
        ((with_reducible refine gA rfl ?_); refine sh_alloc HS.out rfl rfl (zeT _ (by decide)) ?_; clear HS; intro g w1 hg HS1; (simp only [Ent.enc, Led.Held.enc, Led.Last.enc, Rc.enc, zeF, segOf, aL, aC, aE] at HS1); have HS := Aside0.mk HS1; clear HS1; try simp only [aP, aN, aT, aZ, aS])
        have HC1 := HS.out.pick [0, 1] rfl (by decide)
        clear HC
        have HC := Aside0.mk HC1
        clear HC1
        refine k_nil (.inr HC.out) ?_
        (try simp only [aP, aN, aT, aZ, aS])
        refine k_call 1 (by simp only [aG, aH, aI]; rfl) (by kernel_rfl) (by kernel_rfl) rfl (vs := #[.agg #[.int .u64 d.boot, .int .u64 d.term, .int .i64 d.vote, .int .u64 d.s.si, .int .u64 d.s.st, .slice d.s.nA d.s.nodes.length d.s.nc, .int .i64 d.s.lim, .int .u64 d.s.nxt, .slice d.s.hA d.s.held.length d.s.hc, .slice d.s.lA d.s.last.length d.s.lc, .slice d.gA d.log.length d.gc]]) (by kernel_rfl) (fnT _ (by decide)) (cpHardR_any d _ (HK.out.sh HS.out) HZ.out) (fun e w2 hpost => ?_); obtain ⟨d1, S1, S2, S3, S4, S5, rfl, hsm, hhc, hgc, HS2⟩ := hpost; have HSN := (show SH w w2 [_, _, _, _, _, _, _, _, _] from HS.out.call HS2).pick [0, 1, 2, 4, 5, 6, 7, 8, 3] rfl (by decide); have HC1 := HSN.pick [0, 1] rfl (by decide); refine ⟨_, rfl, HC1, ?_⟩; clear HS HC; have HS := Aside0.mk HSN; have HC := Aside0.mk HC1; clear HSN HC1 ; have HSM := Aside0.mk hsm; have HHC := Aside0.mk hhc; have HGC := Aside0.mk hgc; clear hsm hhc hgc HS2; have hlen1 : d1.log.length = d.log.length := same_len HSM.out; have hg1 := (same_hardOk HSM.out).trans HG.out; have HI1 := Aside0.mk (show ix = d1.s.si + d1.log.length + 1 by rw [HSM.out.s.si, hlen1]; exact HI.out); have HN1 := Aside0.mk (show d1.log.length ≤ 1000000 by rw [hlen1]; exact HN.out); have HFD := Aside0.mk (fun (w1 : World) (i1 i2 i3 i4 : HP) (h0 : (row entK 52 (.slice d1.gA d1.log.length d1.gc) d1.log S4).ok w1) (h : (allI [i1, i2, i3, rdI (ints .i64) 1 d1.s.nA d1.s.nodes.length d1.s.nodes S1, rdI Led.Held.enc 5 d1.s.hA d1.s.held.length d1.s.held S2, rdI Led.Last.enc 6 d1.s.lA d1.s.last.length d1.s.last S3, nodesI d1.log S5, i4]).ok w1) => show d1.ok w1 from d1ok (A := d1.gA) (c := d1.gc) HSM.out HK.out HHC.out (h.1 (rdI (ints .i64) 1 d1.s.nA d1.s.nodes.length d1.s.nodes S1) (by simp)).1 (h.1 (rdI Led.Held.enc 5 d1.s.hA d1.s.held.length d1.s.held S2) (by simp)).1 (h.1 (rdI Led.Last.enc 6 d1.s.lA d1.s.last.length d1.s.last S3) (by simp)).1 (rowok_rd (hl := Ent.len) (h1 := Ent.one) h0).1 (fun e he => (h.1 (nodesI d1.log S5) (by simp) e he).1)); have HFE := Aside0.mk (fun (w1 : World) (i1 i2 i3 i4 i5 : HP) (h0 : (row entK 52 (.slice d1.gA d1.log.length d1.gc) d1.log S4).ok w1) (h : (allI [i1, i2, i3, rdI (ints .i64) 1 d1.s.nA d1.s.nodes.length d1.s.nodes S1, rdI Led.Held.enc 5 d1.s.hA d1.s.held.length d1.s.held S2, rdI Led.Last.enc 6 d1.s.lA d1.s.last.length d1.s.last S3, nodesI d1.log S5, i4, i5]).ok w1) => show d1.ok w1 from d1ok (A := d1.gA) (c := d1.gc) HSM.out HK.out HHC.out (h.1 (rdI (ints .i64) 1 d1.s.nA d1.s.nodes.length d1.s.nodes S1) (by simp)).1 (h.1 (rdI Led.Held.enc 5 d1.s.hA d1.s.held.length d1.s.held S2) (by simp)).1 (h.1 (rdI Led.Last.enc 6 d1.s.lA d1.s.last.length d1.s.last S3) (by simp)).1 (rowok_rd (hl := Ent.len) (h1 := Ent.one) h0).1 (fun e he => (h.1 (nodesI d1.log S5) (by simp) e he).1)); have HLN := Aside0.mk hlen1; have HG1 := Aside0.mk hg1; clear hlen1 hg1
        (try simp only [aP, aN, aT, aZ, aS])
        refine k_call 3 (by simp only [aG, aH, aI]; rfl) (by kernel_rfl) (by kernel_rfl) rfl (vs := #[.agg #[.int .i64 3, .int .i64 0, .int .u64 0, .int .u64 0, .int .u64 ix, .int .u64 x.term, .int .i64 x.kind, .int .i64 x.node, .int .i64 x.token, .slice x.A x.nodes.length x.c, .int .u64 x.boot, .int .u64 x.seq, .int .u64 x.serial, .int .u64 x.stamp, .int .u64 0, .int .u64 0, .slice none 0 0, .int .i64 0, .int .u64 0, .slice none 0 0, .slice none 0 0]]) (by kernel_rfl) (fnT _ (by decide)) (cpRec_add ix x _ (HX.out.sh HS.out) hxz) (fun e w2 hpost => ?_); obtain ⟨A1, c1, T1, rfl, HS2⟩ := hpost; have HSN := (show SH w w2 [_, _, _, _, _, _, _, _, _, _] from HS.out.call HS2).pick [0, 1, 2, 3, 4, 5, 6, 7, 9, 8] rfl (by decide); have HC1 := HSN.pick [0, 1] rfl (by decide); refine ⟨_, rfl, HC1, ?_⟩; clear HS HC; have HS := Aside0.mk HSN; have HC := Aside0.mk HC1; clear HSN HC1 ; clear HS2; obtain ⟨L2, hL2⟩ : ∃ L2, d1.log ++ [x.at A1 c1] = L2 := ⟨_, rfl⟩; have HL2 := Aside0.mk hL2; clear hL2
        (try simp only [aP, aN, aT, aZ, aS])
        refine k_call 4 (by simp only [aG, aH, aI]; rfl) (by kernel_rfl) (by kernel_rfl) rfl (vs := #[.agg #[.int .u64 d1.boot, .int .u64 d1.term, .int .i64 d1.vote, .int .u64 d1.s.si, .int .u64 d1.s.st, .slice d1.s.nA d1.s.nodes.length d1.s.nc, .int .i64 d1.s.lim, .int .u64 d1.s.nxt, .slice d1.s.hA d1.s.held.length d1.s.hc, .slice d1.s.lA d1.s.last.length d1.s.lc, .slice d1.gA d1.log.length d1.gc], .agg #[.int .i64 3, .int .i64 0, .int .u64 0, .int .u64 0, .int .u64 ix, .int .u64 x.term, .int .i64 x.kind, .int .i64 x.node, .int .i64 x.token, .slice A1 x.nodes.length c1, .int .u64 x.boot, .int .u64 x.seq, .int .u64 x.serial, .int .u64 x.stamp, .int .u64 0, .int .u64 0, .slice none 0 0, .int .i64 0, .int .u64 0, .slice none 0 0, .slice none 0 0]]) (by kernel_rfl) (fnT _ (by decide)) (refDone_addL d1 (x.at A1 c1) ix L2 S4 _ (SH.pack (is := [_]) [_, _, _, _, _, _, _, _, _] (HS.out.pick [6, 0, 1, 2, 3, 4, 5, 7, 8, 9] rfl (by decide))) (fun w1 h0 h => HFE.out w1 _ _ _ _ _ h0 h) HG1.out HN1.out HI1.out HL2.out) (fun e w2 hpost => ?_); obtain ⟨A9, c9, S9, rfl, HS2⟩ := hpost; have HSN := (show SH w w2 [_, _, _, _, _, _, _, _, _, _] from (SH.unpack (is := [_]) [_, _, _, _, _, _, _, _, _] HS2).pick [1, 2, 3, 4, 5, 6, 0, 7, 8, 9] rfl (by decide)); have HC1 := HSN.pick [0, 1] rfl (by decide); refine ⟨_, rfl, HC1, ?_⟩; clear HS HC; have HS := Aside0.mk HSN; have HC := Aside0.mk HC1; clear HSN HC1 ; clear HS2
        (try simp only [aP, aN, aT, aZ, aS])
        refine k_any 5 (v := _) (by simp only [aG, aH, aI]; rfl) (by kernel_rfl) (by kernel_rfl) (by kernel_rfl) (by kernel_rfl) (by exact fun _ _ _ h => h) (.inr HC.out) (by kernel_rfl) (fun w => by (repeat (rename ∀ (_ : Act) (_ : World), _ => hK9; clear hK9)); go_simp; rfl) ?_
        (try simp only [aP, aN, aT, aZ, aS])
        refine k_any 6 (v := _) (by simp only [aG, aH, aI]; rfl) (by kernel_rfl) (by kernel_rfl) (by kernel_rfl) (by kernel_rfl) (by exact fun _ _ _ h => h) (.inr HC.out) (by kernel_rfl) (fun w => by (repeat (rename ∀ (_ : Act) (_ : World), _ => hK9; clear hK9)); go_simp; rfl) ?_
        (try simp only [aP, aN, aT, aZ, aS])
        refine k_any 7 (v := _) (by simp only [aG, aH, aI]; rfl) (by kernel_rfl) (by kernel_rfl) (by kernel_rfl) (by kernel_rfl) (by exact fun _ _ _ h => h) (.inr HC.out) (by kernel_rfl) (fun w => by (repeat (rename ∀ (_ : Act) (_ : World), _ => hK9; clear hK9)); go_simp; rfl) ?_
        (try simp only [aP, aN, aT, aZ, aS])
        refine k_one 9 (by simp only [aG, aH, aI]; rfl) (by kernel_rfl) ?_
        ((with_reducible refine gSt rfl ?_); refine st2 HS.out rfl rfl rfl rfl (by repeat (first | exact AtI.here | apply AtI.there)) ?_; (first | refine sv (u := .agg (List.toArray _)) rfl ?_ | refine sv (u := .int _ _) rfl ?_ | refine sv (u := .slice _ _ _) rfl ?_ | refine sv (u := .bool _) rfl ?_ | refine sv (u := .pointer _) rfl ?_); refine sw (szT _ (by decide)) rfl (lb rfl) ?_; clear HS; intro w1 HS1; (simp only [Ent.enc, Led.Held.enc, Led.Last.enc, Rc.enc, segOf, aL, aZ, aS, putSeg] at HS1); have HS := Aside0.mk HS1; clear HS1; try simp only [aP, aN, aT, aZ, aS])
        have HC1 := HS.out.pick [0, 1] rfl (by decide)
        clear HC
        have HC := Aside0.mk HC1
        clear HC1
        refine k_nil (.inr HC.out) ?_
        (try simp only [aP, aN, aT, aZ, aS])
        refine k_any 10 (v := _) (by simp only [aG, aH, aI]; rfl) (by kernel_rfl) (by kernel_rfl) (by kernel_rfl) (by kernel_rfl) (by exact fun _ _ _ h => h) (.inr HC.out) (by kernel_rfl) (fun w => by (repeat (rename ∀ (_ : Act) (_ : World), _ => hK9; clear hK9)); go_simp; rfl) ?_
        (try simp only [aP, aN, aT, aZ, aS])
        refine k_done (by kernel_rfl) ?_ _
        have hdt : L2.map Ent.data = (d.log ++ [x]).map Ent.data := by rw [← HL2.out, List.map_append, List.map_append, HSM.out.log]; rfl
        have HDT := Aside0.mk hdt
        have HC9 := Aside0.mk (row_hi (hl := Ent.len) (h1 := Ent.one) HS.out 6 rfl).2
        have HBT := Aside0.mk (show hardOk ⟨d1.boot, d1.term, d1.vote, d1.s, A9, c9, L2⟩ = okAdd d x from hardOk_of (d := { d with log := d.log ++ [x] }) HSM.out.boot HSM.out.term HSM.out.vote HSM.out.s hdt)
        have HCX := Aside0.mk (fun w2 (h : Hrd.ok w2 ⟨d1.boot, d1.term, d1.vote, d1.s, A9, c9, L2⟩) => by
          have := refHard_any ⟨d1.boot, d1.term, d1.vote, d1.s, A9, c9, L2⟩ w2 h
          rw [HBT.out, HB.out] at this
          exact this)
        have HS3 := ((show SH w w1 [_, _, _, _, _, _, _, _, _, _] from HS.out).merge 7 8 (by decide) (i' := nodesI (d1.log ++ [x.at A1 c1]) (fun b => S5 b ∨ T1 b)) rfl rfl (fun k1 k2 e he => (by
            rcases List.mem_append.1 he with h1 | h1
            · exact ⟨(k1 e h1).1, (k1 e h1).2.mono (fun b hb => .inl hb)⟩
            · obtain rfl := List.mem_singleton.1 h1
              exact ⟨{ (HX.out.sh HS.out) with rd := k2.1 }, k2.2.mono (fun b hb => .inr hb)⟩)) (fun b hb => hb)).toRd (hl := Ent.len) (h1 := Ent.one) 6 rfl
        rw [HL2.out] at HS3
        simp only [aZ, aS] at HS3
        clear HS HC hdt
        have HS := Aside0.mk HS3
        clear HS3
        go_wp2_with (first | (go_at_call 63; have HW8 := d1ok (A := A9) (c := c9) HSM.out HK.out HHC.out (HS.out.at 3 rfl).1 (HS.out.at 4 rfl).1 (HS.out.at 5 rfl).1 (HS.out.at 6 rfl).1 (fun e he => (HS.out.at 7 rfl e he).1); (go_at_call 63; (with_reducible refine (HCX.out _ HW8).mono ?_); rintro e w2 ⟨rfl, hb⟩;  have HS1 := HS.out.quiet hb; clear HS hb; have HS := Aside0.mk HS1; clear HS1); clear HW8) | ((first | ((first | ((with_reducible refine gA rfl ?_); refine sh_alloc HS.out rfl rfl (zeT _ (by decide)) ?_) | ((with_reducible refine gB rfl ?_); refine bx HS.out rfl rfl ?_; first | refine bv (v := .agg (List.toArray _)) rfl ?_ | refine bv (v := .int _ _) rfl ?_ | refine bv (v := .slice _ _ _) rfl ?_ | refine bv (v := .bool _) rfl ?_ | refine bv (v := .pointer _) rfl ?_) | ((with_reducible refine gL rfl ?_); refine sh_lit HS.out rfl rfl (by go_simp; exact ⟨⟨rfl, rfl⟩, rfl⟩) ?_)); clear HS; intro g w1 hg HS1; (simp only [Ent.enc, Led.Held.enc, Led.Last.enc, Rc.enc, zeF, segOf, aL, aC, aE] at HS1); have HS := Aside0.mk HS1; clear HS1) | ((with_reducible refine gLd rfl ?_); refine ld2 HS.out rfl rfl rfl (by repeat (first | exact AtI.here | apply AtI.there)) ?_; (first | refine LdK.one ((agT _ (by decide)).trans rfl) rfl ?_ | (refine LdK.agg ((agT _ (by decide)).trans rfl) (szT _ (by decide)) (lb rfl) ?_; try simp only [szL, aP, aN, aT, aZ, aS, aD, aF, aJ, aK, aM, aO]))) | ((with_reducible refine gSt rfl ?_); refine st2 HS.out rfl rfl rfl rfl (by repeat (first | exact AtI.here | apply AtI.there)) ?_; (first | refine sv (u := .agg (List.toArray _)) rfl ?_ | refine sv (u := .int _ _) rfl ?_ | refine sv (u := .slice _ _ _) rfl ?_ | refine sv (u := .bool _) rfl ?_ | refine sv (u := .pointer _) rfl ?_); refine sw (szT _ (by decide)) rfl (lb rfl) ?_; clear HS; intro w1 HS1; (simp only [Ent.enc, Led.Held.enc, Led.Last.enc, Rc.enc, segOf, aL, aZ, aS, putSeg] at HS1); have HS := Aside0.mk HS1; clear HS1)); try simp only [aP, aN, aT, aZ, aS]))
        refine bodyPost_ret (results_list (rs := [.cell 4 32, .tmp 5]) rfl (by simp) (.cell _ _ _ _ _ rfl (HS.out.blk 2 rfl) Try.underlying32 rfl ((szT _ (by decide)).trans rfl) (.tmp .nil))) rfl ?_
        exact doAdd_mk (.inr ⟨HB.out, rfl, HS.out.below⟩)
    · skip
      go_enter Try.func49, Try.ntmps49
      go_upto_region 3 with (first | (go_at_call 63; (with_reducible refine (HCK.out _ (HK.out.sh HS.out)).mono ?_); rintro e w2 ⟨rfl, hb⟩;  have HS1 := HS.out.quiet hb; clear HS hb; have HS := Aside0.mk HS1; clear HS1) | (go_at_call 64; (with_reducible refine (HMY.out _ (HX.out.sh HS.out)).mono ?_); rintro e w2 ⟨rfl, hb⟩;  have HS1 := HS.out.quiet hb; clear HS hb; have HS := Aside0.mk HS1; clear HS1) | ((fail_if_success (have _ := b2)); ((with_reducible refine gB rfl ?_); refine bx HS.out rfl rfl ?_; (first | refine bv (v := .agg (List.toArray _)) rfl ?_ | refine bv (v := .int _ _) rfl ?_ | refine bv (v := .slice _ _ _) rfl ?_ | refine bv (v := .bool _) rfl ?_ | refine bv (v := .pointer _) rfl ?_); clear HS; intro b2 w1 hb2 HS1; (simp only [Ent.enc, Led.Held.enc, Led.Last.enc, Rc.enc, segOf, aL, aC, aE] at HS1); have HS := Aside0.mk HS1; clear HS1; try simp only [aP, aN, aT, aZ, aS])) | ((fail_if_success (have _ := b3)); ((with_reducible refine gB rfl ?_); refine bx HS.out rfl rfl ?_; (first | refine bv (v := .agg (List.toArray _)) rfl ?_ | refine bv (v := .int _ _) rfl ?_ | refine bv (v := .slice _ _ _) rfl ?_ | refine bv (v := .bool _) rfl ?_ | refine bv (v := .pointer _) rfl ?_); clear HS; intro b3 w1 hb3 HS1; (simp only [Ent.enc, Led.Held.enc, Led.Last.enc, Rc.enc, segOf, aL, aC, aE] at HS1); have HS := Aside0.mk HS1; clear HS1; try simp only [aP, aN, aT, aZ, aS])) | ((fail_if_success (have _ := b4)); ((with_reducible refine gA rfl ?_); refine sh_alloc HS.out rfl rfl (zeT _ (by decide)) ?_; clear HS; intro b4 w1 hb4 HS1; (simp only [Ent.enc, Led.Held.enc, Led.Last.enc, Rc.enc, zeF, segOf, aL, aC, aE] at HS1); have HS := Aside0.mk HS1; clear HS1; try simp only [aP, aN, aT, aZ, aS])) | ((first | ((first | ((with_reducible refine gA rfl ?_); refine sh_alloc HS.out rfl rfl (zeT _ (by decide)) ?_) | ((with_reducible refine gB rfl ?_); refine bx HS.out rfl rfl ?_; first | refine bv (v := .agg (List.toArray _)) rfl ?_ | refine bv (v := .int _ _) rfl ?_ | refine bv (v := .slice _ _ _) rfl ?_ | refine bv (v := .bool _) rfl ?_ | refine bv (v := .pointer _) rfl ?_) | ((with_reducible refine gL rfl ?_); refine sh_lit HS.out rfl rfl (by go_simp; exact ⟨⟨rfl, rfl⟩, rfl⟩) ?_)); clear HS; intro g w1 hg HS1; (simp only [Ent.enc, Led.Held.enc, Led.Last.enc, Rc.enc, zeF, segOf, aL, aC, aE] at HS1); have HS := Aside0.mk HS1; clear HS1) | ((with_reducible refine gLd rfl ?_); refine ld2 HS.out rfl rfl rfl (by repeat (first | exact AtI.here | apply AtI.there)) ?_; (first | refine LdK.one ((agT _ (by decide)).trans rfl) rfl ?_ | (refine LdK.agg ((agT _ (by decide)).trans rfl) (szT _ (by decide)) (lb rfl) ?_; try simp only [szL, aP, aN, aT, aZ, aS, aD, aF, aJ, aK, aM, aO]))) | ((with_reducible refine gSt rfl ?_); refine st2 HS.out rfl rfl rfl rfl (by repeat (first | exact AtI.here | apply AtI.there)) ?_; (first | refine sv (u := .agg (List.toArray _)) rfl ?_ | refine sv (u := .int _ _) rfl ?_ | refine sv (u := .slice _ _ _) rfl ?_ | refine sv (u := .bool _) rfl ?_ | refine sv (u := .pointer _) rfl ?_); refine sw (szT _ (by decide)) rfl (lb rfl) ?_; clear HS; intro w1 HS1; (simp only [Ent.enc, Led.Held.enc, Led.Last.enc, Rc.enc, segOf, aL, aZ, aS, putSeg] at HS1); have HS := Aside0.mk HS1; clear HS1)); try simp only [aP, aN, aT, aZ, aS]))
      have HC := Aside0.mk (HS.out.pick [0, 1] rfl (by decide))
      refine kheld_start [] mixed HC.out (fun HC1 => ?_)
      have HS1 := HS.out.drew
      clear HS HC
      have HS := Aside0.mk HS1
      have HC := Aside0.mk HC1
      clear HS1 HC1
      refine k_loads 0 (by simp only [aG, aH, aI]; rfl) (by kernel_rfl) (by kernel_rfl) (by kernel_rfl) (by kernel_rfl) (v := _) (by exact fun _ _ _ h => h) HC.out (by kernel_rfl) rfl rfl 0 rfl ((agT _ (by decide)).trans rfl) (szT _ (by decide)) (lb rfl) rfl ?_
      (try simp only [szL, aP, aN, aT, aZ, aS, aD, aF, aJ, aK, aM, aO])
      (try simp only [aP, aN, aT, aZ, aS])
      refine k_loads 2 (by simp only [aG, aH, aI]; rfl) (by kernel_rfl) (by kernel_rfl) (by kernel_rfl) (by kernel_rfl) (v := _) (by exact fun _ _ _ h => h) HC.out (by kernel_rfl) rfl rfl 1 rfl ((agT _ (by decide)).trans rfl) (szT _ (by decide)) (lb rfl) rfl ?_
      (try simp only [szL, aP, aN, aT, aZ, aS, aD, aF, aJ, aK, aM, aO])
      (try simp only [aP, aN, aT, aZ, aS])
      refine k_two 1 8 (by kernel_rfl) ?_ ?_
      · skip
        refine k_callI 1 (by simp only [aG, aH, aI]; rfl) (by kernel_rfl) rfl (vs := #[.agg #[.int .u64 d.boot, .int .u64 d.term, .int .i64 d.vote, .int .u64 d.s.si, .int .u64 d.s.st, .slice d.s.nA d.s.nodes.length d.s.nc, .int .i64 d.s.lim, .int .u64 d.s.nxt, .slice d.s.hA d.s.held.length d.s.hc, .slice d.s.lA d.s.last.length d.s.lc, .slice d.gA d.log.length d.gc]]) (by kernel_rfl) (fnT _ (by decide)) (cpHardR_any d _ (HK.out.sh HS.out) HZ.out) (fun e w2 hpost => ?_); obtain ⟨d1, S1, S2, S3, S4, S5, rfl, hsm, hhc, hgc, HS2⟩ := hpost; have HSN := (show SH w w2 [_, _, _, _, _, _, _, _] from HS.out.call HS2); have HC1 := HSN.pick [0, 1] rfl (by decide); refine ⟨_, rfl, HC1, ?_⟩; clear HS HC; have HS := Aside0.mk HSN; have HC := Aside0.mk HC1; clear HSN HC1 ; have HSM := Aside0.mk hsm; have HHC := Aside0.mk hhc; have HGC := Aside0.mk hgc; clear hsm hhc hgc HS2; have hlen1 : d1.log.length = d.log.length := same_len HSM.out; have hg1 := (same_hardOk HSM.out).trans HG.out; have HI1 := Aside0.mk (show ix = d1.s.si + d1.log.length + 1 by rw [HSM.out.s.si, hlen1]; exact HI.out); have HN1 := Aside0.mk (show d1.log.length ≤ 1000000 by rw [hlen1]; exact HN.out); have HFD := Aside0.mk (fun (w1 : World) (i1 i2 i3 i4 : HP) (h0 : (row entK 52 (.slice d1.gA d1.log.length d1.gc) d1.log S4).ok w1) (h : (allI [i1, i2, i3, rdI (ints .i64) 1 d1.s.nA d1.s.nodes.length d1.s.nodes S1, rdI Led.Held.enc 5 d1.s.hA d1.s.held.length d1.s.held S2, rdI Led.Last.enc 6 d1.s.lA d1.s.last.length d1.s.last S3, nodesI d1.log S5, i4]).ok w1) => show d1.ok w1 from d1ok (A := d1.gA) (c := d1.gc) HSM.out HK.out HHC.out (h.1 (rdI (ints .i64) 1 d1.s.nA d1.s.nodes.length d1.s.nodes S1) (by simp)).1 (h.1 (rdI Led.Held.enc 5 d1.s.hA d1.s.held.length d1.s.held S2) (by simp)).1 (h.1 (rdI Led.Last.enc 6 d1.s.lA d1.s.last.length d1.s.last S3) (by simp)).1 (rowok_rd (hl := Ent.len) (h1 := Ent.one) h0).1 (fun e he => (h.1 (nodesI d1.log S5) (by simp) e he).1)); have HFE := Aside0.mk (fun (w1 : World) (i1 i2 i3 i4 i5 : HP) (h0 : (row entK 52 (.slice d1.gA d1.log.length d1.gc) d1.log S4).ok w1) (h : (allI [i1, i2, i3, rdI (ints .i64) 1 d1.s.nA d1.s.nodes.length d1.s.nodes S1, rdI Led.Held.enc 5 d1.s.hA d1.s.held.length d1.s.held S2, rdI Led.Last.enc 6 d1.s.lA d1.s.last.length d1.s.last S3, nodesI d1.log S5, i4, i5]).ok w1) => show d1.ok w1 from d1ok (A := d1.gA) (c := d1.gc) HSM.out HK.out HHC.out (h.1 (rdI (ints .i64) 1 d1.s.nA d1.s.nodes.length d1.s.nodes S1) (by simp)).1 (h.1 (rdI Led.Held.enc 5 d1.s.hA d1.s.held.length d1.s.held S2) (by simp)).1 (h.1 (rdI Led.Last.enc 6 d1.s.lA d1.s.last.length d1.s.last S3) (by simp)).1 (rowok_rd (hl := Ent.len) (h1 := Ent.one) h0).1 (fun e he => (h.1 (nodesI d1.log S5) (by simp) e he).1)); have HLN := Aside0.mk hlen1; have HG1 := Aside0.mk hg1; clear hlen1 hg1
        (try simp only [aP, aN, aT, aZ, aS])
        refine k_two 3 8 (by kernel_rfl) ?_ ?_
        · skip
          refine k_callI 3 (by simp only [aG, aH, aI]; rfl) (by kernel_rfl) rfl (vs := #[.agg #[.int .i64 3, .int .i64 0, .int .u64 0, .int .u64 0, .int .u64 ix, .int .u64 x.term, .int .i64 x.kind, .int .i64 x.node, .int .i64 x.token, .slice x.A x.nodes.length x.c, .int .u64 x.boot, .int .u64 x.seq, .int .u64 x.serial, .int .u64 x.stamp, .int .u64 0, .int .u64 0, .slice none 0 0, .int .i64 0, .int .u64 0, .slice none 0 0, .slice none 0 0]]) (by kernel_rfl) (fnT _ (by decide)) (cpRec_add ix x _ (HX.out.sh HS.out) hxz) (fun e w2 hpost => ?_); obtain ⟨A1, c1, T1, rfl, HS2⟩ := hpost; have HSN := (show SH w w2 [_, _, _, _, _, _, _, _, _] from HS.out.call HS2); have HC1 := HSN.pick [0, 1] rfl (by decide); refine ⟨_, rfl, HC1, ?_⟩; clear HS HC; have HS := Aside0.mk HSN; have HC := Aside0.mk HC1; clear HSN HC1 ; clear HS2; obtain ⟨L2, hL2⟩ : ∃ L2, d1.log ++ [x.at A1 c1] = L2 := ⟨_, rfl⟩; have HL2 := Aside0.mk hL2; clear hL2
          (try simp only [aP, aN, aT, aZ, aS])
          refine k_two 4 8 (by kernel_rfl) ?_ ?_
          · skip
            refine k_callI 4 (by simp only [aG, aH, aI]; rfl) (by kernel_rfl) rfl (vs := #[.agg #[.int .u64 d1.boot, .int .u64 d1.term, .int .i64 d1.vote, .int .u64 d1.s.si, .int .u64 d1.s.st, .slice d1.s.nA d1.s.nodes.length d1.s.nc, .int .i64 d1.s.lim, .int .u64 d1.s.nxt, .slice d1.s.hA d1.s.held.length d1.s.hc, .slice d1.s.lA d1.s.last.length d1.s.lc, .slice d1.gA d1.log.length d1.gc], .agg #[.int .i64 3, .int .i64 0, .int .u64 0, .int .u64 0, .int .u64 ix, .int .u64 x.term, .int .i64 x.kind, .int .i64 x.node, .int .i64 x.token, .slice A1 x.nodes.length c1, .int .u64 x.boot, .int .u64 x.seq, .int .u64 x.serial, .int .u64 x.stamp, .int .u64 0, .int .u64 0, .slice none 0 0, .int .i64 0, .int .u64 0, .slice none 0 0, .slice none 0 0]]) (by kernel_rfl) (fnT _ (by decide)) (refDone_addL d1 (x.at A1 c1) ix L2 S4 _ (SH.pack (is := [_]) [_, _, _, _, _, _, _, _] (HS.out.pick [6, 0, 1, 2, 3, 4, 5, 7, 8] rfl (by decide))) (fun w1 h0 h => HFD.out w1 _ _ _ _ h0 h) HG1.out HN1.out HI1.out HL2.out) (fun e w2 hpost => ?_); obtain ⟨A9, c9, S9, rfl, HS2⟩ := hpost; have HSN := (show SH w w2 [_, _, _, _, _, _, _, _, _] from (SH.unpack (is := [_]) [_, _, _, _, _, _, _, _] HS2).pick [1, 2, 3, 4, 5, 6, 0, 7, 8] rfl (by decide)); have HC1 := HSN.pick [0, 1] rfl (by decide); refine ⟨_, rfl, HC1, ?_⟩; clear HS HC; have HS := Aside0.mk HSN; have HC := Aside0.mk HC1; clear HSN HC1 ; clear HS2
            (try simp only [aP, aN, aT, aZ, aS])
            refine k_any 5 (v := _) (by simp only [aG, aH, aI]; rfl) (by kernel_rfl) (by kernel_rfl) (by kernel_rfl) (by kernel_rfl) (by exact fun _ _ _ h => h) (.inr HC.out) (by kernel_rfl) (fun w => by (repeat (rename ∀ (_ : Act) (_ : World), _ => hK9; clear hK9)); go_simp; rfl) ?_
            (try simp only [aP, aN, aT, aZ, aS])
            refine k_any 6 (v := _) (by simp only [aG, aH, aI]; rfl) (by kernel_rfl) (by kernel_rfl) (by kernel_rfl) (by kernel_rfl) (by exact fun _ _ _ h => h) (.inr HC.out) (by kernel_rfl) (fun w => by (repeat (rename ∀ (_ : Act) (_ : World), _ => hK9; clear hK9)); go_simp; rfl) ?_
            (try simp only [aP, aN, aT, aZ, aS])
            refine k_any 7 (v := _) (by simp only [aG, aH, aI]; rfl) (by kernel_rfl) (by kernel_rfl) (by kernel_rfl) (by kernel_rfl) (by exact fun _ _ _ h => h) (.inr HC.out) (by kernel_rfl) (fun w => by (repeat (rename ∀ (_ : Act) (_ : World), _ => hK9; clear hK9)); go_simp; rfl) ?_
            (try simp only [aP, aN, aT, aZ, aS])
            refine k_one 8 (by simp only [aG, aH, aI]; rfl) (by kernel_rfl) ?_
            ((with_reducible refine gA rfl ?_); refine sh_alloc HS.out rfl rfl (zeT _ (by decide)) ?_; clear HS; intro g w1 hg HS1; (simp only [Ent.enc, Led.Held.enc, Led.Last.enc, Rc.enc, zeF, segOf, aL, aC, aE] at HS1); have HS := Aside0.mk HS1; clear HS1; try simp only [aP, aN, aT, aZ, aS])
            have HC1 := HS.out.pick [0, 1] rfl (by decide)
            clear HC
            have HC := Aside0.mk HC1
            clear HC1
            refine k_nil (.inr HC.out) ?_
            (try simp only [aP, aN, aT, aZ, aS])
            refine k_one 9 (by simp only [aG, aH, aI]; rfl) (by kernel_rfl) ?_
            ((with_reducible refine gSt rfl ?_); refine st2 HS.out rfl rfl rfl rfl (by repeat (first | exact AtI.here | apply AtI.there)) ?_; (first | refine sv (u := .agg (List.toArray _)) rfl ?_ | refine sv (u := .int _ _) rfl ?_ | refine sv (u := .slice _ _ _) rfl ?_ | refine sv (u := .bool _) rfl ?_ | refine sv (u := .pointer _) rfl ?_); refine sw (szT _ (by decide)) rfl (lb rfl) ?_; clear HS; intro w1 HS1; (simp only [Ent.enc, Led.Held.enc, Led.Last.enc, Rc.enc, segOf, aL, aZ, aS, putSeg] at HS1); have HS := Aside0.mk HS1; clear HS1; try simp only [aP, aN, aT, aZ, aS])
            have HC1 := HS.out.pick [0, 1] rfl (by decide)
            clear HC
            have HC := Aside0.mk HC1
            clear HC1
            refine k_nil (.inr HC.out) ?_
            (try simp only [aP, aN, aT, aZ, aS])
            refine k_any 10 (v := _) (by simp only [aG, aH, aI]; rfl) (by kernel_rfl) (by kernel_rfl) (by kernel_rfl) (by kernel_rfl) (by exact fun _ _ _ h => h) (.inr HC.out) (by kernel_rfl) (fun w => by (repeat (rename ∀ (_ : Act) (_ : World), _ => hK9; clear hK9)); go_simp; rfl) ?_
            (try simp only [aP, aN, aT, aZ, aS])
            refine k_done (by kernel_rfl) ?_ _
            have hdt : L2.map Ent.data = (d.log ++ [x]).map Ent.data := by rw [← HL2.out, List.map_append, List.map_append, HSM.out.log]; rfl
            have HDT := Aside0.mk hdt
            have HC9 := Aside0.mk (row_hi (hl := Ent.len) (h1 := Ent.one) HS.out 6 rfl).2
            have HBT := Aside0.mk (show hardOk ⟨d1.boot, d1.term, d1.vote, d1.s, A9, c9, L2⟩ = okAdd d x from hardOk_of (d := { d with log := d.log ++ [x] }) HSM.out.boot HSM.out.term HSM.out.vote HSM.out.s hdt)
            have HCX := Aside0.mk (fun w2 (h : Hrd.ok w2 ⟨d1.boot, d1.term, d1.vote, d1.s, A9, c9, L2⟩) => by
              have := refHard_any ⟨d1.boot, d1.term, d1.vote, d1.s, A9, c9, L2⟩ w2 h
              rw [HBT.out, HB.out] at this
              exact this)
            have HS3 := ((show SH w w1 [_, _, _, _, _, _, _, _, _, _] from HS.out).merge 7 8 (by decide) (i' := nodesI (d1.log ++ [x.at A1 c1]) (fun b => S5 b ∨ T1 b)) rfl rfl (fun k1 k2 e he => (by
                rcases List.mem_append.1 he with h1 | h1
                · exact ⟨(k1 e h1).1, (k1 e h1).2.mono (fun b hb => .inl hb)⟩
                · obtain rfl := List.mem_singleton.1 h1
                  exact ⟨{ (HX.out.sh HS.out) with rd := k2.1 }, k2.2.mono (fun b hb => .inr hb)⟩)) (fun b hb => hb)).toRd (hl := Ent.len) (h1 := Ent.one) 6 rfl
            rw [HL2.out] at HS3
            simp only [aZ, aS] at HS3
            clear HS HC hdt
            have HS := Aside0.mk HS3
            clear HS3
            go_wp2_with (first | (go_at_call 63; have HW8 := d1ok (A := A9) (c := c9) HSM.out HK.out HHC.out (HS.out.at 3 rfl).1 (HS.out.at 4 rfl).1 (HS.out.at 5 rfl).1 (HS.out.at 6 rfl).1 (fun e he => (HS.out.at 7 rfl e he).1); (go_at_call 63; (with_reducible refine (HCX.out _ HW8).mono ?_); rintro e w2 ⟨rfl, hb⟩;  have HS1 := HS.out.quiet hb; clear HS hb; have HS := Aside0.mk HS1; clear HS1); clear HW8) | ((first | ((first | ((with_reducible refine gA rfl ?_); refine sh_alloc HS.out rfl rfl (zeT _ (by decide)) ?_) | ((with_reducible refine gB rfl ?_); refine bx HS.out rfl rfl ?_; first | refine bv (v := .agg (List.toArray _)) rfl ?_ | refine bv (v := .int _ _) rfl ?_ | refine bv (v := .slice _ _ _) rfl ?_ | refine bv (v := .bool _) rfl ?_ | refine bv (v := .pointer _) rfl ?_) | ((with_reducible refine gL rfl ?_); refine sh_lit HS.out rfl rfl (by go_simp; exact ⟨⟨rfl, rfl⟩, rfl⟩) ?_)); clear HS; intro g w1 hg HS1; (simp only [Ent.enc, Led.Held.enc, Led.Last.enc, Rc.enc, zeF, segOf, aL, aC, aE] at HS1); have HS := Aside0.mk HS1; clear HS1) | ((with_reducible refine gLd rfl ?_); refine ld2 HS.out rfl rfl rfl (by repeat (first | exact AtI.here | apply AtI.there)) ?_; (first | refine LdK.one ((agT _ (by decide)).trans rfl) rfl ?_ | (refine LdK.agg ((agT _ (by decide)).trans rfl) (szT _ (by decide)) (lb rfl) ?_; try simp only [szL, aP, aN, aT, aZ, aS, aD, aF, aJ, aK, aM, aO]))) | ((with_reducible refine gSt rfl ?_); refine st2 HS.out rfl rfl rfl rfl (by repeat (first | exact AtI.here | apply AtI.there)) ?_; (first | refine sv (u := .agg (List.toArray _)) rfl ?_ | refine sv (u := .int _ _) rfl ?_ | refine sv (u := .slice _ _ _) rfl ?_ | refine sv (u := .bool _) rfl ?_ | refine sv (u := .pointer _) rfl ?_); refine sw (szT _ (by decide)) rfl (lb rfl) ?_; clear HS; intro w1 HS1; (simp only [Ent.enc, Led.Held.enc, Led.Last.enc, Rc.enc, segOf, aL, aZ, aS, putSeg] at HS1); have HS := Aside0.mk HS1; clear HS1)); try simp only [aP, aN, aT, aZ, aS]))
            refine bodyPost_ret (results_list (rs := [.cell 4 32, .tmp 5]) rfl (by simp) (.cell _ _ _ _ _ rfl (HS.out.blk 2 rfl) Try.underlying32 rfl ((szT _ (by decide)).trans rfl) (.tmp .nil))) rfl ?_
            exact doAdd_mk (.inl ⟨HB.out, ⟨d1.boot, d1.term, d1.vote, d1.s, A9, c9, L2⟩, S1, S2, S3, S9, _, rfl, HSM.out.boot, HSM.out.term, HSM.out.vote, HSM.out.s, HDT.out, HHC.out, HC9.out, HS.out.pick [3, 4, 5, 6, 7] rfl (by decide)⟩)
          · skip
            refine k_oneI 8 (by simp only [aG, aH, aI]; rfl) ?_
            ((with_reducible refine gA rfl ?_); refine sh_alloc HS.out rfl rfl (zeT _ (by decide)) ?_; clear HS; intro g w1 hg HS1; (simp only [Ent.enc, Led.Held.enc, Led.Last.enc, Rc.enc, zeF, segOf, aL, aC, aE] at HS1); have HS := Aside0.mk HS1; clear HS1; try simp only [aP, aN, aT, aZ, aS])
            have HC1 := HS.out.pick [0, 1] rfl (by decide)
            clear HC
            have HC := Aside0.mk HC1
            clear HC1
            refine k_nil (.inr HC.out) ?_
            (try simp only [aP, aN, aT, aZ, aS])
            refine k_call 4 (by simp only [aG, aH, aI]; rfl) (by kernel_rfl) (by kernel_rfl) rfl (vs := #[.agg #[.int .u64 d1.boot, .int .u64 d1.term, .int .i64 d1.vote, .int .u64 d1.s.si, .int .u64 d1.s.st, .slice d1.s.nA d1.s.nodes.length d1.s.nc, .int .i64 d1.s.lim, .int .u64 d1.s.nxt, .slice d1.s.hA d1.s.held.length d1.s.hc, .slice d1.s.lA d1.s.last.length d1.s.lc, .slice d1.gA d1.log.length d1.gc], .agg #[.int .i64 3, .int .i64 0, .int .u64 0, .int .u64 0, .int .u64 ix, .int .u64 x.term, .int .i64 x.kind, .int .i64 x.node, .int .i64 x.token, .slice A1 x.nodes.length c1, .int .u64 x.boot, .int .u64 x.seq, .int .u64 x.serial, .int .u64 x.stamp, .int .u64 0, .int .u64 0, .slice none 0 0, .int .i64 0, .int .u64 0, .slice none 0 0, .slice none 0 0]]) (by kernel_rfl) (fnT _ (by decide)) (refDone_addL d1 (x.at A1 c1) ix L2 S4 _ (SH.pack (is := [_]) [_, _, _, _, _, _, _, _, _] (HS.out.pick [6, 0, 1, 2, 3, 4, 5, 7, 8, 9] rfl (by decide))) (fun w1 h0 h => HFE.out w1 _ _ _ _ _ h0 h) HG1.out HN1.out HI1.out HL2.out) (fun e w2 hpost => ?_); obtain ⟨A9, c9, S9, rfl, HS2⟩ := hpost; have HSN := (show SH w w2 [_, _, _, _, _, _, _, _, _, _] from (SH.unpack (is := [_]) [_, _, _, _, _, _, _, _, _] HS2).pick [1, 2, 3, 4, 5, 6, 0, 7, 8, 9] rfl (by decide)); have HC1 := HSN.pick [0, 1] rfl (by decide); refine ⟨_, rfl, HC1, ?_⟩; clear HS HC; have HS := Aside0.mk HSN; have HC := Aside0.mk HC1; clear HSN HC1 ; clear HS2
            (try simp only [aP, aN, aT, aZ, aS])
            refine k_any 5 (v := _) (by simp only [aG, aH, aI]; rfl) (by kernel_rfl) (by kernel_rfl) (by kernel_rfl) (by kernel_rfl) (by exact fun _ _ _ h => h) (.inr HC.out) (by kernel_rfl) (fun w => by (repeat (rename ∀ (_ : Act) (_ : World), _ => hK9; clear hK9)); go_simp; rfl) ?_
            (try simp only [aP, aN, aT, aZ, aS])
            refine k_any 6 (v := _) (by simp only [aG, aH, aI]; rfl) (by kernel_rfl) (by kernel_rfl) (by kernel_rfl) (by kernel_rfl) (by exact fun _ _ _ h => h) (.inr HC.out) (by kernel_rfl) (fun w => by (repeat (rename ∀ (_ : Act) (_ : World), _ => hK9; clear hK9)); go_simp; rfl) ?_
            (try simp only [aP, aN, aT, aZ, aS])
            refine k_any 7 (v := _) (by simp only [aG, aH, aI]; rfl) (by kernel_rfl) (by kernel_rfl) (by kernel_rfl) (by kernel_rfl) (by exact fun _ _ _ h => h) (.inr HC.out) (by kernel_rfl) (fun w => by (repeat (rename ∀ (_ : Act) (_ : World), _ => hK9; clear hK9)); go_simp; rfl) ?_
            (try simp only [aP, aN, aT, aZ, aS])
            refine k_one 9 (by simp only [aG, aH, aI]; rfl) (by kernel_rfl) ?_
            ((with_reducible refine gSt rfl ?_); refine st2 HS.out rfl rfl rfl rfl (by repeat (first | exact AtI.here | apply AtI.there)) ?_; (first | refine sv (u := .agg (List.toArray _)) rfl ?_ | refine sv (u := .int _ _) rfl ?_ | refine sv (u := .slice _ _ _) rfl ?_ | refine sv (u := .bool _) rfl ?_ | refine sv (u := .pointer _) rfl ?_); refine sw (szT _ (by decide)) rfl (lb rfl) ?_; clear HS; intro w1 HS1; (simp only [Ent.enc, Led.Held.enc, Led.Last.enc, Rc.enc, segOf, aL, aZ, aS, putSeg] at HS1); have HS := Aside0.mk HS1; clear HS1; try simp only [aP, aN, aT, aZ, aS])
            have HC1 := HS.out.pick [0, 1] rfl (by decide)
            clear HC
            have HC := Aside0.mk HC1
            clear HC1
            refine k_nil (.inr HC.out) ?_
            (try simp only [aP, aN, aT, aZ, aS])
            refine k_any 10 (v := _) (by simp only [aG, aH, aI]; rfl) (by kernel_rfl) (by kernel_rfl) (by kernel_rfl) (by kernel_rfl) (by exact fun _ _ _ h => h) (.inr HC.out) (by kernel_rfl) (fun w => by (repeat (rename ∀ (_ : Act) (_ : World), _ => hK9; clear hK9)); go_simp; rfl) ?_
            (try simp only [aP, aN, aT, aZ, aS])
            refine k_done (by kernel_rfl) ?_ _
            have hdt : L2.map Ent.data = (d.log ++ [x]).map Ent.data := by rw [← HL2.out, List.map_append, List.map_append, HSM.out.log]; rfl
            have HDT := Aside0.mk hdt
            have HC9 := Aside0.mk (row_hi (hl := Ent.len) (h1 := Ent.one) HS.out 6 rfl).2
            have HBT := Aside0.mk (show hardOk ⟨d1.boot, d1.term, d1.vote, d1.s, A9, c9, L2⟩ = okAdd d x from hardOk_of (d := { d with log := d.log ++ [x] }) HSM.out.boot HSM.out.term HSM.out.vote HSM.out.s hdt)
            have HCX := Aside0.mk (fun w2 (h : Hrd.ok w2 ⟨d1.boot, d1.term, d1.vote, d1.s, A9, c9, L2⟩) => by
              have := refHard_any ⟨d1.boot, d1.term, d1.vote, d1.s, A9, c9, L2⟩ w2 h
              rw [HBT.out, HB.out] at this
              exact this)
            have HS3 := ((show SH w w1 [_, _, _, _, _, _, _, _, _, _] from HS.out).merge 7 8 (by decide) (i' := nodesI (d1.log ++ [x.at A1 c1]) (fun b => S5 b ∨ T1 b)) rfl rfl (fun k1 k2 e he => (by
                rcases List.mem_append.1 he with h1 | h1
                · exact ⟨(k1 e h1).1, (k1 e h1).2.mono (fun b hb => .inl hb)⟩
                · obtain rfl := List.mem_singleton.1 h1
                  exact ⟨{ (HX.out.sh HS.out) with rd := k2.1 }, k2.2.mono (fun b hb => .inr hb)⟩)) (fun b hb => hb)).toRd (hl := Ent.len) (h1 := Ent.one) 6 rfl
            rw [HL2.out] at HS3
            simp only [aZ, aS] at HS3
            clear HS HC hdt
            have HS := Aside0.mk HS3
            clear HS3
            go_wp2_with (first | (go_at_call 63; have HW8 := d1ok (A := A9) (c := c9) HSM.out HK.out HHC.out (HS.out.at 3 rfl).1 (HS.out.at 4 rfl).1 (HS.out.at 5 rfl).1 (HS.out.at 6 rfl).1 (fun e he => (HS.out.at 7 rfl e he).1); (go_at_call 63; (with_reducible refine (HCX.out _ HW8).mono ?_); rintro e w2 ⟨rfl, hb⟩;  have HS1 := HS.out.quiet hb; clear HS hb; have HS := Aside0.mk HS1; clear HS1); clear HW8) | ((first | ((first | ((with_reducible refine gA rfl ?_); refine sh_alloc HS.out rfl rfl (zeT _ (by decide)) ?_) | ((with_reducible refine gB rfl ?_); refine bx HS.out rfl rfl ?_; first | refine bv (v := .agg (List.toArray _)) rfl ?_ | refine bv (v := .int _ _) rfl ?_ | refine bv (v := .slice _ _ _) rfl ?_ | refine bv (v := .bool _) rfl ?_ | refine bv (v := .pointer _) rfl ?_) | ((with_reducible refine gL rfl ?_); refine sh_lit HS.out rfl rfl (by go_simp; exact ⟨⟨rfl, rfl⟩, rfl⟩) ?_)); clear HS; intro g w1 hg HS1; (simp only [Ent.enc, Led.Held.enc, Led.Last.enc, Rc.enc, zeF, segOf, aL, aC, aE] at HS1); have HS := Aside0.mk HS1; clear HS1) | ((with_reducible refine gLd rfl ?_); refine ld2 HS.out rfl rfl rfl (by repeat (first | exact AtI.here | apply AtI.there)) ?_; (first | refine LdK.one ((agT _ (by decide)).trans rfl) rfl ?_ | (refine LdK.agg ((agT _ (by decide)).trans rfl) (szT _ (by decide)) (lb rfl) ?_; try simp only [szL, aP, aN, aT, aZ, aS, aD, aF, aJ, aK, aM, aO]))) | ((with_reducible refine gSt rfl ?_); refine st2 HS.out rfl rfl rfl rfl (by repeat (first | exact AtI.here | apply AtI.there)) ?_; (first | refine sv (u := .agg (List.toArray _)) rfl ?_ | refine sv (u := .int _ _) rfl ?_ | refine sv (u := .slice _ _ _) rfl ?_ | refine sv (u := .bool _) rfl ?_ | refine sv (u := .pointer _) rfl ?_); refine sw (szT _ (by decide)) rfl (lb rfl) ?_; clear HS; intro w1 HS1; (simp only [Ent.enc, Led.Held.enc, Led.Last.enc, Rc.enc, segOf, aL, aZ, aS, putSeg] at HS1); have HS := Aside0.mk HS1; clear HS1)); try simp only [aP, aN, aT, aZ, aS]))
            refine bodyPost_ret (results_list (rs := [.cell 4 32, .tmp 5]) rfl (by simp) (.cell _ _ _ _ _ rfl (HS.out.blk 2 rfl) Try.underlying32 rfl ((szT _ (by decide)).trans rfl) (.tmp .nil))) rfl ?_
            exact doAdd_mk (.inl ⟨HB.out, ⟨d1.boot, d1.term, d1.vote, d1.s, A9, c9, L2⟩, S1, S2, S3, S9, _, rfl, HSM.out.boot, HSM.out.term, HSM.out.vote, HSM.out.s, HDT.out, HHC.out, HC9.out, HS.out.pick [3, 4, 5, 6, 7] rfl (by decide)⟩)
        · skip
          refine k_oneI 8 (by simp only [aG, aH, aI]; rfl) ?_
          ((with_reducible refine gA rfl ?_); refine sh_alloc HS.out rfl rfl (zeT _ (by decide)) ?_; clear HS; intro g w1 hg HS1; (simp only [Ent.enc, Led.Held.enc, Led.Last.enc, Rc.enc, zeF, segOf, aL, aC, aE] at HS1); have HS := Aside0.mk HS1; clear HS1; try simp only [aP, aN, aT, aZ, aS])
          have HC1 := HS.out.pick [0, 1] rfl (by decide)
          clear HC
          have HC := Aside0.mk HC1
          clear HC1
          refine k_nil (.inr HC.out) ?_
          (try simp only [aP, aN, aT, aZ, aS])
          refine k_call 3 (by simp only [aG, aH, aI]; rfl) (by kernel_rfl) (by kernel_rfl) rfl (vs := #[.agg #[.int .i64 3, .int .i64 0, .int .u64 0, .int .u64 0, .int .u64 ix, .int .u64 x.term, .int .i64 x.kind, .int .i64 x.node, .int .i64 x.token, .slice x.A x.nodes.length x.c, .int .u64 x.boot, .int .u64 x.seq, .int .u64 x.serial, .int .u64 x.stamp, .int .u64 0, .int .u64 0, .slice none 0 0, .int .i64 0, .int .u64 0, .slice none 0 0, .slice none 0 0]]) (by kernel_rfl) (fnT _ (by decide)) (cpRec_add ix x _ (HX.out.sh HS.out) hxz) (fun e w2 hpost => ?_); obtain ⟨A1, c1, T1, rfl, HS2⟩ := hpost; have HSN := (show SH w w2 [_, _, _, _, _, _, _, _, _, _] from HS.out.call HS2).pick [0, 1, 2, 3, 4, 5, 6, 7, 9, 8] rfl (by decide); have HC1 := HSN.pick [0, 1] rfl (by decide); refine ⟨_, rfl, HC1, ?_⟩; clear HS HC; have HS := Aside0.mk HSN; have HC := Aside0.mk HC1; clear HSN HC1 ; clear HS2; obtain ⟨L2, hL2⟩ : ∃ L2, d1.log ++ [x.at A1 c1] = L2 := ⟨_, rfl⟩; have HL2 := Aside0.mk hL2; clear hL2
          (try simp only [aP, aN, aT, aZ, aS])
          refine k_call 4 (by simp only [aG, aH, aI]; rfl) (by kernel_rfl) (by kernel_rfl) rfl (vs := #[.agg #[.int .u64 d1.boot, .int .u64 d1.term, .int .i64 d1.vote, .int .u64 d1.s.si, .int .u64 d1.s.st, .slice d1.s.nA d1.s.nodes.length d1.s.nc, .int .i64 d1.s.lim, .int .u64 d1.s.nxt, .slice d1.s.hA d1.s.held.length d1.s.hc, .slice d1.s.lA d1.s.last.length d1.s.lc, .slice d1.gA d1.log.length d1.gc], .agg #[.int .i64 3, .int .i64 0, .int .u64 0, .int .u64 0, .int .u64 ix, .int .u64 x.term, .int .i64 x.kind, .int .i64 x.node, .int .i64 x.token, .slice A1 x.nodes.length c1, .int .u64 x.boot, .int .u64 x.seq, .int .u64 x.serial, .int .u64 x.stamp, .int .u64 0, .int .u64 0, .slice none 0 0, .int .i64 0, .int .u64 0, .slice none 0 0, .slice none 0 0]]) (by kernel_rfl) (fnT _ (by decide)) (refDone_addL d1 (x.at A1 c1) ix L2 S4 _ (SH.pack (is := [_]) [_, _, _, _, _, _, _, _, _] (HS.out.pick [6, 0, 1, 2, 3, 4, 5, 7, 8, 9] rfl (by decide))) (fun w1 h0 h => HFE.out w1 _ _ _ _ _ h0 h) HG1.out HN1.out HI1.out HL2.out) (fun e w2 hpost => ?_); obtain ⟨A9, c9, S9, rfl, HS2⟩ := hpost; have HSN := (show SH w w2 [_, _, _, _, _, _, _, _, _, _] from (SH.unpack (is := [_]) [_, _, _, _, _, _, _, _, _] HS2).pick [1, 2, 3, 4, 5, 6, 0, 7, 8, 9] rfl (by decide)); have HC1 := HSN.pick [0, 1] rfl (by decide); refine ⟨_, rfl, HC1, ?_⟩; clear HS HC; have HS := Aside0.mk HSN; have HC := Aside0.mk HC1; clear HSN HC1 ; clear HS2
          (try simp only [aP, aN, aT, aZ, aS])
          refine k_any 5 (v := _) (by simp only [aG, aH, aI]; rfl) (by kernel_rfl) (by kernel_rfl) (by kernel_rfl) (by kernel_rfl) (by exact fun _ _ _ h => h) (.inr HC.out) (by kernel_rfl) (fun w => by (repeat (rename ∀ (_ : Act) (_ : World), _ => hK9; clear hK9)); go_simp; rfl) ?_
          (try simp only [aP, aN, aT, aZ, aS])
          refine k_any 6 (v := _) (by simp only [aG, aH, aI]; rfl) (by kernel_rfl) (by kernel_rfl) (by kernel_rfl) (by kernel_rfl) (by exact fun _ _ _ h => h) (.inr HC.out) (by kernel_rfl) (fun w => by (repeat (rename ∀ (_ : Act) (_ : World), _ => hK9; clear hK9)); go_simp; rfl) ?_
          (try simp only [aP, aN, aT, aZ, aS])
          refine k_any 7 (v := _) (by simp only [aG, aH, aI]; rfl) (by kernel_rfl) (by kernel_rfl) (by kernel_rfl) (by kernel_rfl) (by exact fun _ _ _ h => h) (.inr HC.out) (by kernel_rfl) (fun w => by (repeat (rename ∀ (_ : Act) (_ : World), _ => hK9; clear hK9)); go_simp; rfl) ?_
          (try simp only [aP, aN, aT, aZ, aS])
          refine k_one 9 (by simp only [aG, aH, aI]; rfl) (by kernel_rfl) ?_
          ((with_reducible refine gSt rfl ?_); refine st2 HS.out rfl rfl rfl rfl (by repeat (first | exact AtI.here | apply AtI.there)) ?_; (first | refine sv (u := .agg (List.toArray _)) rfl ?_ | refine sv (u := .int _ _) rfl ?_ | refine sv (u := .slice _ _ _) rfl ?_ | refine sv (u := .bool _) rfl ?_ | refine sv (u := .pointer _) rfl ?_); refine sw (szT _ (by decide)) rfl (lb rfl) ?_; clear HS; intro w1 HS1; (simp only [Ent.enc, Led.Held.enc, Led.Last.enc, Rc.enc, segOf, aL, aZ, aS, putSeg] at HS1); have HS := Aside0.mk HS1; clear HS1; try simp only [aP, aN, aT, aZ, aS])
          have HC1 := HS.out.pick [0, 1] rfl (by decide)
          clear HC
          have HC := Aside0.mk HC1
          clear HC1
          refine k_nil (.inr HC.out) ?_
          (try simp only [aP, aN, aT, aZ, aS])
          refine k_any 10 (v := _) (by simp only [aG, aH, aI]; rfl) (by kernel_rfl) (by kernel_rfl) (by kernel_rfl) (by kernel_rfl) (by exact fun _ _ _ h => h) (.inr HC.out) (by kernel_rfl) (fun w => by (repeat (rename ∀ (_ : Act) (_ : World), _ => hK9; clear hK9)); go_simp; rfl) ?_
          (try simp only [aP, aN, aT, aZ, aS])
          refine k_done (by kernel_rfl) ?_ _
          have hdt : L2.map Ent.data = (d.log ++ [x]).map Ent.data := by rw [← HL2.out, List.map_append, List.map_append, HSM.out.log]; rfl
          have HDT := Aside0.mk hdt
          have HC9 := Aside0.mk (row_hi (hl := Ent.len) (h1 := Ent.one) HS.out 6 rfl).2
          have HBT := Aside0.mk (show hardOk ⟨d1.boot, d1.term, d1.vote, d1.s, A9, c9, L2⟩ = okAdd d x from hardOk_of (d := { d with log := d.log ++ [x] }) HSM.out.boot HSM.out.term HSM.out.vote HSM.out.s hdt)
          have HCX := Aside0.mk (fun w2 (h : Hrd.ok w2 ⟨d1.boot, d1.term, d1.vote, d1.s, A9, c9, L2⟩) => by
            have := refHard_any ⟨d1.boot, d1.term, d1.vote, d1.s, A9, c9, L2⟩ w2 h
            rw [HBT.out, HB.out] at this
            exact this)
          have HS3 := ((show SH w w1 [_, _, _, _, _, _, _, _, _, _] from HS.out).merge 7 8 (by decide) (i' := nodesI (d1.log ++ [x.at A1 c1]) (fun b => S5 b ∨ T1 b)) rfl rfl (fun k1 k2 e he => (by
              rcases List.mem_append.1 he with h1 | h1
              · exact ⟨(k1 e h1).1, (k1 e h1).2.mono (fun b hb => .inl hb)⟩
              · obtain rfl := List.mem_singleton.1 h1
                exact ⟨{ (HX.out.sh HS.out) with rd := k2.1 }, k2.2.mono (fun b hb => .inr hb)⟩)) (fun b hb => hb)).toRd (hl := Ent.len) (h1 := Ent.one) 6 rfl
          rw [HL2.out] at HS3
          simp only [aZ, aS] at HS3
          clear HS HC hdt
          have HS := Aside0.mk HS3
          clear HS3
          go_wp2_with (first | (go_at_call 63; have HW8 := d1ok (A := A9) (c := c9) HSM.out HK.out HHC.out (HS.out.at 3 rfl).1 (HS.out.at 4 rfl).1 (HS.out.at 5 rfl).1 (HS.out.at 6 rfl).1 (fun e he => (HS.out.at 7 rfl e he).1); (go_at_call 63; (with_reducible refine (HCX.out _ HW8).mono ?_); rintro e w2 ⟨rfl, hb⟩;  have HS1 := HS.out.quiet hb; clear HS hb; have HS := Aside0.mk HS1; clear HS1); clear HW8) | ((first | ((first | ((with_reducible refine gA rfl ?_); refine sh_alloc HS.out rfl rfl (zeT _ (by decide)) ?_) | ((with_reducible refine gB rfl ?_); refine bx HS.out rfl rfl ?_; first | refine bv (v := .agg (List.toArray _)) rfl ?_ | refine bv (v := .int _ _) rfl ?_ | refine bv (v := .slice _ _ _) rfl ?_ | refine bv (v := .bool _) rfl ?_ | refine bv (v := .pointer _) rfl ?_) | ((with_reducible refine gL rfl ?_); refine sh_lit HS.out rfl rfl (by go_simp; exact ⟨⟨rfl, rfl⟩, rfl⟩) ?_)); clear HS; intro g w1 hg HS1; (simp only [Ent.enc, Led.Held.enc, Led.Last.enc, Rc.enc, zeF, segOf, aL, aC, aE] at HS1); have HS := Aside0.mk HS1; clear HS1) | ((with_reducible refine gLd rfl ?_); refine ld2 HS.out rfl rfl rfl (by repeat (first | exact AtI.here | apply AtI.there)) ?_; (first | refine LdK.one ((agT _ (by decide)).trans rfl) rfl ?_ | (refine LdK.agg ((agT _ (by decide)).trans rfl) (szT _ (by decide)) (lb rfl) ?_; try simp only [szL, aP, aN, aT, aZ, aS, aD, aF, aJ, aK, aM, aO]))) | ((with_reducible refine gSt rfl ?_); refine st2 HS.out rfl rfl rfl rfl (by repeat (first | exact AtI.here | apply AtI.there)) ?_; (first | refine sv (u := .agg (List.toArray _)) rfl ?_ | refine sv (u := .int _ _) rfl ?_ | refine sv (u := .slice _ _ _) rfl ?_ | refine sv (u := .bool _) rfl ?_ | refine sv (u := .pointer _) rfl ?_); refine sw (szT _ (by decide)) rfl (lb rfl) ?_; clear HS; intro w1 HS1; (simp only [Ent.enc, Led.Held.enc, Led.Last.enc, Rc.enc, segOf, aL, aZ, aS, putSeg] at HS1); have HS := Aside0.mk HS1; clear HS1)); try simp only [aP, aN, aT, aZ, aS]))
          refine bodyPost_ret (results_list (rs := [.cell 4 32, .tmp 5]) rfl (by simp) (.cell _ _ _ _ _ rfl (HS.out.blk 2 rfl) Try.underlying32 rfl ((szT _ (by decide)).trans rfl) (.tmp .nil))) rfl ?_
          exact doAdd_mk (.inl ⟨HB.out, ⟨d1.boot, d1.term, d1.vote, d1.s, A9, c9, L2⟩, S1, S2, S3, S9, _, rfl, HSM.out.boot, HSM.out.term, HSM.out.vote, HSM.out.s, HDT.out, HHC.out, HC9.out, HS.out.pick [3, 4, 5, 6, 7] rfl (by decide)⟩)
      · skip
        refine k_oneI 8 (by simp only [aG, aH, aI]; rfl) ?_
        ((with_reducible refine gA rfl ?_); refine sh_alloc HS.out rfl rfl (zeT _ (by decide)) ?_; clear HS; intro g w1 hg HS1; (simp only [Ent.enc, Led.Held.enc, Led.Last.enc, Rc.enc, zeF, segOf, aL, aC, aE] at HS1); have HS := Aside0.mk HS1; clear HS1; try simp only [aP, aN, aT, aZ, aS])
        have HC1 := HS.out.pick [0, 1] rfl (by decide)
        clear HC
        have HC := Aside0.mk HC1
        clear HC1
        refine k_nil (.inr HC.out) ?_
        (try simp only [aP, aN, aT, aZ, aS])
        refine k_call 1 (by simp only [aG, aH, aI]; rfl) (by kernel_rfl) (by kernel_rfl) rfl (vs := #[.agg #[.int .u64 d.boot, .int .u64 d.term, .int .i64 d.vote, .int .u64 d.s.si, .int .u64 d.s.st, .slice d.s.nA d.s.nodes.length d.s.nc, .int .i64 d.s.lim, .int .u64 d.s.nxt, .slice d.s.hA d.s.held.length d.s.hc, .slice d.s.lA d.s.last.length d.s.lc, .slice d.gA d.log.length d.gc]]) (by kernel_rfl) (fnT _ (by decide)) (cpHardR_any d _ (HK.out.sh HS.out) HZ.out) (fun e w2 hpost => ?_); obtain ⟨d1, S1, S2, S3, S4, S5, rfl, hsm, hhc, hgc, HS2⟩ := hpost; have HSN := (show SH w w2 [_, _, _, _, _, _, _, _, _] from HS.out.call HS2).pick [0, 1, 2, 4, 5, 6, 7, 8, 3] rfl (by decide); have HC1 := HSN.pick [0, 1] rfl (by decide); refine ⟨_, rfl, HC1, ?_⟩; clear HS HC; have HS := Aside0.mk HSN; have HC := Aside0.mk HC1; clear HSN HC1 ; have HSM := Aside0.mk hsm; have HHC := Aside0.mk hhc; have HGC := Aside0.mk hgc; clear hsm hhc hgc HS2; have hlen1 : d1.log.length = d.log.length := same_len HSM.out; have hg1 := (same_hardOk HSM.out).trans HG.out; have HI1 := Aside0.mk (show ix = d1.s.si + d1.log.length + 1 by rw [HSM.out.s.si, hlen1]; exact HI.out); have HN1 := Aside0.mk (show d1.log.length ≤ 1000000 by rw [hlen1]; exact HN.out); have HFD := Aside0.mk (fun (w1 : World) (i1 i2 i3 i4 : HP) (h0 : (row entK 52 (.slice d1.gA d1.log.length d1.gc) d1.log S4).ok w1) (h : (allI [i1, i2, i3, rdI (ints .i64) 1 d1.s.nA d1.s.nodes.length d1.s.nodes S1, rdI Led.Held.enc 5 d1.s.hA d1.s.held.length d1.s.held S2, rdI Led.Last.enc 6 d1.s.lA d1.s.last.length d1.s.last S3, nodesI d1.log S5, i4]).ok w1) => show d1.ok w1 from d1ok (A := d1.gA) (c := d1.gc) HSM.out HK.out HHC.out (h.1 (rdI (ints .i64) 1 d1.s.nA d1.s.nodes.length d1.s.nodes S1) (by simp)).1 (h.1 (rdI Led.Held.enc 5 d1.s.hA d1.s.held.length d1.s.held S2) (by simp)).1 (h.1 (rdI Led.Last.enc 6 d1.s.lA d1.s.last.length d1.s.last S3) (by simp)).1 (rowok_rd (hl := Ent.len) (h1 := Ent.one) h0).1 (fun e he => (h.1 (nodesI d1.log S5) (by simp) e he).1)); have HFE := Aside0.mk (fun (w1 : World) (i1 i2 i3 i4 i5 : HP) (h0 : (row entK 52 (.slice d1.gA d1.log.length d1.gc) d1.log S4).ok w1) (h : (allI [i1, i2, i3, rdI (ints .i64) 1 d1.s.nA d1.s.nodes.length d1.s.nodes S1, rdI Led.Held.enc 5 d1.s.hA d1.s.held.length d1.s.held S2, rdI Led.Last.enc 6 d1.s.lA d1.s.last.length d1.s.last S3, nodesI d1.log S5, i4, i5]).ok w1) => show d1.ok w1 from d1ok (A := d1.gA) (c := d1.gc) HSM.out HK.out HHC.out (h.1 (rdI (ints .i64) 1 d1.s.nA d1.s.nodes.length d1.s.nodes S1) (by simp)).1 (h.1 (rdI Led.Held.enc 5 d1.s.hA d1.s.held.length d1.s.held S2) (by simp)).1 (h.1 (rdI Led.Last.enc 6 d1.s.lA d1.s.last.length d1.s.last S3) (by simp)).1 (rowok_rd (hl := Ent.len) (h1 := Ent.one) h0).1 (fun e he => (h.1 (nodesI d1.log S5) (by simp) e he).1)); have HLN := Aside0.mk hlen1; have HG1 := Aside0.mk hg1; clear hlen1 hg1
        (try simp only [aP, aN, aT, aZ, aS])
        refine k_call 3 (by simp only [aG, aH, aI]; rfl) (by kernel_rfl) (by kernel_rfl) rfl (vs := #[.agg #[.int .i64 3, .int .i64 0, .int .u64 0, .int .u64 0, .int .u64 ix, .int .u64 x.term, .int .i64 x.kind, .int .i64 x.node, .int .i64 x.token, .slice x.A x.nodes.length x.c, .int .u64 x.boot, .int .u64 x.seq, .int .u64 x.serial, .int .u64 x.stamp, .int .u64 0, .int .u64 0, .slice none 0 0, .int .i64 0, .int .u64 0, .slice none 0 0, .slice none 0 0]]) (by kernel_rfl) (fnT _ (by decide)) (cpRec_add ix x _ (HX.out.sh HS.out) hxz) (fun e w2 hpost => ?_); obtain ⟨A1, c1, T1, rfl, HS2⟩ := hpost; have HSN := (show SH w w2 [_, _, _, _, _, _, _, _, _, _] from HS.out.call HS2).pick [0, 1, 2, 3, 4, 5, 6, 7, 9, 8] rfl (by decide); have HC1 := HSN.pick [0, 1] rfl (by decide); refine ⟨_, rfl, HC1, ?_⟩; clear HS HC; have HS := Aside0.mk HSN; have HC := Aside0.mk HC1; clear HSN HC1 ; clear HS2; obtain ⟨L2, hL2⟩ : ∃ L2, d1.log ++ [x.at A1 c1] = L2 := ⟨_, rfl⟩; have HL2 := Aside0.mk hL2; clear hL2
        (try simp only [aP, aN, aT, aZ, aS])
        refine k_call 4 (by simp only [aG, aH, aI]; rfl) (by kernel_rfl) (by kernel_rfl) rfl (vs := #[.agg #[.int .u64 d1.boot, .int .u64 d1.term, .int .i64 d1.vote, .int .u64 d1.s.si, .int .u64 d1.s.st, .slice d1.s.nA d1.s.nodes.length d1.s.nc, .int .i64 d1.s.lim, .int .u64 d1.s.nxt, .slice d1.s.hA d1.s.held.length d1.s.hc, .slice d1.s.lA d1.s.last.length d1.s.lc, .slice d1.gA d1.log.length d1.gc], .agg #[.int .i64 3, .int .i64 0, .int .u64 0, .int .u64 0, .int .u64 ix, .int .u64 x.term, .int .i64 x.kind, .int .i64 x.node, .int .i64 x.token, .slice A1 x.nodes.length c1, .int .u64 x.boot, .int .u64 x.seq, .int .u64 x.serial, .int .u64 x.stamp, .int .u64 0, .int .u64 0, .slice none 0 0, .int .i64 0, .int .u64 0, .slice none 0 0, .slice none 0 0]]) (by kernel_rfl) (fnT _ (by decide)) (refDone_addL d1 (x.at A1 c1) ix L2 S4 _ (SH.pack (is := [_]) [_, _, _, _, _, _, _, _, _] (HS.out.pick [6, 0, 1, 2, 3, 4, 5, 7, 8, 9] rfl (by decide))) (fun w1 h0 h => HFE.out w1 _ _ _ _ _ h0 h) HG1.out HN1.out HI1.out HL2.out) (fun e w2 hpost => ?_); obtain ⟨A9, c9, S9, rfl, HS2⟩ := hpost; have HSN := (show SH w w2 [_, _, _, _, _, _, _, _, _, _] from (SH.unpack (is := [_]) [_, _, _, _, _, _, _, _, _] HS2).pick [1, 2, 3, 4, 5, 6, 0, 7, 8, 9] rfl (by decide)); have HC1 := HSN.pick [0, 1] rfl (by decide); refine ⟨_, rfl, HC1, ?_⟩; clear HS HC; have HS := Aside0.mk HSN; have HC := Aside0.mk HC1; clear HSN HC1 ; clear HS2
        (try simp only [aP, aN, aT, aZ, aS])
        refine k_any 5 (v := _) (by simp only [aG, aH, aI]; rfl) (by kernel_rfl) (by kernel_rfl) (by kernel_rfl) (by kernel_rfl) (by exact fun _ _ _ h => h) (.inr HC.out) (by kernel_rfl) (fun w => by (repeat (rename ∀ (_ : Act) (_ : World), _ => hK9; clear hK9)); go_simp; rfl) ?_
        (try simp only [aP, aN, aT, aZ, aS])
        refine k_any 6 (v := _) (by simp only [aG, aH, aI]; rfl) (by kernel_rfl) (by kernel_rfl) (by kernel_rfl) (by kernel_rfl) (by exact fun _ _ _ h => h) (.inr HC.out) (by kernel_rfl) (fun w => by (repeat (rename ∀ (_ : Act) (_ : World), _ => hK9; clear hK9)); go_simp; rfl) ?_
        (try simp only [aP, aN, aT, aZ, aS])
        refine k_any 7 (v := _) (by simp only [aG, aH, aI]; rfl) (by kernel_rfl) (by kernel_rfl) (by kernel_rfl) (by kernel_rfl) (by exact fun _ _ _ h => h) (.inr HC.out) (by kernel_rfl) (fun w => by (repeat (rename ∀ (_ : Act) (_ : World), _ => hK9; clear hK9)); go_simp; rfl) ?_
        (try simp only [aP, aN, aT, aZ, aS])
        refine k_one 9 (by simp only [aG, aH, aI]; rfl) (by kernel_rfl) ?_
        ((with_reducible refine gSt rfl ?_); refine st2 HS.out rfl rfl rfl rfl (by repeat (first | exact AtI.here | apply AtI.there)) ?_; (first | refine sv (u := .agg (List.toArray _)) rfl ?_ | refine sv (u := .int _ _) rfl ?_ | refine sv (u := .slice _ _ _) rfl ?_ | refine sv (u := .bool _) rfl ?_ | refine sv (u := .pointer _) rfl ?_); refine sw (szT _ (by decide)) rfl (lb rfl) ?_; clear HS; intro w1 HS1; (simp only [Ent.enc, Led.Held.enc, Led.Last.enc, Rc.enc, segOf, aL, aZ, aS, putSeg] at HS1); have HS := Aside0.mk HS1; clear HS1; try simp only [aP, aN, aT, aZ, aS])
        have HC1 := HS.out.pick [0, 1] rfl (by decide)
        clear HC
        have HC := Aside0.mk HC1
        clear HC1
        refine k_nil (.inr HC.out) ?_
        (try simp only [aP, aN, aT, aZ, aS])
        refine k_any 10 (v := _) (by simp only [aG, aH, aI]; rfl) (by kernel_rfl) (by kernel_rfl) (by kernel_rfl) (by kernel_rfl) (by exact fun _ _ _ h => h) (.inr HC.out) (by kernel_rfl) (fun w => by (repeat (rename ∀ (_ : Act) (_ : World), _ => hK9; clear hK9)); go_simp; rfl) ?_
        (try simp only [aP, aN, aT, aZ, aS])
        refine k_done (by kernel_rfl) ?_ _
        have hdt : L2.map Ent.data = (d.log ++ [x]).map Ent.data := by rw [← HL2.out, List.map_append, List.map_append, HSM.out.log]; rfl
        have HDT := Aside0.mk hdt
        have HC9 := Aside0.mk (row_hi (hl := Ent.len) (h1 := Ent.one) HS.out 6 rfl).2
        have HBT := Aside0.mk (show hardOk ⟨d1.boot, d1.term, d1.vote, d1.s, A9, c9, L2⟩ = okAdd d x from hardOk_of (d := { d with log := d.log ++ [x] }) HSM.out.boot HSM.out.term HSM.out.vote HSM.out.s hdt)
        have HCX := Aside0.mk (fun w2 (h : Hrd.ok w2 ⟨d1.boot, d1.term, d1.vote, d1.s, A9, c9, L2⟩) => by
          have := refHard_any ⟨d1.boot, d1.term, d1.vote, d1.s, A9, c9, L2⟩ w2 h
          rw [HBT.out, HB.out] at this
          exact this)
        have HS3 := ((show SH w w1 [_, _, _, _, _, _, _, _, _, _] from HS.out).merge 7 8 (by decide) (i' := nodesI (d1.log ++ [x.at A1 c1]) (fun b => S5 b ∨ T1 b)) rfl rfl (fun k1 k2 e he => (by
            rcases List.mem_append.1 he with h1 | h1
            · exact ⟨(k1 e h1).1, (k1 e h1).2.mono (fun b hb => .inl hb)⟩
            · obtain rfl := List.mem_singleton.1 h1
              exact ⟨{ (HX.out.sh HS.out) with rd := k2.1 }, k2.2.mono (fun b hb => .inr hb)⟩)) (fun b hb => hb)).toRd (hl := Ent.len) (h1 := Ent.one) 6 rfl
        rw [HL2.out] at HS3
        simp only [aZ, aS] at HS3
        clear HS HC hdt
        have HS := Aside0.mk HS3
        clear HS3
        go_wp2_with (first | (go_at_call 63; have HW8 := d1ok (A := A9) (c := c9) HSM.out HK.out HHC.out (HS.out.at 3 rfl).1 (HS.out.at 4 rfl).1 (HS.out.at 5 rfl).1 (HS.out.at 6 rfl).1 (fun e he => (HS.out.at 7 rfl e he).1); (go_at_call 63; (with_reducible refine (HCX.out _ HW8).mono ?_); rintro e w2 ⟨rfl, hb⟩;  have HS1 := HS.out.quiet hb; clear HS hb; have HS := Aside0.mk HS1; clear HS1); clear HW8) | ((first | ((first | ((with_reducible refine gA rfl ?_); refine sh_alloc HS.out rfl rfl (zeT _ (by decide)) ?_) | ((with_reducible refine gB rfl ?_); refine bx HS.out rfl rfl ?_; first | refine bv (v := .agg (List.toArray _)) rfl ?_ | refine bv (v := .int _ _) rfl ?_ | refine bv (v := .slice _ _ _) rfl ?_ | refine bv (v := .bool _) rfl ?_ | refine bv (v := .pointer _) rfl ?_) | ((with_reducible refine gL rfl ?_); refine sh_lit HS.out rfl rfl (by go_simp; exact ⟨⟨rfl, rfl⟩, rfl⟩) ?_)); clear HS; intro g w1 hg HS1; (simp only [Ent.enc, Led.Held.enc, Led.Last.enc, Rc.enc, zeF, segOf, aL, aC, aE] at HS1); have HS := Aside0.mk HS1; clear HS1) | ((with_reducible refine gLd rfl ?_); refine ld2 HS.out rfl rfl rfl (by repeat (first | exact AtI.here | apply AtI.there)) ?_; (first | refine LdK.one ((agT _ (by decide)).trans rfl) rfl ?_ | (refine LdK.agg ((agT _ (by decide)).trans rfl) (szT _ (by decide)) (lb rfl) ?_; try simp only [szL, aP, aN, aT, aZ, aS, aD, aF, aJ, aK, aM, aO]))) | ((with_reducible refine gSt rfl ?_); refine st2 HS.out rfl rfl rfl rfl (by repeat (first | exact AtI.here | apply AtI.there)) ?_; (first | refine sv (u := .agg (List.toArray _)) rfl ?_ | refine sv (u := .int _ _) rfl ?_ | refine sv (u := .slice _ _ _) rfl ?_ | refine sv (u := .bool _) rfl ?_ | refine sv (u := .pointer _) rfl ?_); refine sw (szT _ (by decide)) rfl (lb rfl) ?_; clear HS; intro w1 HS1; (simp only [Ent.enc, Led.Held.enc, Led.Last.enc, Rc.enc, segOf, aL, aZ, aS, putSeg] at HS1); have HS := Aside0.mk HS1; clear HS1)); try simp only [aP, aN, aT, aZ, aS]))
        refine bodyPost_ret (results_list (rs := [.cell 4 32, .tmp 5]) rfl (by simp) (.cell _ _ _ _ _ rfl (HS.out.blk 2 rfl) Try.underlying32 rfl ((szT _ (by decide)).trans rfl) (.tmp .nil))) rfl ?_
        exact doAdd_mk (.inl ⟨HB.out, ⟨d1.boot, d1.term, d1.vote, d1.s, A9, c9, L2⟩, S1, S2, S3, S9, _, rfl, HSM.out.boot, HSM.out.term, HSM.out.vote, HSM.out.s, HDT.out, HHC.out, HC9.out, HS.out.pick [3, 4, 5, 6, 7] rfl (by decide)⟩)
end Go.Proofs.Ytekjihmepdhmeaa.Rlo

