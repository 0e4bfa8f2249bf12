import Derived.Test.YtekjihmepdhmeaaRlqCj
import Derived.Test.YtekjihmepdhmeaaRlqDj
import Derived.Test.YtekjihmepdhmeaaRlo7j
/- Lemmas towards the law: what of the text RlqF it needs. -/
namespace Go.Proofs.Ytekjihmepdhmeaa.Rlo
open Go.RowKit Go.Proofs.YtekjihmepdhmeaaW.PrintWords Go.Proofs.Ytekjihmepdhmeaa.Sl
set_option linter.unusedVariables false
set_option linter.unusedSimpArgs false
set_option maxHeartbeats 1600000 in
set_option maxRecDepth 100000 in
theorem exampleB (w : World) : Calls Try.prog 14 #[] w (fun e w' => ∃ gn gl t1 t2, e = .returned (.agg #[.int .u64 0, .int .u64 3, .int .i64 0, .int .u64 5, .int .u64 2, .slice (some ⟨gn, 0, none⟩) 1 1, .int .i64 2, .int .u64 1, .slice none 0 0, .slice none 0 0, .slice (some ⟨gl, 0, none⟩) 2 2]) ∧ SH w w' [blk gn [.int .i64 1] t1, blk gl [.int .u64 2, .int .i64 1, .int .i64 0, .int .i64 0, .slice none 0 0, .int .u64 0, .int .u64 0, .int .u64 0, .int .u64 0, .int .u64 3, .int .i64 1, .int .i64 0, .int .i64 0, .slice none 0 0, .int .u64 0, .int .u64 0, .int .u64 0, .int .u64 0] t2]) := by
  have HS := Aside0.mk (SH.start w)
  go_enter Try.func14, Try.ntmps14
  go_wp2_with (first | ((first | ((first | ((with_reducible refine gA rfl ?_); refine sh_alloc HS.out rfl rfl (zeT _ (by decide)) ?_) | ((with_reducible refine gB rfl ?_); refine bx HS.out rfl rfl ?_; first | refine bv (v := .agg (List.toArray _)) rfl ?_ | refine bv (v := .int _ _) rfl ?_ | refine bv (v := .slice _ _ _) rfl ?_ | refine bv (v := .bool _) rfl ?_ | refine bv (v := .pointer _) rfl ?_) | ((with_reducible refine gL rfl ?_); refine sh_lit HS.out rfl rfl (by go_simp; exact ⟨⟨rfl, rfl⟩, rfl⟩) ?_)); clear HS; intro g w1 hg HS1; (simp only [Ent.enc, Led.Held.enc, Led.Last.enc, Rc.enc, zeF, segOf, aL, aC, aE] at HS1); have HS := Aside0.mk HS1; clear HS1) | ((with_reducible refine gLd rfl ?_); refine ld2 HS.out rfl rfl rfl (by repeat (first | exact AtI.here | apply AtI.there)) ?_; (first | refine LdK.one ((agT _ (by decide)).trans rfl) rfl ?_ | (refine LdK.agg ((agT _ (by decide)).trans rfl) (szT _ (by decide)) (lb rfl) ?_; try simp only [szL, aP, aN, aT, aZ, aS, aD, aF, aJ, aK, aM, aO]))) | ((with_reducible refine gSt rfl ?_); refine st2 HS.out rfl rfl rfl rfl (by repeat (first | exact AtI.here | apply AtI.there)) ?_; (first | refine sv (u := .agg (List.toArray _)) rfl ?_ | refine sv (u := .int _ _) rfl ?_ | refine sv (u := .slice _ _ _) rfl ?_ | refine sv (u := .bool _) rfl ?_ | refine sv (u := .pointer _) rfl ?_); refine sw (szT _ (by decide)) rfl (lb rfl) ?_; clear HS; intro w1 HS1; (simp only [Ent.enc, Led.Held.enc, Led.Last.enc, Rc.enc, segOf, aL, aZ, aS, putSeg] at HS1); have HS := Aside0.mk HS1; clear HS1)); try simp only [aP, aN, aT, aZ, aS]))
  refine bodyPost_ret (results_cell_row rfl _ _ _ _ _ _ _ rfl (HS.out.blk 0 rfl) Try.underlying32 rfl ((szT _ (by decide)).trans rfl)) rfl ?_
  exact ⟨_, _, _, _, rfl, HS.out.pick [2, 3] rfl (by decide)⟩
theorem exMerge1 (gn gl : Nat) : (mergeG (exD gn gl) 6 2 0 [exE 3]).1 = 1 := by kernel_rfl
theorem exMerge (gn gl g : Nat) (w : World) (hk : (exD gn gl).ok w) (hr : Rd Ent.enc 9 w (some ⟨g, 0, none⟩) 1 [exE 3]) :
    Calls Try.prog 29 #[.agg #[.int .u64 0, .int .u64 3, .int .i64 0, .int .u64 5, .int .u64 2, .slice (some ⟨gn, 0, none⟩) 1 1, .int .i64 2, .int .u64 1, .slice none 0 0, .slice none 0 0, .slice (some ⟨gl, 0, none⟩) 2 2], .int .u64 6, .int .u64 2, .int .u64 0, .slice (some ⟨g, 0, none⟩) 1 1] w (fun e w' => (∃ (B : Option Addr) (n cb : Nat), e = .returned (.tuple #[.int .i64 1, .slice B n cb])) ∧ Below w.heap.size w w') := by
  have h := merge_any (exD gn gl) 6 2 0 (some ⟨g, 0, none⟩) 1 1 [exE 3] w hk ⟨⟨by show 1 * 8 ≤ 140737488351232; decide, by show 0 * 40 ≤ 140737488351232; decide, by show 0 * 48 ≤ 140737488351232; decide⟩, by show 2 * 88 ≤ 140737488351232; decide, fun e he => by
    have : e = exE 2 ∨ e = exE 3 := by simpa [exD] using he
    rcases this with rfl | rfl <;> (show 0 * 8 ≤ 140737488351232; decide)⟩ ln6 ln2 ln0 hr (fun e he => by obtain rfl := List.mem_singleton.1 he; exact exE_ok w 3 ln3) (fun e he => by obtain rfl := List.mem_singleton.1 he; show 0 * 8 ≤ 140737488351232; decide) (by show 1 + 2 ≤ 900000; decide) (Nat.le_refl _)
  refine h.mono ?_
  rintro e w' ⟨B, cb, rs, S1, S2, rfl, hd, HS⟩
  rw [exMerge1]
  exact ⟨⟨B, rs.length, cb, rfl⟩, HS.below⟩
theorem sameRecs2 (A A' : Option Addr) (c c' : Nat) (l l' : List Rc) (w : World) {M M' : Nat} (hr' : Rd Rc.enc 21 w A' M' l') (hr : Rd Rc.enc 21 w A M l) (he' : ∀ e ∈ l', e.x.ok w) (he : ∀ e ∈ l, e.x.ok w) (hd : l'.map Rc.data = l.map Rc.data) :
    Calls Try.prog 31 #[.slice A' M' c', .slice A M c] w (fun e w' => e = .returned (.bool true) ∧ Below w.heap.size w w') := by
  have h1 := hr.len.1
  have h2 := hr'.len.1
  have h3 := congrArg List.length hd
  rw [List.length_map, List.length_map] at h3
  obtain rfl : M' = M := by omega
  exact sameRecs_any A A' c c' l l' w hr' hr he' he hd
set_option maxHeartbeats 12800000 in
set_option maxRecDepth 100000 in
theorem lawMerge_any (d : Hrd) (ix t commit : Int) (A : Option Addr) (N c : Nat) (l : List Ent) (w : World) (hk : d.ok w) (hz : d.szd) (hix : ln ix) (ht : ln t) (hcm : ln commit) (hr : Rd Ent.enc 9 w A N l) (he : ∀ e ∈ l, e.ok w) (hes : ∀ e ∈ l, e.nodes.length * 8 ≤ 140737488351232) (hN : N + d.log.length ≤ 400000) (hNc : N ≤ c) :
    Calls Try.prog 8 #[.agg #[.int .u64 d.boot, .int .u64 d.term, .int .i64 d.vote, .int .u64 d.s.si, .int .u64 d.s.st, .slice d.s.nA d.s.nodes.length d.s.nc, .int .i64 d.s.lim, .int .u64 d.s.nxt, .slice d.s.hA d.s.held.length d.s.hc, .slice d.s.lA d.s.last.length d.s.lc, .slice d.gA d.log.length d.gc], .agg #[.int .u64 ix, .int .u64 t, .int .u64 commit, .slice A N c]] w (fun e w' => e = .returned (.bool true) ∧ Below w.heap.size w w') := by
  obtain rfl := hr.len.1
  have HK := Aside0.mk hk
  have HZ := Aside0.mk hz
  have HR := Aside0.mk hr
  have HEN := Aside0.mk he
  have HES := Aside0.mk hes
  have HN9 := Aside0.mk hN
  have HL1 := Aside0.mk hix
  have HL2 := Aside0.mk ht
  have HL3 := Aside0.mk hcm
  have HNC := Aside0.mk hNc
  have hl9 : l.length * 88 ≤ 140737488351232 := by omega
  have HL9 := Aside0.mk hl9
  obtain ⟨r, R, hm⟩ : ∃ r R, mergeG d ix t commit l = (r, R) := ⟨_, _, rfl⟩
  have HM := Aside0.mk hm
  have HRM := Aside0.mk (fun w1 (h1 : d.ok w1) (h2 : Rd Ent.enc 9 w1 A l.length l) (h3 : ∀ e ∈ l, e.ok w1) => by
    have := refMerge_any d ix t commit A l.length c l w1 h1 hz hix ht hcm h2 h3 hes (by omega) hNc
    rw [hm] at this
    exact this)
  clear hk hz hr he hes hN hix ht hcm hNc hl9 hm
  have HS := Aside0.mk (SH.start w)
  go_enter Try.func8, Try.ntmps8
  go_upto_region 3 with (first | (go_at_call 18; (with_reducible refine (cpHardC_any d _ (HK.out.sh HS.out) HZ.out).mono ?_); rintro e w2 ⟨d1, S1, S2, S3, S4, S5, rfl, hsm, hhc, hgc, HS1⟩; have HSM := Aside0.mk hsm; have HHC := Aside0.mk hhc; clear hsm hhc hgc; unfold hrdI at HS1; have HS2 := HS.out.call HS1; clear HS HS1; simp only [aC, aE] at HS2; have HS := Aside0.mk HS2; clear HS2) | (go_at_call 28; (with_reducible refine (cpEnts_any A c l _ (HR.out.sh HS.out) (fun e he => (HEN.out e he).sh HS.out) HL9.out HES.out).mono ?_); rintro e w2 ⟨A4, c4, l1, T1, T2, rfl, hld, HS1⟩; have HLD := Aside0.mk hld; clear hld; have HS2 := HS.out.call HS1; clear HS HS1; simp only [aC, aE] at HS2; have HS := Aside0.mk HS2; clear HS2) | ((fail_if_success (have _ := bh)); ((with_reducible refine gB rfl ?_); refine bx HS.out rfl rfl ?_; (first | refine bv (v := .agg (List.toArray _)) rfl ?_ | refine bv (v := .int _ _) rfl ?_ | refine bv (v := .slice _ _ _) rfl ?_ | refine bv (v := .bool _) rfl ?_ | refine bv (v := .pointer _) rfl ?_); clear HS; intro bh w1 hbh HS1; (simp only [Ent.enc, Led.Held.enc, Led.Last.enc, Rc.enc, segOf, aL, aC, aE] at HS1); have HS := Aside0.mk HS1; clear HS1; try simp only [aP, aN, aT, aZ, aS])) | ((fail_if_success (have _ := bw)); ((with_reducible refine gB rfl ?_); refine bx HS.out rfl rfl ?_; (first | refine bv (v := .agg (List.toArray _)) rfl ?_ | refine bv (v := .int _ _) rfl ?_ | refine bv (v := .slice _ _ _) rfl ?_ | refine bv (v := .bool _) rfl ?_ | refine bv (v := .pointer _) rfl ?_); clear HS; intro bw w1 hbw HS1; (simp only [Ent.enc, Led.Held.enc, Led.Last.enc, Rc.enc, segOf, aL, aC, aE] at HS1); have HS := Aside0.mk HS1; clear HS1; try simp only [aP, aN, aT, aZ, aS])) | ((fail_if_success (have _ := b5)); ((with_reducible refine gA rfl ?_); refine sh_alloc HS.out rfl rfl (zeT _ (by decide)) ?_; clear HS; intro b5 w1 hb5 HS1; (simp only [Ent.enc, Led.Held.enc, Led.Last.enc, Rc.enc, zeF, segOf, aL, aC, aE] at HS1); have HS := Aside0.mk HS1; clear HS1; try simp only [aP, aN, aT, aZ, aS])) | ((first | ((first | ((with_reducible refine gA rfl ?_); refine sh_alloc HS.out rfl rfl (zeT _ (by decide)) ?_) | ((with_reducible refine gB rfl ?_); refine bx HS.out rfl rfl ?_; first | refine bv (v := .agg (List.toArray _)) rfl ?_ | refine bv (v := .int _ _) rfl ?_ | refine bv (v := .slice _ _ _) rfl ?_ | refine bv (v := .bool _) rfl ?_ | refine bv (v := .pointer _) rfl ?_) | ((with_reducible refine gL rfl ?_); refine sh_lit HS.out rfl rfl (by go_simp; exact ⟨⟨rfl, rfl⟩, rfl⟩) ?_)); clear HS; intro g w1 hg HS1; (simp only [Ent.enc, Led.Held.enc, Led.Last.enc, Rc.enc, zeF, segOf, aL, aC, aE] at HS1); have HS := Aside0.mk HS1; clear HS1) | ((with_reducible refine gLd rfl ?_); refine ld2 HS.out rfl rfl rfl (by repeat (first | exact AtI.here | apply AtI.there)) ?_; (first | refine LdK.one ((agT _ (by decide)).trans rfl) rfl ?_ | (refine LdK.agg ((agT _ (by decide)).trans rfl) (szT _ (by decide)) (lb rfl) ?_; try simp only [szL, aP, aN, aT, aZ, aS, aD, aF, aJ, aK, aM, aO]))) | ((with_reducible refine gSt rfl ?_); refine st2 HS.out rfl rfl rfl rfl (by repeat (first | exact AtI.here | apply AtI.there)) ?_; (first | refine sv (u := .agg (List.toArray _)) rfl ?_ | refine sv (u := .int _ _) rfl ?_ | refine sv (u := .slice _ _ _) rfl ?_ | refine sv (u := .bool _) rfl ?_ | refine sv (u := .pointer _) rfl ?_); refine sw (szT _ (by decide)) rfl (lb rfl) ?_; clear HS; intro w1 HS1; (simp only [Ent.enc, Led.Held.enc, Led.Last.enc, Rc.enc, segOf, aL, aZ, aS, putSeg] at HS1); have HS := Aside0.mk HS1; clear HS1)); try simp only [aP, aN, aT, aZ, aS]))
  obtain ⟨R1, hm1, hR1⟩ : ∃ R1, mergeG d1 ix t commit l1 = (r, R1) ∧ R1.map Rc.data = R.map Rc.data := by
    have h9 := mergeG_data (ix := ix) (t := t) (commit := commit) HSM.out HLD.out
    rw [HM.out] at h9
    exact ⟨(mergeG d1 ix t commit l1).2, Prod.ext h9.1 rfl, h9.2⟩
  have HR1 := Aside0.mk hR1
  have hc4 : l.length ≤ c4 := by
    have h9 := (row_hi (hl := Ent.len) (h1 := Ent.one) HS.out 8 rfl).2
    exact h9
  have HMA := Aside0.mk (fun w1 (h1 : d1.ok w1) (h2 : Rd Ent.enc 9 w1 A4 l.length l1) (h3 : ∀ e ∈ l1, e.ok w1) => by
    have := merge_any d1 ix t commit A4 l.length c4 l1 w1 h1 (same_szd HSM.out HZ.out) HL1.out HL2.out HL3.out h2 h3 (fun e he => by
      obtain ⟨e0, h0, h9⟩ := same_mem HLD.out he
      have h8 := HES.out e0 h0
      have h7 : e.nodes = e0.nodes := by have := congrArg Ent.nodes h9; exact this
      rw [h7]; exact h8) (by have h9 := HN9.out; have h8 := same_len HSM.out; omega) hc4
    rw [hm1] at this
    exact this)
  clear hm1 hR1 hc4
  have fr : (r == r) = true := beq_self_eq_true _
  go_wp2_with (first | (go_at_call 29; (fail_if_success (have _ := HFULL1)); have HW8 := (show d1.ok _ from d1ok (A := d1.gA) (c := d1.gc) HSM.out HK.out HHC.out (HS.out.at 2 rfl).1 (HS.out.at 3 rfl).1 (HS.out.at 4 rfl).1 (HS.out.at 5 rfl).1 (fun e he => (HS.out.at 6 rfl e he).1)); have HW9 := row_rds (hl := Ent.len) (h1 := Ent.one) 8 rfl _ HS.out; have HW7 := fun e he => (HS.out.at 9 rfl e he).1; (go_at_call 29; (with_reducible refine (HMA.out _ HW8 HW9 HW7).mono ?_); rintro e w2 ⟨B0, cb0, rs, U1, U2, rfl, hfull, HS1⟩; have HFULL1 := Aside0.mk hfull; clear hfull HW8 HW9 HW7; have HS2 := HS.out.call HS1; clear HS HS1; simp only [aC, aE] at HS2; have HS := Aside0.mk HS2; clear HS2)) | (go_at_call 30; (with_reducible refine (HRM.out _ (HK.out.sh HS.out) (HR.out.sh HS.out) (fun e he => (HEN.out e he).sh HS.out)).mono ?_); rintro e w2 ⟨B1, cb1, rs1, U3, U4, rfl, hfull, HS1⟩; have HFULL2 := Aside0.mk hfull; clear hfull; have HS2 := HS.out.call HS1; clear HS HS1; simp only [aC, aE] at HS2; have HS := Aside0.mk HS2; clear HS2) | (go_at_call 14; (with_reducible refine (exampleB _).mono ?_); rintro e w2 ⟨gn, gl, t1, t2, rfl, HS1⟩;  have HS2 := HS.out.call HS1; clear HS HS1; simp only [aC, aE] at HS2; have HS := Aside0.mk HS2; clear HS2) | (go_at_call 29; have HW8 := exD_ok (HS.out.blk 14 rfl) (HS.out.blk 15 rfl); have HW9 := Rd.one Ent.len (exE 3) (HS.out.blk 16 rfl); (go_at_call 29; (with_reducible refine (exMerge gn gl _ _ HW8 HW9).mono ?_); rintro e w2 ⟨⟨B, n9, cb, rfl⟩, hb⟩;  have HS1 := HS.out.quiet hb; clear HS hb; have HS := Aside0.mk HS1; clear HS1); clear HW8 HW9) | (go_at_call 31; have HW1 := row_rds (hl := Rc.len) (h1 := Rc.one) 10 rfl _ HS.out; have HW2 := row_rds (hl := Rc.len) (h1 := Rc.one) 12 rfl _ HS.out; have HW3 : ∀ e ∈ rs, e.x.ok _ := fun e he => (HS.out.at 11 rfl e.x (List.mem_map.2 ⟨e, he, rfl⟩)).1; have HW4 : ∀ e ∈ rs1, e.x.ok _ := fun e he => (HS.out.at 13 rfl e.x (List.mem_map.2 ⟨e, he, rfl⟩)).1; have HW5 := HFULL1.out.trans (HR1.out.trans HFULL2.out.symm); (go_at_call 31; (with_reducible refine (sameRecs2 B1 B0 cb1 cb0 rs1 rs _ HW1 HW2 HW3 HW4 HW5).mono ?_); rintro e w2 ⟨rfl, hb⟩;  have HS1 := HS.out.quiet hb; clear HS hb; have HS := Aside0.mk HS1; clear HS1); clear HW1 HW2 HW3 HW4 HW5) | (go_at_call 22; have HW8 := (show d1.ok _ from d1ok (A := d1.gA) (c := d1.gc) HSM.out HK.out HHC.out (HS.out.at 2 rfl).1 (HS.out.at 3 rfl).1 (HS.out.at 4 rfl).1 (HS.out.at 5 rfl).1 (fun e he => (HS.out.at 6 rfl e he).1)); (go_at_call 22; (with_reducible refine (sameHard_any d d1 _ HSM.out (HK.out.sh HS.out) HW8).mono ?_); rintro e w2 ⟨rfl, hb⟩;  have HS1 := HS.out.quiet hb; clear HS hb; have HS := Aside0.mk HS1; clear HS1); clear HW8) | (go_at_call 26; have HW9 := row_rds (hl := Ent.len) (h1 := Ent.one) 8 rfl _ HS.out; have HW7 := fun e he => (HS.out.at 9 rfl e he).1; (go_at_call 26; (with_reducible refine (sameEnts_any A A4 c c4 l l1 _ HW9 (HR.out.sh HS.out) HW7 (fun e he => (HEN.out e he).sh HS.out) HLD.out).mono ?_); rintro e w2 ⟨rfl, hb⟩;  have HS1 := HS.out.quiet hb; clear HS hb; have HS := Aside0.mk HS1; clear HS1); clear HW9 HW7) | ((first | ((first | ((with_reducible refine gA rfl ?_); refine sh_alloc HS.out rfl rfl (zeT _ (by decide)) ?_) | ((with_reducible refine gB rfl ?_); refine bx HS.out rfl rfl ?_; first | refine bv (v := .agg (List.toArray _)) rfl ?_ | refine bv (v := .int _ _) rfl ?_ | refine bv (v := .slice _ _ _) rfl ?_ | refine bv (v := .bool _) rfl ?_ | refine bv (v := .pointer _) rfl ?_) | ((with_reducible refine gL rfl ?_); refine sh_lit HS.out rfl rfl (by go_simp; exact ⟨⟨rfl, rfl⟩, rfl⟩) ?_)); clear HS; intro g w1 hg HS1; (simp only [Ent.enc, Led.Held.enc, Led.Last.enc, Rc.enc, zeF, segOf, aL, aC, aE] at HS1); have HS := Aside0.mk HS1; clear HS1) | ((with_reducible refine gLd rfl ?_); refine ld2 HS.out rfl rfl rfl (by repeat (first | exact AtI.here | apply AtI.there)) ?_; (first | refine LdK.one ((agT _ (by decide)).trans rfl) rfl ?_ | (refine LdK.agg ((agT _ (by decide)).trans rfl) (szT _ (by decide)) (lb rfl) ?_; try simp only [szL, aP, aN, aT, aZ, aS, aD, aF, aJ, aK, aM, aO]))) | ((with_reducible refine gSt rfl ?_); refine st2 HS.out rfl rfl rfl rfl (by repeat (first | exact AtI.here | apply AtI.there)) ?_; (first | refine sv (u := .agg (List.toArray _)) rfl ?_ | refine sv (u := .int _ _) rfl ?_ | refine sv (u := .slice _ _ _) rfl ?_ | refine sv (u := .bool _) rfl ?_ | refine sv (u := .pointer _) rfl ?_); refine sw (szT _ (by decide)) rfl (lb rfl) ?_; clear HS; intro w1 HS1; (simp only [Ent.enc, Led.Held.enc, Led.Last.enc, Rc.enc, segOf, aL, aZ, aS, putSeg] at HS1); have HS := Aside0.mk HS1; clear HS1)); try simp only [aP, aN, aT, aZ, aS]))
  go_ret
  exact ⟨rfl, HS.out.below⟩
end Go.Proofs.Ytekjihmepdhmeaa.Rlo

