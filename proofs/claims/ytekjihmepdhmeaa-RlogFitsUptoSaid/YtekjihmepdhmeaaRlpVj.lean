import Derived.Test.YtekjihmepdhmeaaRlpUj
import Derived.Test.YtekjihmepdhmeaaRlo9j
import Derived.Deep.DeepCutAuto
/- Lemmas towards the law: what of the text RlpV it needs. -/
namespace Go.Proofs.Ytekjihmepdhmeaa.Rlo
open Go.RowKit Go.Proofs.YtekjihmepdhmeaaW.PrintWords Go.Proofs.Ytekjihmepdhmeaa.Sl
set_option linter.unusedVariables false
set_option linter.unusedSimpArgs false
theorem merge_quiet {d : Hrd} {ix t commit r : Int} {A : Option Addr} {c : Nat} {l : List Ent} {w : World} (hm : mergeG d ix t commit l = (r, [])) (hk : d.ok w) (hz : d.szd) (hix : ln ix) (ht : ln t) (hcm : ln commit) (hr : Rd Ent.enc 9 w A l.length l) (he : ∀ e ∈ l, e.ok w) (hes : ∀ e ∈ l, e.nodes.length * 8 ≤ 140737488351232) (hN : l.length + d.log.length ≤ 900000) (hNc : l.length ≤ c) :
    Calls Try.prog 29 #[.agg #[.int .u64 d.boot, .int .u64 d.term, .int .i64 d.vote, .int .u64 d.s.si, .int .u64 d.s.st, .slice d.s.nA d.s.nodes.length d.s.nc, .int .i64 d.s.lim, .int .u64 d.s.nxt, .slice d.s.hA d.s.held.length d.s.hc, .slice d.s.lA d.s.last.length d.s.lc, .slice d.gA d.log.length d.gc], .int .u64 ix, .int .u64 t, .int .u64 commit, .slice A l.length c] w (fun e w' => (∃ (B : Option Addr) (cb : Nat), e = .returned (.tuple #[.int .i64 r, .slice B 0 cb])) ∧ Below w.heap.size w w') := by
  have h := merge_any d ix t commit A l.length c l w hk hz hix ht hcm hr he hes hN hNc
  rw [hm] at h
  refine h.mono ?_
  rintro e w' ⟨B, cb, rs, S1, S2, rfl, hd, HS⟩
  obtain rfl : rs = [] := by simpa using hd
  exact ⟨⟨B, cb, rfl⟩, HS.below⟩
set_option maxHeartbeats 12800000 in
set_option maxRecDepth 100000 in
theorem lawFits_any (d : Hrd) (ix t commit : Int) (A : Option Addr) (N c : Nat) (l : List Ent) (w : World) (hk : d.ok w) (hz : d.szd) (hix : ln ix) (ht : ln t) (hcm : ln commit) (hr : Rd Ent.enc 9 w A N l) (he : ∀ e ∈ l, e.ok w) (hes : ∀ e ∈ l, e.nodes.length * 8 ≤ 140737488351232) (hN : N + d.log.length ≤ 400000) (hNc : N ≤ c) :
    Calls Try.prog 9 #[.agg #[.int .u64 d.boot, .int .u64 d.term, .int .i64 d.vote, .int .u64 d.s.si, .int .u64 d.s.st, .slice d.s.nA d.s.nodes.length d.s.nc, .int .i64 d.s.lim, .int .u64 d.s.nxt, .slice d.s.hA d.s.held.length d.s.hc, .slice d.s.lA d.s.last.length d.s.lc, .slice d.gA d.log.length d.gc], .agg #[.int .u64 ix, .int .u64 t, .int .u64 commit, .slice A N c]] w (fun e w' => e = .returned (.bool true) ∧ Below w.heap.size w w') := by
  obtain rfl := hr.len.1
  have HK := Aside0.mk hk
  have HZ := Aside0.mk hz
  have HR := Aside0.mk hr
  have HEN := Aside0.mk he
  have HES := Aside0.mk hes
  have HN9 := Aside0.mk hN
  have hl9 : l.length ≤ 400000 := by omega
  have hd9 : d.log.length ≤ 400000 := by omega
  obtain ⟨r, R, hm⟩ : ∃ r R, mergeG d ix t commit l = (r, R) := ⟨_, _, rfl⟩
  have HCK := Aside0.mk (fun w1 (h : d.ok w1) => hardCk_any d w1 h)
  have HS := Aside0.mk (SH.start w)
  by_cases hc : hardOk d = false ∨ r ≠ 1
  · obtain rfl := merge_not hm hc
    have HMQ := Aside0.mk (fun w1 (h1 : d.ok w1) (h2 : Rd Ent.enc 9 w1 A l.length l) (h3 : ∀ e ∈ l, e.ok w1) => merge_quiet (c := c) hm h1 hz hix ht hcm h2 h3 hes (by omega) hNc)
    cases hg : hardOk d with
    | false =>
      rw [hg] at HCK
      clear hN hk hz hr he hes hc hm hg
      go_enter Try.func9, Try.ntmps9
      go_wp2_with (first | (go_at_call 17; (with_reducible refine (live_any _).mono ?_); rintro e w2 ⟨rfl, hb⟩;  have HS1 := HS.out.quiet hb; clear HS hb; have HS := Aside0.mk HS1; clear HS1) | (go_at_call 29; (with_reducible refine (HMQ.out _ (HK.out.sh HS.out) (HR.out.sh HS.out) (fun e he => (HEN.out e he).sh HS.out)).mono ?_); rintro e w2 ⟨⟨B, cb, rfl⟩, hb⟩;  have HS1 := HS.out.quiet hb; clear HS hb; have HS := Aside0.mk HS1; clear HS1) | (go_at_call 32; (with_reducible refine (HCK.out _ (HK.out.sh HS.out)).mono ?_); rintro e w2 ⟨rfl, hb⟩;  have HS1 := HS.out.quiet hb; clear HS hb; have HS := Aside0.mk HS1; clear HS1) | ((first | ((first | ((with_reducible refine gA rfl ?_); refine sh_alloc HS.out rfl rfl (zeT _ (by decide)) ?_) | ((with_reducible refine gB rfl ?_); refine bx HS.out rfl rfl ?_; first | refine bv (v := .agg (List.toArray _)) rfl ?_ | refine bv (v := .int _ _) rfl ?_ | refine bv (v := .slice _ _ _) rfl ?_ | refine bv (v := .bool _) rfl ?_ | refine bv (v := .pointer _) rfl ?_) | ((with_reducible refine gL rfl ?_); refine sh_lit HS.out rfl rfl (by go_simp; exact ⟨⟨rfl, rfl⟩, rfl⟩) ?_)); clear HS; intro g w1 hg HS1; (simp only [Ent.enc, Led.Held.enc, Led.Last.enc, Rc.enc, zeF, segOf, aL, aC, aE] at HS1); have HS := Aside0.mk HS1; clear HS1) | ((with_reducible refine gLd rfl ?_); refine ld2 HS.out rfl rfl rfl (by repeat (first | exact AtI.here | apply AtI.there)) ?_; (first | refine LdK.one ((agT _ (by decide)).trans rfl) rfl ?_ | (refine LdK.agg ((agT _ (by decide)).trans rfl) (szT _ (by decide)) (lb rfl) ?_; try simp only [szL, aP, aN, aT, aZ, aS, aD, aF, aJ, aK, aM, aO]))) | ((with_reducible refine gSt rfl ?_); refine st2 HS.out rfl rfl rfl rfl (by repeat (first | exact AtI.here | apply AtI.there)) ?_; (first | refine sv (u := .agg (List.toArray _)) rfl ?_ | refine sv (u := .int _ _) rfl ?_ | refine sv (u := .slice _ _ _) rfl ?_ | refine sv (u := .bool _) rfl ?_ | refine sv (u := .pointer _) rfl ?_); refine sw (szT _ (by decide)) rfl (lb rfl) ?_; clear HS; intro w1 HS1; (simp only [Ent.enc, Led.Held.enc, Led.Last.enc, Rc.enc, segOf, aL, aZ, aS, putSeg] at HS1); have HS := Aside0.mk HS1; clear HS1)); try simp only [aP, aN, aT, aZ, aS]))
      go_ret
      exact ⟨rfl, HS.out.below⟩
    | true =>
      rw [hg] at HCK
      have hr1 : r ≠ 1 := by
        rcases hc with h | h
        · rw [hg] at h; cases h
        · exact h
      have f1 : (r != 1) = true := by rw [bne_iff_ne]; exact hr1
      clear hN hk hz hr he hes hc hm hg hr1
      go_enter Try.func9, Try.ntmps9
      go_wp2_with (first | (go_at_call 17; (with_reducible refine (live_any _).mono ?_); rintro e w2 ⟨rfl, hb⟩;  have HS1 := HS.out.quiet hb; clear HS hb; have HS := Aside0.mk HS1; clear HS1) | (go_at_call 29; (with_reducible refine (HMQ.out _ (HK.out.sh HS.out) (HR.out.sh HS.out) (fun e he => (HEN.out e he).sh HS.out)).mono ?_); rintro e w2 ⟨⟨B, cb, rfl⟩, hb⟩;  have HS1 := HS.out.quiet hb; clear HS hb; have HS := Aside0.mk HS1; clear HS1) | (go_at_call 32; (with_reducible refine (HCK.out _ (HK.out.sh HS.out)).mono ?_); rintro e w2 ⟨rfl, hb⟩;  have HS1 := HS.out.quiet hb; clear HS hb; have HS := Aside0.mk HS1; clear HS1) | ((first | ((first | ((with_reducible refine gA rfl ?_); refine sh_alloc HS.out rfl rfl (zeT _ (by decide)) ?_) | ((with_reducible refine gB rfl ?_); refine bx HS.out rfl rfl ?_; first | refine bv (v := .agg (List.toArray _)) rfl ?_ | refine bv (v := .int _ _) rfl ?_ | refine bv (v := .slice _ _ _) rfl ?_ | refine bv (v := .bool _) rfl ?_ | refine bv (v := .pointer _) rfl ?_) | ((with_reducible refine gL rfl ?_); refine sh_lit HS.out rfl rfl (by go_simp; exact ⟨⟨rfl, rfl⟩, rfl⟩) ?_)); clear HS; intro g w1 hg HS1; (simp only [Ent.enc, Led.Held.enc, Led.Last.enc, Rc.enc, zeF, segOf, aL, aC, aE] at HS1); have HS := Aside0.mk HS1; clear HS1) | ((with_reducible refine gLd rfl ?_); refine ld2 HS.out rfl rfl rfl (by repeat (first | exact AtI.here | apply AtI.there)) ?_; (first | refine LdK.one ((agT _ (by decide)).trans rfl) rfl ?_ | (refine LdK.agg ((agT _ (by decide)).trans rfl) (szT _ (by decide)) (lb rfl) ?_; try simp only [szL, aP, aN, aT, aZ, aS, aD, aF, aJ, aK, aM, aO]))) | ((with_reducible refine gSt rfl ?_); refine st2 HS.out rfl rfl rfl rfl (by repeat (first | exact AtI.here | apply AtI.there)) ?_; (first | refine sv (u := .agg (List.toArray _)) rfl ?_ | refine sv (u := .int _ _) rfl ?_ | refine sv (u := .slice _ _ _) rfl ?_ | refine sv (u := .bool _) rfl ?_ | refine sv (u := .pointer _) rfl ?_); refine sw (szT _ (by decide)) rfl (lb rfl) ?_; clear HS; intro w1 HS1; (simp only [Ent.enc, Led.Held.enc, Led.Last.enc, Rc.enc, segOf, aL, aZ, aS, putSeg] at HS1); have HS := Aside0.mk HS1; clear HS1)); try simp only [aP, aN, aT, aZ, aS]))
      go_ret
      exact ⟨rfl, HS.out.below⟩
  · have hg : hardOk d = true := by
      cases h : hardOk d
      · exact absurd (.inl h) hc
      · rfl
    obtain rfl : r = 1 := by
      rcases Decidable.em (r = 1) with h | h
      · exact h
      · exact absurd (.inr h) hc
    obtain ⟨hl1, hl2⟩ := hardOk_last hk hg
    have hl3 : d.s.si + d.log.length ≤ 4611686018427387904 := by
      have hh := hg
      unfold hardOk headOk at hh
      simp only [Bool.and_eq_true, decide_eq_true_eq] at hh
      have := hh.1.1.1.1.2
      rwa [hl1] at this
    have h0 := hk.s.si.1
    have hix0 := hix.1
    have hcm0 := hcm.1
    obtain ⟨hch, hRm, hRl, hixl, hRs, hfit⟩ := fitsR hk hg hm
    have hix9 : ix ≤ 4611686018427387904 := by omega
    have HG := Aside0.mk hg
    have HIX := Aside0.mk hix
    have HTT := Aside0.mk ht
    have HCM := Aside0.mk hcm
    have HCH := Aside0.mk hch
    have HRM9 := Aside0.mk hRm
    have HRS := Aside0.mk hRs
    have HFIT := Aside0.mk hfit
    have HMC := Aside0.mk (fun w1 (h1 : d.ok w1) (h2 : Rd Ent.enc 9 w1 A l.length l) (h3 : ∀ e ∈ l, e.ok w1) => by
      have := merge_any d ix t commit A l.length c l w1 h1 hz hix ht hcm h2 h3 hes (by omega) hNc
      rw [hm] at this
      exact this)
    have hRl9 : R.length ≤ 400001 := by omega
    have HRL := Aside0.mk hRl
    have HNC := Aside0.mk hNc
    rw [hg] at HCK
    clear hN hk hz hr he hes hc hm hg hix ht hcm hch hRm hRs hfit hl1 hRl hixl
    go_enter Try.func9, Try.ntmps9
    go_upto_region 6 with (first | (go_at_call 17; (with_reducible refine (live_any _).mono ?_); rintro e w2 ⟨rfl, hb⟩;  have HS1 := HS.out.quiet hb; clear HS hb; have HS := Aside0.mk HS1; clear HS1) | (go_at_call 29; (with_reducible refine (HMC.out _ (HK.out.sh HS.out) (HR.out.sh HS.out) (fun e he => (HEN.out e he).sh HS.out)).mono ?_); rintro e w2 ⟨B0, cb0, rs, S1, S2, rfl, hfull, HS1⟩; have HFULL := Aside0.mk hfull; clear hfull; have HS2 := HS.out.call HS1; clear HS HS1; simp only [aC, aE] at HS2; have HS := Aside0.mk HS2; clear HS2) | (go_at_call 32; (with_reducible refine (HCK.out _ (HK.out.sh HS.out)).mono ?_); rintro e w2 ⟨rfl, hb⟩;  have HS1 := HS.out.quiet hb; clear HS hb; have HS := Aside0.mk HS1; clear HS1) | ((fail_if_success (have _ := bh)); ((with_reducible refine gB rfl ?_); refine bx HS.out rfl rfl ?_; (first | refine bv (v := .agg (List.toArray _)) rfl ?_ | refine bv (v := .int _ _) rfl ?_ | refine bv (v := .slice _ _ _) rfl ?_ | refine bv (v := .bool _) rfl ?_ | refine bv (v := .pointer _) rfl ?_); clear HS; intro bh w1 hbh HS1; (simp only [Ent.enc, Led.Held.enc, Led.Last.enc, Rc.enc, segOf, aL, aC, aE] at HS1); have HS := Aside0.mk HS1; clear HS1; try simp only [aP, aN, aT, aZ, aS])) | ((fail_if_success (have _ := bw)); ((with_reducible refine gB rfl ?_); refine bx HS.out rfl rfl ?_; (first | refine bv (v := .agg (List.toArray _)) rfl ?_ | refine bv (v := .int _ _) rfl ?_ | refine bv (v := .slice _ _ _) rfl ?_ | refine bv (v := .bool _) rfl ?_ | refine bv (v := .pointer _) rfl ?_); clear HS; intro bw w1 hbw HS1; (simp only [Ent.enc, Led.Held.enc, Led.Last.enc, Rc.enc, segOf, aL, aC, aE] at HS1); have HS := Aside0.mk HS1; clear HS1; try simp only [aP, aN, aT, aZ, aS])) | ((fail_if_success (have _ := b8)); ((with_reducible refine gA rfl ?_); refine sh_alloc HS.out rfl rfl (zeT _ (by decide)) ?_; clear HS; intro b8 w1 hb8 HS1; (simp only [Ent.enc, Led.Held.enc, Led.Last.enc, Rc.enc, zeF, segOf, aL, aC, aE] at HS1); have HS := Aside0.mk HS1; clear HS1; try simp only [aP, aN, aT, aZ, aS])) | ((first | ((first | ((with_reducible refine gA rfl ?_); refine sh_alloc HS.out rfl rfl (zeT _ (by decide)) ?_) | ((with_reducible refine gB rfl ?_); refine bx HS.out rfl rfl ?_; first | refine bv (v := .agg (List.toArray _)) rfl ?_ | refine bv (v := .int _ _) rfl ?_ | refine bv (v := .slice _ _ _) rfl ?_ | refine bv (v := .bool _) rfl ?_ | refine bv (v := .pointer _) rfl ?_) | ((with_reducible refine gL rfl ?_); refine sh_lit HS.out rfl rfl (by go_simp; exact ⟨⟨rfl, rfl⟩, rfl⟩) ?_)); clear HS; intro g w1 hg HS1; (simp only [Ent.enc, Led.Held.enc, Led.Last.enc, Rc.enc, zeF, segOf, aL, aC, aE] at HS1); have HS := Aside0.mk HS1; clear HS1) | ((with_reducible refine gLd rfl ?_); refine ld2 HS.out rfl rfl rfl (by repeat (first | exact AtI.here | apply AtI.there)) ?_; (first | refine LdK.one ((agT _ (by decide)).trans rfl) rfl ?_ | (refine LdK.agg ((agT _ (by decide)).trans rfl) (szT _ (by decide)) (lb rfl) ?_; try simp only [szL, aP, aN, aT, aZ, aS, aD, aF, aJ, aK, aM, aO]))) | ((with_reducible refine gSt rfl ?_); refine st2 HS.out rfl rfl rfl rfl (by repeat (first | exact AtI.here | apply AtI.there)) ?_; (first | refine sv (u := .agg (List.toArray _)) rfl ?_ | refine sv (u := .int _ _) rfl ?_ | refine sv (u := .slice _ _ _) rfl ?_ | refine sv (u := .bool _) rfl ?_ | refine sv (u := .pointer _) rfl ?_); refine sw (szT _ (by decide)) rfl (lb rfl) ?_; clear HS; intro w1 HS1; (simp only [Ent.enc, Led.Held.enc, Led.Last.enc, Rc.enc, segOf, aL, aZ, aS, putSeg] at HS1); have HS := Aside0.mk HS1; clear HS1)); try simp only [aP, aN, aT, aZ, aS]))
    have hlenR : rs.length = R.length := by
      have := congrArg List.length HFULL.out
      rwa [List.length_map, List.length_map] at this
    have HLR := Aside0.mk hlenR
    have hrl9 : rs.length ≤ 400001 := by omega
    clear hlenR
    have HSA := (HS.out.pick [4, 2, 3, 0, 1] rfl (by decide)).push (Below.refl _ _) (i := noI) trivial (fun b hb => hb.elim)
    have HSB := SH.pick HSA [0, 1, 2, 5, 3, 4] rfl (by decide)
    clear HS HSA
    have HS := Aside0.mk HSB
    clear HSB
    go_wp2_with (first | ((first | ((first | ((with_reducible refine gA rfl ?_); refine sh_alloc HS.out rfl rfl (zeT _ (by decide)) ?_) | ((with_reducible refine gB rfl ?_); refine bx HS.out rfl rfl ?_; first | refine bv (v := .agg (List.toArray _)) rfl ?_ | refine bv (v := .int _ _) rfl ?_ | refine bv (v := .slice _ _ _) rfl ?_ | refine bv (v := .bool _) rfl ?_ | refine bv (v := .pointer _) rfl ?_) | ((with_reducible refine gL rfl ?_); refine sh_lit HS.out rfl rfl (by go_simp; exact ⟨⟨rfl, rfl⟩, rfl⟩) ?_)); clear HS; intro g w1 hg HS1; (simp only [Ent.enc, Led.Held.enc, Led.Last.enc, Rc.enc, zeF, segOf, aL, aC, aE] at HS1); have HS := Aside0.mk HS1; clear HS1) | ((with_reducible refine gLd rfl ?_); refine ld2 HS.out rfl rfl rfl (by repeat (first | exact AtI.here | apply AtI.there)) ?_; (first | refine LdK.one ((agT _ (by decide)).trans rfl) rfl ?_ | (refine LdK.agg ((agT _ (by decide)).trans rfl) (szT _ (by decide)) (lb rfl) ?_; try simp only [szL, aP, aN, aT, aZ, aS, aD, aF, aJ, aK, aM, aO]))) | ((with_reducible refine gSt rfl ?_); refine st2 HS.out rfl rfl rfl rfl (by repeat (first | exact AtI.here | apply AtI.there)) ?_; (first | refine sv (u := .agg (List.toArray _)) rfl ?_ | refine sv (u := .int _ _) rfl ?_ | refine sv (u := .slice _ _ _) rfl ?_ | refine sv (u := .bool _) rfl ?_ | refine sv (u := .pointer _) rfl ?_); refine sw (szT _ (by decide)) rfl (lb rfl) ?_; clear HS; intro w1 HS1; (simp only [Ent.enc, Led.Held.enc, Led.Last.enc, Rc.enc, segOf, aL, aZ, aS, putSeg] at HS1); have HS := Aside0.mk HS1; clear HS1)); try simp only [aP, aN, aT, aZ, aS]))
    go_loopw [55] (fun v55 wr => ∃ (j : Nat) (dx dy : Hrd) (I : HP), j ≤ rs.length ∧ v55 = .int .i64 j ∧ Aside0 (TryOk d dx dy l R j w I) ∧ Aside0 (SH w wr [blk b8 [.int .u64 dx.boot, .int .u64 dx.term, .int .i64 dx.vote, .int .u64 dx.s.si, .int .u64 dx.s.st, .slice dx.s.nA dx.s.nodes.length dx.s.nc, .int .i64 dx.s.lim, .int .u64 dx.s.nxt, .slice dx.s.hA dx.s.held.length dx.s.hc, .slice dx.s.lA dx.s.last.length dx.s.lc, .slice dx.gA dx.log.length dx.gc] 32, row recK 65 (.slice B0 rs.length cb0) rs S1, nodesI (rs.map Rc.x) S2, I, blk bh [.int .u64 d.boot, .int .u64 d.term, .int .i64 d.vote, .int .u64 d.s.si, .int .u64 d.s.st, .slice d.s.nA d.s.nodes.length d.s.nc, .int .i64 d.s.lim, .int .u64 d.s.nxt, .slice d.s.hA d.s.held.length d.s.hc, .slice d.s.lA d.s.last.length d.s.lc, .slice d.gA d.log.length d.gc] 32, blk bw [.int .u64 ix, .int .u64 t, .int .u64 commit, .slice A l.length c] 55])) (fun v55 _ => rs.length - (intOf v55).toNat)
    case atStart => exact ⟨0, d, d, noI, Nat.zero_le _, rfl, ⟨⟨same_refl d, ⟨rfl, HG.out, fun e he => .inl he⟩, by rw [List.drop_zero]; exact HCH.out, rfl, by omega, fun wz isz hs _ => HK.out.sh hs⟩⟩, HS⟩
    case round =>
      clear HS
      obtain ⟨j, dx, dy, I, hj, rfl, HTY, HS⟩ := hrel
      by_cases hlt : j < rs.length
      · obtain ⟨r, hr⟩ : ∃ r, rs.getD j default = r := ⟨_, rfl⟩
        have HRD := Aside0.mk (row_rds (hl := Rc.len) (h1 := Rc.one) 1 rfl _ HS.out)
        obtain ⟨adr, had⟩ := HRD.out.addr (by omega)
        subst had
        have hjR : j < R.length := by rw [← HLR.out]; exact hlt
        obtain ⟨q, hq⟩ : ∃ q, R.getD j default = q := ⟨_, rfl⟩
        have hrm : r.x ∈ rs.map Rc.x := List.mem_map.2 ⟨r, getD_in hlt hr, rfl⟩
        have hqm : q ∈ R := getD_in hjR hq
        have hrq : r.data = q.data := by
          have h1 := congrArg (fun l => l[j]?) HFULL.out
          simp only [List.getElem?_map] at h1
          rw [List.getD_eq_getElem?_getD, List.getElem?_eq_getElem hlt, Option.getD_some] at hr
          rw [List.getD_eq_getElem?_getD, List.getElem?_eq_getElem hjR, Option.getD_some] at hq
          rw [List.getElem?_eq_getElem hlt, List.getElem?_eq_getElem hjR, hr, hq] at h1
          simpa using h1
        have hdrop : R.drop j = q :: R.drop (j + 1) := drop_consP hjR hq
        have hall := HTY.out.all
        rw [hdrop, doAll] at hall
        have HALL := Aside0.mk hall
        have hch := HTY.out.chain
        rw [hdrop] at hch
        have HCHN := Aside0.mk hch.2
        have HDX := Aside0.mk (fun wz isz hs h3 => HTY.out.mem wz isz hs h3)
        have HKX := Aside0.mk (HDX.out _ _ HS.out rfl)
        have hlx := HTY.out.len
        have hdl : dx.log.length ≤ 999999 := by rw [same_len HTY.out.same]; omega
        have hcase := try_case HTY.out HKX.out (TryOk.szd HTY.out HZ.out HES.out (by omega)) hdl HES.out HRM9.out hdrop hqm hrq
        have HRX := Aside0.mk hr
        have HRM := Aside0.mk hrm
        clear hr hrm hq hqm hrq hdrop hch hall hlx hdl
        rcases hcase with ⟨dyn, L, hst, hD⟩ | ⟨hno, hD⟩
        · have HST := Aside0.mk hst
          have HD := Aside0.mk hD
          clear hst hD
          go_wp2_with (first | ((with_reducible refine gLd rfl ?_); refine rd_load HRD.out rfl rfl (i := j) rfl hlt default Rc.len ((agT _ (by decide)).trans rfl) (szT _ (by decide)) ?_; intro x hx; obtain rfl := HRX.out.symm.trans hx; (try simp only [Ent.enc, Led.Held.enc, Led.Last.enc, Rc.enc, aP, aN, aT, aZ, aS])) | (go_at_call 33; have HW8 := HDX.out _ _ HS.out rfl; have HW9 := (HS.out.at 2 rfl r.x HRM.out).1; (go_at_call 33; (with_reducible refine (HD.out _ HW8 HW9).mono ?_); rintro e w2 ⟨d2, T1, T2, T3, T4, T5, rfl, hb2, ht2, hv2, hs2, hl2', hc2, hg2, HS1⟩; have HD2 := Aside0.mk (And.intro hb2 (And.intro ht2 (And.intro hv2 (And.intro hs2 (And.intro hl2' (And.intro hc2 hg2)))))); clear hb2 ht2 hv2 hs2 hl2' hc2 hg2; unfold hrdI at HS1; clear HW8 HW9; have HS2 := HS.out.call HS1; clear HS HS1; simp only [aC, aE] at HS2; have HS := Aside0.mk HS2; clear HS2)) | ((first | ((first | ((with_reducible refine gA rfl ?_); refine sh_alloc HS.out rfl rfl (zeT _ (by decide)) ?_) | ((with_reducible refine gB rfl ?_); refine bx HS.out rfl rfl ?_; first | refine bv (v := .agg (List.toArray _)) rfl ?_ | refine bv (v := .int _ _) rfl ?_ | refine bv (v := .slice _ _ _) rfl ?_ | refine bv (v := .bool _) rfl ?_ | refine bv (v := .pointer _) rfl ?_) | ((with_reducible refine gL rfl ?_); refine sh_lit HS.out rfl rfl (by go_simp; exact ⟨⟨rfl, rfl⟩, rfl⟩) ?_)); clear HS; intro g w1 hg HS1; (simp only [Ent.enc, Led.Held.enc, Led.Last.enc, Rc.enc, zeF, segOf, aL, aC, aE] at HS1); have HS := Aside0.mk HS1; clear HS1) | ((with_reducible refine gLd rfl ?_); refine ld2 HS.out rfl rfl rfl (by repeat (first | exact AtI.here | apply AtI.there)) ?_; (first | refine LdK.one ((agT _ (by decide)).trans rfl) rfl ?_ | (refine LdK.agg ((agT _ (by decide)).trans rfl) (szT _ (by decide)) (lb rfl) ?_; try simp only [szL, aP, aN, aT, aZ, aS, aD, aF, aJ, aK, aM, aO]))) | ((with_reducible refine gSt rfl ?_); refine st2 HS.out rfl rfl rfl rfl (by repeat (first | exact AtI.here | apply AtI.there)) ?_; (first | refine sv (u := .agg (List.toArray _)) rfl ?_ | refine sv (u := .int _ _) rfl ?_ | refine sv (u := .slice _ _ _) rfl ?_ | refine sv (u := .bool _) rfl ?_ | refine sv (u := .pointer _) rfl ?_); refine sw (szT _ (by decide)) rfl (lb rfl) ?_; clear HS; intro w1 HS1; (simp only [Ent.enc, Led.Held.enc, Led.Last.enc, Rc.enc, segOf, aL, aZ, aS, putSeg] at HS1); have HS := Aside0.mk HS1; clear HS1)); try simp only [aP, aN, aT, aZ, aS]))
          go_roundw
          case rel =>
            obtain ⟨hb2, ht2, hv2, hs2, hl2', hc2, hg2⟩ := HD2.out
            have hsm := HTY.out.same
            have HSP := SH.pack (is := [_, _, _, _, _]) [_, _, _, _, _] (HS.out.pick [0, 1, 2, 4, 5, 7, 8, 9, 10, 11] rfl (by decide))
            refine ⟨j + 1, d2, dyn, allI (hrdI d2 T1 T2 T3 T4 T5), by omega, by go_num, ⟨⟨⟨by rw [hb2, hsm.boot, HST.out.boot], by rw [ht2, hsm.term, HST.out.term], by rw [hv2, hsm.vote, HST.out.vote], ?_, by rw [hl2', HST.out.log]⟩, HST.out.dyok, HCHN.out _ HST.out.doR, by rw [HALL.out, HST.out.doR]; rfl, by have h1 := HST.out.len; have h2 := HTY.out.len; omega, fun wz isz hs h3 => okI (hs.at 3 h3) HKX.out hb2 ht2 hs2 hc2⟩⟩, ⟨HSP.pick [0, 1, 2, 5, 3, 4] rfl (by decide)⟩⟩
            rw [HST.out.s]
            exact ⟨hs2.si.trans hsm.s.si, hs2.st.trans hsm.s.st, hs2.nodes.trans hsm.s.nodes, hs2.lim.trans hsm.s.lim, hs2.nxt.trans hsm.s.nxt, hs2.held.trans hsm.s.held, hs2.last.trans hsm.s.last⟩
          case measure => simp [intOf]; omega
        · exfalso
          obtain ⟨dz, hdz⟩ := HRS.out
          have h1 := HALL.out
          rw [hno, hdz] at h1
          cases h1
      · obtain rfl : j = rs.length := by omega
        have hall := HTY.out.all
        rw [List.drop_of_length_le (by rw [HLR.out]; exact Nat.le_refl _)] at hall
        have HDX := Aside0.mk (fun wz isz hs h3 => HTY.out.mem wz isz hs h3)
        have hkx : dx.ok wr := HDX.out _ _ HS.out rfl
        have hgx : hardOk dx = true := (same_hardOk HTY.out.same).trans HTY.out.dyok.g
        have hly : lastOf dy = dy.s.si + dy.log.length := by
          have := (hardOk_last hkx hgx).1
          unfold lastOf at this ⊢
          rwa [HTY.out.same.s.si, same_len HTY.out.same] at this
        have hfx := (HFIT.out dy HTY.out.dyok.g hly hall).same HTY.out.same
        have HFX := Aside0.mk hfx
        have HZX := Aside0.mk (TryOk.szd HTY.out HZ.out HES.out (by omega))
        have hlx := HTY.out.len
        have hlx2 := same_len HTY.out.same
        have hdl : dx.log.length ≤ 800001 := by omega
        have HMQ := Aside0.mk (fun w1 (h1 : dx.ok w1) (h2 : Rd Ent.enc 9 w1 A l.length l) (h3 : ∀ e ∈ l, e.ok w1) => merge_quiet (c := c) hfx.again h1 HZX.out HIX.out HTT.out HCM.out h2 h3 HES.out (by have h1 := HN9.out; have h2 := HRL.out; have h3 := HLR.out; omega) HNC.out)
        have HTX := Aside0.mk (fun (i : Int) (hi : ln i) w1 (h : dx.ok w1) => by
          have := Term_any dx i w1 h hi
          rw [show termG dx i = termOf dx i by unfold termG; rw [if_pos hgx]] at this
          exact this)
        have HTD := Aside0.mk (fun (i : Int) (hi : ln i) w1 (h : d.ok w1) => by
          have := Term_any d i w1 h hi
          rw [show termG d i = termOf d i by unfold termG; rw [if_pos HG.out]] at this
          exact this)
        have HSX := Aside0.mk (show SH w wr [blk b8 [.int .u64 dx.boot, .int .u64 dx.term, .int .i64 dx.vote, .int .u64 dx.s.si, .int .u64 dx.s.st, .slice dx.s.nA dx.s.nodes.length dx.s.nc, .int .i64 dx.s.lim, .int .u64 dx.s.nxt, .slice dx.s.hA dx.s.held.length dx.s.hc, .slice dx.s.lA dx.s.last.length dx.s.lc, .slice dx.gA dx.log.length dx.gc] 32, blk bh [.int .u64 d.boot, .int .u64 d.term, .int .i64 d.vote, .int .u64 d.s.si, .int .u64 d.s.st, .slice d.s.nA d.s.nodes.length d.s.nc, .int .i64 d.s.lim, .int .u64 d.s.nxt, .slice d.s.hA d.s.held.length d.s.hc, .slice d.s.lA d.s.last.length d.s.lc, .slice d.gA d.log.length d.gc] 32, blk bw [.int .u64 ix, .int .u64 t, .int .u64 commit, .slice A l.length c] 55, I] from HS.out.pick [0, 4, 5, 3] rfl (by decide))
        clear HS hall hkx hgx hly hfx hlx hlx2
        have HS := HSX
        clear HSX
        go_wp2_with (first | ((first | ((first | ((with_reducible refine gA rfl ?_); refine sh_alloc HS.out rfl rfl (zeT _ (by decide)) ?_) | ((with_reducible refine gB rfl ?_); refine bx HS.out rfl rfl ?_; first | refine bv (v := .agg (List.toArray _)) rfl ?_ | refine bv (v := .int _ _) rfl ?_ | refine bv (v := .slice _ _ _) rfl ?_ | refine bv (v := .bool _) rfl ?_ | refine bv (v := .pointer _) rfl ?_) | ((with_reducible refine gL rfl ?_); refine sh_lit HS.out rfl rfl (by go_simp; exact ⟨⟨rfl, rfl⟩, rfl⟩) ?_)); clear HS; intro g w1 hg HS1; (simp only [Ent.enc, Led.Held.enc, Led.Last.enc, Rc.enc, zeF, segOf, aL, aC, aE] at HS1); have HS := Aside0.mk HS1; clear HS1) | ((with_reducible refine gLd rfl ?_); refine ld2 HS.out rfl rfl rfl (by repeat (first | exact AtI.here | apply AtI.there)) ?_; (first | refine LdK.one ((agT _ (by decide)).trans rfl) rfl ?_ | (refine LdK.agg ((agT _ (by decide)).trans rfl) (szT _ (by decide)) (lb rfl) ?_; try simp only [szL, aP, aN, aT, aZ, aS, aD, aF, aJ, aK, aM, aO]))) | ((with_reducible refine gSt rfl ?_); refine st2 HS.out rfl rfl rfl rfl (by repeat (first | exact AtI.here | apply AtI.there)) ?_; (first | refine sv (u := .agg (List.toArray _)) rfl ?_ | refine sv (u := .int _ _) rfl ?_ | refine sv (u := .slice _ _ _) rfl ?_ | refine sv (u := .bool _) rfl ?_ | refine sv (u := .pointer _) rfl ?_); refine sw (szT _ (by decide)) rfl (lb rfl) ?_; clear HS; intro w1 HS1; (simp only [Ent.enc, Led.Held.enc, Led.Last.enc, Rc.enc, segOf, aL, aZ, aS, putSeg] at HS1); have HS := Aside0.mk HS1; clear HS1)); try simp only [aP, aN, aT, aZ, aS]))
        go_loopw [72] (fun v72 wr => ∃ k : Nat, k ≤ l.length ∧ v72 = .int .i64 k ∧ Aside0 (SH w wr [blk b8 [.int .u64 dx.boot, .int .u64 dx.term, .int .i64 dx.vote, .int .u64 dx.s.si, .int .u64 dx.s.st, .slice dx.s.nA dx.s.nodes.length dx.s.nc, .int .i64 dx.s.lim, .int .u64 dx.s.nxt, .slice dx.s.hA dx.s.held.length dx.s.hc, .slice dx.s.lA dx.s.last.length dx.s.lc, .slice dx.gA dx.log.length dx.gc] 32, blk bh [.int .u64 d.boot, .int .u64 d.term, .int .i64 d.vote, .int .u64 d.s.si, .int .u64 d.s.st, .slice d.s.nA d.s.nodes.length d.s.nc, .int .i64 d.s.lim, .int .u64 d.s.nxt, .slice d.s.hA d.s.held.length d.s.hc, .slice d.s.lA d.s.last.length d.s.lc, .slice d.gA d.log.length d.gc] 32, blk bw [.int .u64 ix, .int .u64 t, .int .u64 commit, .slice A l.length c] 55, I])) (fun v72 _ => l.length - (intOf v72).toNat)
        case atStart => exact ⟨0, Nat.zero_le _, rfl, HS⟩
        case round =>
        clear HS
        obtain ⟨k, hkl, rfl, HS⟩ := hrel
        by_cases hlt2 : k < l.length
        · obtain ⟨x, hx⟩ : ∃ x, l.getD k default = x := ⟨_, rfl⟩
          obtain ⟨ad, had⟩ := HR.out.addr (by omega)
          subst had
          have HX := Aside0.mk hx
          have hw1 : IntKind.u64.wrap (k : Int) = (k : Int) := IntWalk.u64_in _ (by omega)
          have hw2 : IntKind.u64.wrap (ix + (k : Int)) = ix + (k : Int) := IntWalk.u64_in _ (by omega)
          have hw3 : IntKind.u64.wrap (ix + (k : Int) + 1) = ix + (k : Int) + 1 := IntWalk.u64_in _ (by omega)
          have hent := HFX.out.ents k hlt2
          rw [hx] at hent
          obtain ⟨q1, q2, hq⟩ : ∃ q1 q2, termOf dx (ix + (k : Int) + 1) = (q1, q2) := ⟨_, _, rfl⟩
          rw [hq] at hent
          have HTE := Aside0.mk (fun w1 (h : dx.ok w1) => by
            have := HTX.out (ix + (k : Int) + 1) ⟨by omega, by omega⟩ w1 h
            rw [hq] at this
            exact this)
          clear hq hx
          by_cases hat : d.s.si < ix + (k : Int) + 1
          · have h9 := hent hat
            injection h9 with h9 h10
            subst h9 h10
            have f1 : (x.term != x.term) = false := by simp
            have f2 : decide (d.s.si < ix + (k : Int) + 1) = true := by rw [decide_eq_true_eq]; exact hat
            clear hent
            go_wp2_with (first | ((with_reducible refine gLd rfl ?_); refine rd_load (Aside0.mk (HR.out.sh HS.out)).out rfl rfl (i := k) rfl hlt2 default Ent.len ((agT _ (by decide)).trans rfl) (szT _ (by decide)) ?_; intro x hx; obtain rfl := HX.out.symm.trans hx; (try simp only [Ent.enc, Led.Held.enc, Led.Last.enc, Rc.enc, aP, aN, aT, aZ, aS])) | (go_at_call 12; have HW8 := HDX.out _ _ HS.out rfl; (go_at_call 12; (with_reducible refine (HTE.out _ HW8).mono ?_); rintro e w2 ⟨rfl, hb⟩;  have HS1 := HS.out.quiet hb; clear HS hb; have HS := Aside0.mk HS1; clear HS1); clear HW8) | ((first | ((first | ((with_reducible refine gA rfl ?_); refine sh_alloc HS.out rfl rfl (zeT _ (by decide)) ?_) | ((with_reducible refine gB rfl ?_); refine bx HS.out rfl rfl ?_; first | refine bv (v := .agg (List.toArray _)) rfl ?_ | refine bv (v := .int _ _) rfl ?_ | refine bv (v := .slice _ _ _) rfl ?_ | refine bv (v := .bool _) rfl ?_ | refine bv (v := .pointer _) rfl ?_) | ((with_reducible refine gL rfl ?_); refine sh_lit HS.out rfl rfl (by go_simp; exact ⟨⟨rfl, rfl⟩, rfl⟩) ?_)); clear HS; intro g w1 hg HS1; (simp only [Ent.enc, Led.Held.enc, Led.Last.enc, Rc.enc, zeF, segOf, aL, aC, aE] at HS1); have HS := Aside0.mk HS1; clear HS1) | ((with_reducible refine gLd rfl ?_); refine ld2 HS.out rfl rfl rfl (by repeat (first | exact AtI.here | apply AtI.there)) ?_; (first | refine LdK.one ((agT _ (by decide)).trans rfl) rfl ?_ | (refine LdK.agg ((agT _ (by decide)).trans rfl) (szT _ (by decide)) (lb rfl) ?_; try simp only [szL, aP, aN, aT, aZ, aS, aD, aF, aJ, aK, aM, aO]))) | ((with_reducible refine gSt rfl ?_); refine st2 HS.out rfl rfl rfl rfl (by repeat (first | exact AtI.here | apply AtI.there)) ?_; (first | refine sv (u := .agg (List.toArray _)) rfl ?_ | refine sv (u := .int _ _) rfl ?_ | refine sv (u := .slice _ _ _) rfl ?_ | refine sv (u := .bool _) rfl ?_ | refine sv (u := .pointer _) rfl ?_); refine sw (szT _ (by decide)) rfl (lb rfl) ?_; clear HS; intro w1 HS1; (simp only [Ent.enc, Led.Held.enc, Led.Last.enc, Rc.enc, segOf, aL, aZ, aS, putSeg] at HS1); have HS := Aside0.mk HS1; clear HS1)); try simp only [aP, aN, aT, aZ, aS]))
            go_roundw
            case rel => exact ⟨k + 1, by omega, by go_num, ⟨HS.out.pick [0, 1, 2, 3] rfl (by decide)⟩⟩
            case measure => simp [intOf]; omega
          · have f2 : decide (d.s.si < ix + (k : Int) + 1) = false := by rw [decide_eq_false_iff_not]; exact hat
            clear hent
            go_wp2_with (first | ((with_reducible refine gLd rfl ?_); refine rd_load (Aside0.mk (HR.out.sh HS.out)).out rfl rfl (i := k) rfl hlt2 default Ent.len ((agT _ (by decide)).trans rfl) (szT _ (by decide)) ?_; intro x hx; obtain rfl := HX.out.symm.trans hx; (try simp only [Ent.enc, Led.Held.enc, Led.Last.enc, Rc.enc, aP, aN, aT, aZ, aS])) | (go_at_call 12; have HW8 := HDX.out _ _ HS.out rfl; (go_at_call 12; (with_reducible refine (HTE.out _ HW8).mono ?_); rintro e w2 ⟨rfl, hb⟩;  have HS1 := HS.out.quiet hb; clear HS hb; have HS := Aside0.mk HS1; clear HS1); clear HW8) | ((first | ((first | ((with_reducible refine gA rfl ?_); refine sh_alloc HS.out rfl rfl (zeT _ (by decide)) ?_) | ((with_reducible refine gB rfl ?_); refine bx HS.out rfl rfl ?_; first | refine bv (v := .agg (List.toArray _)) rfl ?_ | refine bv (v := .int _ _) rfl ?_ | refine bv (v := .slice _ _ _) rfl ?_ | refine bv (v := .bool _) rfl ?_ | refine bv (v := .pointer _) rfl ?_) | ((with_reducible refine gL rfl ?_); refine sh_lit HS.out rfl rfl (by go_simp; exact ⟨⟨rfl, rfl⟩, rfl⟩) ?_)); clear HS; intro g w1 hg HS1; (simp only [Ent.enc, Led.Held.enc, Led.Last.enc, Rc.enc, zeF, segOf, aL, aC, aE] at HS1); have HS := Aside0.mk HS1; clear HS1) | ((with_reducible refine gLd rfl ?_); refine ld2 HS.out rfl rfl rfl (by repeat (first | exact AtI.here | apply AtI.there)) ?_; (first | refine LdK.one ((agT _ (by decide)).trans rfl) rfl ?_ | (refine LdK.agg ((agT _ (by decide)).trans rfl) (szT _ (by decide)) (lb rfl) ?_; try simp only [szL, aP, aN, aT, aZ, aS, aD, aF, aJ, aK, aM, aO]))) | ((with_reducible refine gSt rfl ?_); refine st2 HS.out rfl rfl rfl rfl (by repeat (first | exact AtI.here | apply AtI.there)) ?_; (first | refine sv (u := .agg (List.toArray _)) rfl ?_ | refine sv (u := .int _ _) rfl ?_ | refine sv (u := .slice _ _ _) rfl ?_ | refine sv (u := .bool _) rfl ?_ | refine sv (u := .pointer _) rfl ?_); refine sw (szT _ (by decide)) rfl (lb rfl) ?_; clear HS; intro w1 HS1; (simp only [Ent.enc, Led.Held.enc, Led.Last.enc, Rc.enc, segOf, aL, aZ, aS, putSeg] at HS1); have HS := Aside0.mk HS1; clear HS1)); try simp only [aP, aN, aT, aZ, aS]))
            go_roundw
            case rel => exact ⟨k + 1, by omega, by go_num, ⟨HS.out.pick [0, 1, 2, 3] rfl (by decide)⟩⟩
            case measure => simp [intOf]; omega
        · obtain rfl : k = l.length := by omega
          go_wp2_with (first | ((first | ((first | ((with_reducible refine gA rfl ?_); refine sh_alloc HS.out rfl rfl (zeT _ (by decide)) ?_) | ((with_reducible refine gB rfl ?_); refine bx HS.out rfl rfl ?_; first | refine bv (v := .agg (List.toArray _)) rfl ?_ | refine bv (v := .int _ _) rfl ?_ | refine bv (v := .slice _ _ _) rfl ?_ | refine bv (v := .bool _) rfl ?_ | refine bv (v := .pointer _) rfl ?_) | ((with_reducible refine gL rfl ?_); refine sh_lit HS.out rfl rfl (by go_simp; exact ⟨⟨rfl, rfl⟩, rfl⟩) ?_)); clear HS; intro g w1 hg HS1; (simp only [Ent.enc, Led.Held.enc, Led.Last.enc, Rc.enc, zeF, segOf, aL, aC, aE] at HS1); have HS := Aside0.mk HS1; clear HS1) | ((with_reducible refine gLd rfl ?_); refine ld2 HS.out rfl rfl rfl (by repeat (first | exact AtI.here | apply AtI.there)) ?_; (first | refine LdK.one ((agT _ (by decide)).trans rfl) rfl ?_ | (refine LdK.agg ((agT _ (by decide)).trans rfl) (szT _ (by decide)) (lb rfl) ?_; try simp only [szL, aP, aN, aT, aZ, aS, aD, aF, aJ, aK, aM, aO]))) | ((with_reducible refine gSt rfl ?_); refine st2 HS.out rfl rfl rfl rfl (by repeat (first | exact AtI.here | apply AtI.there)) ?_; (first | refine sv (u := .agg (List.toArray _)) rfl ?_ | refine sv (u := .int _ _) rfl ?_ | refine sv (u := .slice _ _ _) rfl ?_ | refine sv (u := .bool _) rfl ?_ | refine sv (u := .pointer _) rfl ?_); refine sw (szT _ (by decide)) rfl (lb rfl) ?_; clear HS; intro w1 HS1; (simp only [Ent.enc, Led.Held.enc, Led.Last.enc, Rc.enc, segOf, aL, aZ, aS, putSeg] at HS1); have HS := Aside0.mk HS1; clear HS1)); try simp only [aP, aN, aT, aZ, aS]))
          go_loopw [18] (fun v18 wr => ∃ k : Nat, k ≤ d.log.length + 1 ∧ v18 = .int .u64 (d.s.si + k) ∧ Aside0 (SH w wr [blk b8 [.int .u64 dx.boot, .int .u64 dx.term, .int .i64 dx.vote, .int .u64 dx.s.si, .int .u64 dx.s.st, .slice dx.s.nA dx.s.nodes.length dx.s.nc, .int .i64 dx.s.lim, .int .u64 dx.s.nxt, .slice dx.s.hA dx.s.held.length dx.s.hc, .slice dx.s.lA dx.s.last.length dx.s.lc, .slice dx.gA dx.log.length dx.gc] 32, blk bh [.int .u64 d.boot, .int .u64 d.term, .int .i64 d.vote, .int .u64 d.s.si, .int .u64 d.s.st, .slice d.s.nA d.s.nodes.length d.s.nc, .int .i64 d.s.lim, .int .u64 d.s.nxt, .slice d.s.hA d.s.held.length d.s.hc, .slice d.s.lA d.s.last.length d.s.lc, .slice d.gA d.log.length d.gc] 32, blk bw [.int .u64 ix, .int .u64 t, .int .u64 commit, .slice A l.length c] 55, I])) (fun v18 _ => d.log.length + 1 - (intOf v18 - d.s.si).toNat)
          case atStart => exact ⟨0, Nat.zero_le _, by simp, HS⟩
          case round =>
          clear HS
          obtain ⟨k, hkd, rfl, HS⟩ := hrel
          have hw0 : IntKind.u64.wrap (d.log.length : Int) = (d.log.length : Int) := IntWalk.u64_in _ (by omega)
          have hw1 : IntKind.u64.wrap (d.s.si + (d.log.length : Int)) = d.s.si + (d.log.length : Int) := IntWalk.u64_in _ (by omega)
          have hw2 : IntKind.u64.wrap (d.s.si + (k : Int) + 1) = d.s.si + (k : Int) + 1 := IntWalk.u64_in _ (by omega)
          by_cases hc1 : d.s.si + (k : Int) ≤ commit
          · have f1 : decide (d.s.si + (k : Int) ≤ commit) = true := by rw [decide_eq_true_eq]; exact hc1
            by_cases hc2 : k ≤ d.log.length
            · have f2 : decide (d.s.si + (k : Int) ≤ d.s.si + (d.log.length : Int)) = true := by rw [decide_eq_true_eq]; omega
              have hkeep := HFX.out.keep (d.s.si + k) (by omega) hc1 (by omega)
              obtain ⟨q1, q2, hq⟩ : ∃ q1 q2, termOf d (d.s.si + (k : Int)) = (q1, q2) := ⟨_, _, rfl⟩
              rw [hq] at hkeep
              have HTE := Aside0.mk (fun w1 (h : dx.ok w1) => by
                have := HTX.out (d.s.si + (k : Int)) ⟨by omega, by omega⟩ w1 h
                rw [hkeep] at this
                exact this)
              have HTE2 := Aside0.mk (fun w1 (h : d.ok w1) => by
                have := HTD.out (d.s.si + (k : Int)) ⟨by omega, by omega⟩ w1 h
                rw [hq] at this
                exact this)
              have f3 : (q1 != q1) = false := by simp
              clear hq hkeep
              go_upto_region 26 with (first | (go_at_call 12; (with_reducible refine (HTE2.out _ (HK.out.sh HS.out)).mono ?_); rintro e w2 ⟨rfl, hb⟩;  have HS1 := HS.out.quiet hb; clear HS hb; have HS := Aside0.mk HS1; clear HS1) | ((first | ((first | ((with_reducible refine gA rfl ?_); refine sh_alloc HS.out rfl rfl (zeT _ (by decide)) ?_) | ((with_reducible refine gB rfl ?_); refine bx HS.out rfl rfl ?_; first | refine bv (v := .agg (List.toArray _)) rfl ?_ | refine bv (v := .int _ _) rfl ?_ | refine bv (v := .slice _ _ _) rfl ?_ | refine bv (v := .bool _) rfl ?_ | refine bv (v := .pointer _) rfl ?_) | ((with_reducible refine gL rfl ?_); refine sh_lit HS.out rfl rfl (by go_simp; exact ⟨⟨rfl, rfl⟩, rfl⟩) ?_)); clear HS; intro g w1 hg HS1; (simp only [Ent.enc, Led.Held.enc, Led.Last.enc, Rc.enc, zeF, segOf, aL, aC, aE] at HS1); have HS := Aside0.mk HS1; clear HS1) | ((with_reducible refine gLd rfl ?_); refine ld2 HS.out rfl rfl rfl (by repeat (first | exact AtI.here | apply AtI.there)) ?_; (first | refine LdK.one ((agT _ (by decide)).trans rfl) rfl ?_ | (refine LdK.agg ((agT _ (by decide)).trans rfl) (szT _ (by decide)) (lb rfl) ?_; try simp only [szL, aP, aN, aT, aZ, aS, aD, aF, aJ, aK, aM, aO]))) | ((with_reducible refine gSt rfl ?_); refine st2 HS.out rfl rfl rfl rfl (by repeat (first | exact AtI.here | apply AtI.there)) ?_; (first | refine sv (u := .agg (List.toArray _)) rfl ?_ | refine sv (u := .int _ _) rfl ?_ | refine sv (u := .slice _ _ _) rfl ?_ | refine sv (u := .bool _) rfl ?_ | refine sv (u := .pointer _) rfl ?_); refine sw (szT _ (by decide)) rfl (lb rfl) ?_; clear HS; intro w1 HS1; (simp only [Ent.enc, Led.Held.enc, Led.Last.enc, Rc.enc, segOf, aL, aZ, aS, putSeg] at HS1); have HS := Aside0.mk HS1; clear HS1)); try simp only [aP, aN, aT, aZ, aS]))
              go_wp2_with (first | (go_at_call 12; have HW8 := HDX.out _ _ HS.out rfl; (go_at_call 12; (with_reducible refine (HTE.out _ HW8).mono ?_); rintro e w2 ⟨rfl, hb⟩;  have HS1 := HS.out.quiet hb; clear HS hb; have HS := Aside0.mk HS1; clear HS1); clear HW8) | ((first | ((first | ((with_reducible refine gA rfl ?_); refine sh_alloc HS.out rfl rfl (zeT _ (by decide)) ?_) | ((with_reducible refine gB rfl ?_); refine bx HS.out rfl rfl ?_; first | refine bv (v := .agg (List.toArray _)) rfl ?_ | refine bv (v := .int _ _) rfl ?_ | refine bv (v := .slice _ _ _) rfl ?_ | refine bv (v := .bool _) rfl ?_ | refine bv (v := .pointer _) rfl ?_) | ((with_reducible refine gL rfl ?_); refine sh_lit HS.out rfl rfl (by go_simp; exact ⟨⟨rfl, rfl⟩, rfl⟩) ?_)); clear HS; intro g w1 hg HS1; (simp only [Ent.enc, Led.Held.enc, Led.Last.enc, Rc.enc, zeF, segOf, aL, aC, aE] at HS1); have HS := Aside0.mk HS1; clear HS1) | ((with_reducible refine gLd rfl ?_); refine ld2 HS.out rfl rfl rfl (by repeat (first | exact AtI.here | apply AtI.there)) ?_; (first | refine LdK.one ((agT _ (by decide)).trans rfl) rfl ?_ | (refine LdK.agg ((agT _ (by decide)).trans rfl) (szT _ (by decide)) (lb rfl) ?_; try simp only [szL, aP, aN, aT, aZ, aS, aD, aF, aJ, aK, aM, aO]))) | ((with_reducible refine gSt rfl ?_); refine st2 HS.out rfl rfl rfl rfl (by repeat (first | exact AtI.here | apply AtI.there)) ?_; (first | refine sv (u := .agg (List.toArray _)) rfl ?_ | refine sv (u := .int _ _) rfl ?_ | refine sv (u := .slice _ _ _) rfl ?_ | refine sv (u := .bool _) rfl ?_ | refine sv (u := .pointer _) rfl ?_); refine sw (szT _ (by decide)) rfl (lb rfl) ?_; clear HS; intro w1 HS1; (simp only [Ent.enc, Led.Held.enc, Led.Last.enc, Rc.enc, segOf, aL, aZ, aS, putSeg] at HS1); have HS := Aside0.mk HS1; clear HS1)); try simp only [aP, aN, aT, aZ, aS]))
              go_roundw
              case rel => exact ⟨k + 1, by omega, (by first | rfl | (show Value.int .u64 _ = Value.int .u64 _; congr 1; omega)), HS⟩
              case measure => simp [intOf]; omega
            · have f2 : decide (d.s.si + (k : Int) ≤ d.s.si + (d.log.length : Int)) = false := by rw [decide_eq_false_iff_not]; omega
              go_wp2_with (first | (go_at_call 29; have HW8 := HDX.out _ _ HS.out rfl; (go_at_call 29; (with_reducible refine (HMQ.out _ HW8 (HR.out.sh HS.out) (fun e he => (HEN.out e he).sh HS.out)).mono ?_); rintro e w2 ⟨⟨B, cb, rfl⟩, hb⟩;  have HS1 := HS.out.quiet hb; clear HS hb; have HS := Aside0.mk HS1; clear HS1); clear HW8) | ((first | ((first | ((with_reducible refine gA rfl ?_); refine sh_alloc HS.out rfl rfl (zeT _ (by decide)) ?_) | ((with_reducible refine gB rfl ?_); refine bx HS.out rfl rfl ?_; first | refine bv (v := .agg (List.toArray _)) rfl ?_ | refine bv (v := .int _ _) rfl ?_ | refine bv (v := .slice _ _ _) rfl ?_ | refine bv (v := .bool _) rfl ?_ | refine bv (v := .pointer _) rfl ?_) | ((with_reducible refine gL rfl ?_); refine sh_lit HS.out rfl rfl (by go_simp; exact ⟨⟨rfl, rfl⟩, rfl⟩) ?_)); clear HS; intro g w1 hg HS1; (simp only [Ent.enc, Led.Held.enc, Led.Last.enc, Rc.enc, zeF, segOf, aL, aC, aE] at HS1); have HS := Aside0.mk HS1; clear HS1) | ((with_reducible refine gLd rfl ?_); refine ld2 HS.out rfl rfl rfl (by repeat (first | exact AtI.here | apply AtI.there)) ?_; (first | refine LdK.one ((agT _ (by decide)).trans rfl) rfl ?_ | (refine LdK.agg ((agT _ (by decide)).trans rfl) (szT _ (by decide)) (lb rfl) ?_; try simp only [szL, aP, aN, aT, aZ, aS, aD, aF, aJ, aK, aM, aO]))) | ((with_reducible refine gSt rfl ?_); refine st2 HS.out rfl rfl rfl rfl (by repeat (first | exact AtI.here | apply AtI.there)) ?_; (first | refine sv (u := .agg (List.toArray _)) rfl ?_ | refine sv (u := .int _ _) rfl ?_ | refine sv (u := .slice _ _ _) rfl ?_ | refine sv (u := .bool _) rfl ?_ | refine sv (u := .pointer _) rfl ?_); refine sw (szT _ (by decide)) rfl (lb rfl) ?_; clear HS; intro w1 HS1; (simp only [Ent.enc, Led.Held.enc, Led.Last.enc, Rc.enc, segOf, aL, aZ, aS, putSeg] at HS1); have HS := Aside0.mk HS1; clear HS1)); try simp only [aP, aN, aT, aZ, aS]))
              go_ret
              exact ⟨rfl, HS.out.below⟩
          · have f1 : decide (d.s.si + (k : Int) ≤ commit) = false := by rw [decide_eq_false_iff_not]; exact hc1
            go_wp2_with (first | (go_at_call 29; have HW8 := HDX.out _ _ HS.out rfl; (go_at_call 29; (with_reducible refine (HMQ.out _ HW8 (HR.out.sh HS.out) (fun e he => (HEN.out e he).sh HS.out)).mono ?_); rintro e w2 ⟨⟨B, cb, rfl⟩, hb⟩;  have HS1 := HS.out.quiet hb; clear HS hb; have HS := Aside0.mk HS1; clear HS1); clear HW8) | ((first | ((first | ((with_reducible refine gA rfl ?_); refine sh_alloc HS.out rfl rfl (zeT _ (by decide)) ?_) | ((with_reducible refine gB rfl ?_); refine bx HS.out rfl rfl ?_; first | refine bv (v := .agg (List.toArray _)) rfl ?_ | refine bv (v := .int _ _) rfl ?_ | refine bv (v := .slice _ _ _) rfl ?_ | refine bv (v := .bool _) rfl ?_ | refine bv (v := .pointer _) rfl ?_) | ((with_reducible refine gL rfl ?_); refine sh_lit HS.out rfl rfl (by go_simp; exact ⟨⟨rfl, rfl⟩, rfl⟩) ?_)); clear HS; intro g w1 hg HS1; (simp only [Ent.enc, Led.Held.enc, Led.Last.enc, Rc.enc, zeF, segOf, aL, aC, aE] at HS1); have HS := Aside0.mk HS1; clear HS1) | ((with_reducible refine gLd rfl ?_); refine ld2 HS.out rfl rfl rfl (by repeat (first | exact AtI.here | apply AtI.there)) ?_; (first | refine LdK.one ((agT _ (by decide)).trans rfl) rfl ?_ | (refine LdK.agg ((agT _ (by decide)).trans rfl) (szT _ (by decide)) (lb rfl) ?_; try simp only [szL, aP, aN, aT, aZ, aS, aD, aF, aJ, aK, aM, aO]))) | ((with_reducible refine gSt rfl ?_); refine st2 HS.out rfl rfl rfl rfl (by repeat (first | exact AtI.here | apply AtI.there)) ?_; (first | refine sv (u := .agg (List.toArray _)) rfl ?_ | refine sv (u := .int _ _) rfl ?_ | refine sv (u := .slice _ _ _) rfl ?_ | refine sv (u := .bool _) rfl ?_ | refine sv (u := .pointer _) rfl ?_); refine sw (szT _ (by decide)) rfl (lb rfl) ?_; clear HS; intro w1 HS1; (simp only [Ent.enc, Led.Held.enc, Led.Last.enc, Rc.enc, segOf, aL, aZ, aS, putSeg] at HS1); have HS := Aside0.mk HS1; clear HS1)); try simp only [aP, aN, aT, aZ, aS]))
            go_ret
            exact ⟨rfl, HS.out.below⟩
end Go.Proofs.Ytekjihmepdhmeaa.Rlo

