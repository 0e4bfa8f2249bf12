/- Lemmas towards the law: what of the text RloD it needs. -/
import Derived.Test.YtekjihmepdhmeaaRloCq
namespace Go.Proofs.Ytekjihmepdhmeaa.Rlo
open Go.RowKit Go.Proofs.YtekjihmepdhmeaaW.PrintWords Go.Proofs.Ytekjihmepdhmeaa.Sl
set_option linter.unusedVariables false
set_option linter.unusedSimpArgs false
theorem addf (a : Addr) (n j : Nat) (hj : j ≠ 0) : Value.pointer (some { block := (a.add n).block, off := (a.add n).off + j }) = Value.pointer (some (a.add (n + j))) := by
  unfold Addr.add
  by_cases h : n = 0
  · subst h
    simp [hj]
  · rw [if_neg h, if_neg (by omega)]
    simp [Nat.add_assoc]
set_option maxHeartbeats 400000 in
theorem clone_any (A : Option Addr) (c : Nat) (l : List Int) (w : World) {M : Nat} (hr : Rd (ints .i64) 1 w A M l) (hlim : M * 8 ≤ 140737488351232) :
    Calls Try.prog 44 #[.slice A M c] w (fun e w' => ∃ A1 c1 S, e = .returned (.slice A1 l.length c1) ∧ SH w w' [row (intK .i64) 3 (.slice A1 l.length c1) l S]) := by
  obtain rfl := hr.len.1
  have HR := Aside0.mk hr
  have hm := hr.len.2
  clear hr
  cases A with
  | none =>
    have h0 : l = [] := by
      cases l with
      | nil => rfl
      | cons x l => obtain ⟨ad, h⟩ := HR.out.addr (by simp); cases h
    subst h0
    have heq : ∀ w, (binOp .eql 23 (.slice none 0 c) (.slice none 0 0)).run Try.prog w = .ok (.bool true) w := fun w => Go.Lib.run_eql_slice_nil w 23 3 none 0 c 0 0 Try.underlying23
    have HS := Aside0.mk ((SH.start w).nil (intK .i64) 3)
    go_enter Try.func44, Try.ntmps44
    go_wp2
    go_ret
    exact ⟨_, _, _, rfl, HS.out⟩
  | some ad =>
    have heq : ∀ w, (binOp .eql 23 (.slice (some ad) l.length c) (.slice none 0 0)).run Try.prog w = .ok (.bool false) w := fun w => Go.Lib.run_eql_slice_nil w 23 3 (some ad) l.length c 0 0 Try.underlying23
    have HS := Aside0.mk (SH.start w)
    go_enter Try.func44, Try.ntmps44
    go_wp2_with (first | ((with_reducible refine gC (b := .append) rfl ?_); refine sh_append_blk (ints_len .i64) (ints_one .i64) HS.out rfl rfl 0 [] rfl rfl rfl rfl (HR.out.sh HS.out) Try.underlying23 infoInt rfl (by decide) (by decide) (by simp; omega) ?_; clear HS; intro v1 w1 S1 HS1; (simp only [aZ, aS] at HS1); have HS := Aside0.mk HS1; clear HS1; try simp only [aP, aN, aT, aZ, aS]; obtain ⟨A1, c1, rfl, hc1, _⟩ := row_rd HS.out 0 rfl) | ((first | ((first | ((with_reducible refine gA rfl ?_); refine sh_alloc HS.out rfl rfl (zeT _ (by decide)) ?_) | ((with_reducible refine gB rfl ?_); refine bx HS.out rfl rfl ?_; first | refine bv (v := .agg (List.toArray _)) rfl ?_ | refine bv (v := .int _ _) rfl ?_ | refine bv (v := .slice _ _ _) rfl ?_ | refine bv (v := .bool _) rfl ?_ | refine bv (v := .pointer _) rfl ?_) | ((with_reducible refine gL rfl ?_); refine sh_lit HS.out rfl rfl (by go_simp; exact ⟨⟨rfl, rfl⟩, rfl⟩) ?_)); clear HS; intro g w1 hg HS1; (simp only [Ent.enc, Led.Held.enc, Led.Last.enc, zeF, segOf, aL, aC, aE] at HS1); have HS := Aside0.mk HS1; clear HS1)); try simp only [aP, aN, aT, aZ, aS]))
    go_ret
    exact ⟨_, _, _, rfl, HS.out⟩
def confB (si u : Int) (l : List Ent) (z : Int × List Int) : Nat → Int × List Int
  | 0 => z
  | k + 1 => if si + k + 1 ≤ u ∧ (l.getD k default).kind = 2 then (si + k + 1, (l.getD k default).nodes) else confB si u l z k
def confG (d : Hrd) (u : Int) : Int × List Int := if hardOk d then confB d.s.si u d.log (d.s.si, d.s.nodes) d.log.length else (0, [])
set_option maxHeartbeats 3200000 in
set_option maxRecDepth 100000 in
theorem conf_any (d : Hrd) (u : Int) (w : World) (hk : d.ok w) (hz : d.szd) : Calls Try.prog 19 #[.agg #[.int .u64 d.boot, .int .u64 d.term, .int .i64 d.vote, .int .u64 d.s.si, .int .u64 d.s.st, .slice d.s.nA d.s.nodes.length d.s.nc, .int .i64 d.s.lim, .int .u64 d.s.nxt, .slice d.s.hA d.s.held.length d.s.hc, .slice d.s.lA d.s.last.length d.s.lc, .slice d.gA d.log.length d.gc], .int .u64 u] w
    (fun e w' => ∃ A c S, e = .returned (.tuple #[.int .u64 (confG d u).1, .slice A (confG d u).2.length c]) ∧ SH w w' [row (intK .i64) 3 (.slice A (confG d u).2.length c) (confG d u).2 S]) := by
  have HK := Aside0.mk hk
  have HZ := Aside0.mk hz
  have hm := hk.rg.len.2
  have HS := Aside0.mk (SH.start w)
  cases hg : hardOk d with
  | false =>
    have HE := Aside0.mk (show confG d u = (0, []) by unfold confG; rw [hg]; rfl)
    have HG := Aside0.mk hg
    clear hg hk hz
    go_enter Try.func19, Try.ntmps19
    go_wp2_with (first | (go_at_call 37; (with_reducible refine (good_any d _ (HK.out.sh HS.out)).mono ?_); rintro e w2 ⟨rfl, hb⟩; rw [HG.out]; have HS1 := HS.out.quiet hb; clear HS hb; have HS := Aside0.mk HS1; clear HS1) | ((first | ((first | ((with_reducible refine gA rfl ?_); refine sh_alloc HS.out rfl rfl (zeT _ (by decide)) ?_) | ((with_reducible refine gB rfl ?_); refine bx HS.out rfl rfl ?_; first | refine bv (v := .agg (List.toArray _)) rfl ?_ | refine bv (v := .int _ _) rfl ?_ | refine bv (v := .slice _ _ _) rfl ?_ | refine bv (v := .bool _) rfl ?_ | refine bv (v := .pointer _) rfl ?_) | ((with_reducible refine gL rfl ?_); refine sh_lit HS.out rfl rfl (by go_simp; exact ⟨⟨rfl, rfl⟩, rfl⟩) ?_)); clear HS; intro g w1 hg HS1; (simp only [Ent.enc, Led.Held.enc, Led.Last.enc, zeF, segOf, aL, aC, aE] at HS1); have HS := Aside0.mk HS1; clear HS1) | ((with_reducible refine gLd rfl ?_); refine ld2 HS.out rfl rfl rfl (by repeat (first | exact AtI.here | apply AtI.there)) ?_; (first | refine LdK.one ((agT _ (by decide)).trans rfl) rfl ?_ | (refine LdK.agg ((agT _ (by decide)).trans rfl) (szT _ (by decide)) (lb rfl) ?_; try simp only [szL, aP, aN, aT, aZ, aS, aD, aF, aJ, aK, aM, aO]))) | ((with_reducible refine gSt rfl ?_); refine st2 HS.out rfl rfl rfl rfl (by repeat (first | exact AtI.here | apply AtI.there)) ?_; (first | refine sv (u := .agg (List.toArray _)) rfl ?_ | refine sv (u := .int _ _) rfl ?_ | refine sv (u := .slice _ _ _) rfl ?_ | refine sv (u := .bool _) rfl ?_ | refine sv (u := .pointer _) rfl ?_); refine sw (szT _ (by decide)) rfl (lb rfl) ?_; clear HS; intro w1 HS1; (simp only [Ent.enc, Led.Held.enc, Led.Last.enc, segOf, aL, aZ, aS, putSeg] at HS1); have HS := Aside0.mk HS1; clear HS1)); try simp only [aP, aN, aT, aZ, aS]))
    go_ret2
    rw [HE.out]
    exact ⟨_, _, _, rfl, (HS.out.nil (intK .i64) 3).pick [1] rfl (by decide)⟩
  | true =>
    obtain ⟨hl1, hl2⟩ := hardOk_last hk hg
    have h0 := hk.s.si.1
    have HG := Aside0.mk hg
    obtain ⟨ri, rl, hres⟩ : ∃ ri rl, confG d u = (ri, rl) := ⟨_, _, rfl⟩
    have HRES := Aside0.mk hres
    have HB := Aside0.mk (show confB d.s.si u d.log (d.s.si, d.s.nodes) d.log.length = (ri, rl) by rw [← hres]; unfold confG; rw [hg]; rfl)
    clear hg hk hz hl1 hres
    rw [HRES.out]
    go_enter Try.func19, Try.ntmps19
    go_upto_region 3 with (first | (go_at_call 37; (with_reducible refine (good_any d _ (HK.out.sh HS.out)).mono ?_); rintro e w2 ⟨rfl, hb⟩; rw [HG.out]; have HS1 := HS.out.quiet hb; clear HS hb; have HS := Aside0.mk HS1; clear HS1) | ((first | ((first | ((with_reducible refine gA rfl ?_); refine sh_alloc HS.out rfl rfl (zeT _ (by decide)) ?_) | ((with_reducible refine gB rfl ?_); refine bx HS.out rfl rfl ?_; first | refine bv (v := .agg (List.toArray _)) rfl ?_ | refine bv (v := .int _ _) rfl ?_ | refine bv (v := .slice _ _ _) rfl ?_ | refine bv (v := .bool _) rfl ?_ | refine bv (v := .pointer _) rfl ?_) | ((with_reducible refine gL rfl ?_); refine sh_lit HS.out rfl rfl (by go_simp; exact ⟨⟨rfl, rfl⟩, rfl⟩) ?_)); clear HS; intro g w1 hg HS1; (simp only [Ent.enc, Led.Held.enc, Led.Last.enc, zeF, segOf, aL, aC, aE] at HS1); have HS := Aside0.mk HS1; clear HS1) | ((with_reducible refine gLd rfl ?_); refine ld2 HS.out rfl rfl rfl (by repeat (first | exact AtI.here | apply AtI.there)) ?_; (first | refine LdK.one ((agT _ (by decide)).trans rfl) rfl ?_ | (refine LdK.agg ((agT _ (by decide)).trans rfl) (szT _ (by decide)) (lb rfl) ?_; try simp only [szL, aP, aN, aT, aZ, aS, aD, aF, aJ, aK, aM, aO]))) | ((with_reducible refine gSt rfl ?_); refine st2 HS.out rfl rfl rfl rfl (by repeat (first | exact AtI.here | apply AtI.there)) ?_; (first | refine sv (u := .agg (List.toArray _)) rfl ?_ | refine sv (u := .int _ _) rfl ?_ | refine sv (u := .slice _ _ _) rfl ?_ | refine sv (u := .bool _) rfl ?_ | refine sv (u := .pointer _) rfl ?_); refine sw (szT _ (by decide)) rfl (lb rfl) ?_; clear HS; intro w1 HS1; (simp only [Ent.enc, Led.Held.enc, Led.Last.enc, segOf, aL, aZ, aS, putSeg] at HS1); have HS := Aside0.mk HS1; clear HS1)); try simp only [aP, aN, aT, aZ, aS]))
    obtain ⟨gh, hgh⟩ : ∃ gh, gh = g := ⟨_, rfl⟩
    subst hgh
    go_wp2_with (first | ((first | ((first | ((with_reducible refine gA rfl ?_); refine sh_alloc HS.out rfl rfl (zeT _ (by decide)) ?_) | ((with_reducible refine gB rfl ?_); refine bx HS.out rfl rfl ?_; first | refine bv (v := .agg (List.toArray _)) rfl ?_ | refine bv (v := .int _ _) rfl ?_ | refine bv (v := .slice _ _ _) rfl ?_ | refine bv (v := .bool _) rfl ?_ | refine bv (v := .pointer _) rfl ?_) | ((with_reducible refine gL rfl ?_); refine sh_lit HS.out rfl rfl (by go_simp; exact ⟨⟨rfl, rfl⟩, rfl⟩) ?_)); clear HS; intro g w1 hg HS1; (simp only [Ent.enc, Led.Held.enc, Led.Last.enc, zeF, segOf, aL, aC, aE] at HS1); have HS := Aside0.mk HS1; clear HS1) | ((with_reducible refine gLd rfl ?_); refine ld2 HS.out rfl rfl rfl (by repeat (first | exact AtI.here | apply AtI.there)) ?_; (first | refine LdK.one ((agT _ (by decide)).trans rfl) rfl ?_ | (refine LdK.agg ((agT _ (by decide)).trans rfl) (szT _ (by decide)) (lb rfl) ?_; try simp only [szL, aP, aN, aT, aZ, aS, aD, aF, aJ, aK, aM, aO]))) | ((with_reducible refine gSt rfl ?_); refine st2 HS.out rfl rfl rfl rfl (by repeat (first | exact AtI.here | apply AtI.there)) ?_; (first | refine sv (u := .agg (List.toArray _)) rfl ?_ | refine sv (u := .int _ _) rfl ?_ | refine sv (u := .slice _ _ _) rfl ?_ | refine sv (u := .bool _) rfl ?_ | refine sv (u := .pointer _) rfl ?_); refine sw (szT _ (by decide)) rfl (lb rfl) ?_; clear HS; intro w1 HS1; (simp only [Ent.enc, Led.Held.enc, Led.Last.enc, segOf, aL, aZ, aS, putSeg] at HS1); have HS := Aside0.mk HS1; clear HS1)); try simp only [aP, aN, aT, aZ, aS]))
    go_loopw [6] (fun v6 wr => ∃ (i : Int), -1 ≤ i ∧ i < d.log.length ∧ v6 = .int .i64 i ∧ Aside0 (confB d.s.si u d.log (d.s.si, d.s.nodes) (i + 1).toNat = (ri, rl)) ∧ Aside0 (SH w wr [blk gh [.int .u64 d.boot, .int .u64 d.term, .int .i64 d.vote, .int .u64 d.s.si, .int .u64 d.s.st, .slice d.s.nA d.s.nodes.length d.s.nc, .int .i64 d.s.lim, .int .u64 d.s.nxt, .slice d.s.hA d.s.held.length d.s.hc, .slice d.s.lA d.s.last.length d.s.lc, .slice d.gA d.log.length d.gc] 32])) (fun v6 _ => (intOf v6 + 1).toNat)
    case atStart => exact ⟨(d.log.length : Int) - 1, by omega, by omega, rfl, ⟨by rw [show ((d.log.length : Int) - 1 + 1).toNat = d.log.length by omega]; exact HB.out⟩, HS⟩
    case round =>
      clear HS HB
      obtain ⟨i, hi1, hi2, rfl, HB, HS⟩ := hrel
      by_cases hi : 0 ≤ i
      · obtain ⟨k, rfl⟩ : ∃ k : Nat, i = k := ⟨i.toNat, by omega⟩
        have hlt : k < d.log.length := by omega
        have hb := HB.out
        rw [show ((k : Int) + 1).toNat = k + 1 by omega, confB] at hb
        generalize hx : d.log.getD k default = x at hb
        have HXO := Aside0.mk (HK.out.re x (getD_in hlt hx))
        have HXZ := Aside0.mk (HZ.out.e x (getD_in hlt hx))
        have HX := Aside0.mk hx
        have hRR := HK.out.rg.sh HS.out
        obtain ⟨ad, had⟩ := hRR.addr (by omega)
        have HAD := Aside0.mk had
        rw [had] at hRR
        have HRR := Aside0.mk hRR
        clear had hRR hx
        rw [HAD.out] at HS ⊢
        by_cases h1 : d.s.si + k + 1 ≤ u
        · have f1 : decide (d.s.si + (k : Int) + 1 ≤ u) = true := by rw [decide_eq_true_eq]; exact h1
          by_cases h2 : x.kind = 2
          · have f2 : (x.kind == 2) = true := beq_iff_eq.2 h2
            rw [if_pos ⟨h1, h2⟩] at hb
            have HB := Aside0.mk hb
            clear hb h1 h2
            go_wp2_with (first | ((with_reducible refine gLd rfl ?_); refine rd_loadf HRR.out rfl rfl (i := k) 1 (addf ad (k * 9) 1 (by decide)) hlt default ((agT _ (by decide)).trans rfl) (fun e => .int .i64 e.kind) (fun _ => rfl) ?_; intro x hx; obtain rfl := HX.out.symm.trans hx; (try simp only [aP, aN, aT, aZ, aS])) | ((with_reducible refine gLd rfl ?_); refine rd_loadf HRR.out rfl rfl (i := k) 4 (addf ad (k * 9) 4 (by decide)) hlt default ((agT _ (by decide)).trans rfl) (fun e => .slice e.A e.nodes.length e.c) (fun _ => rfl) ?_; intro x hx; obtain rfl := HX.out.symm.trans hx; (try simp only [aP, aN, aT, aZ, aS])) | (go_at_call 44; (with_reducible refine (clone_any x.A x.c x.nodes _ (HXO.out.rd.sh HS.out) HXZ.out).mono ?_); rintro e w2 ⟨A1, c1, S, rfl, HS1⟩;  have HS2 := HS.out.call HS1; clear HS HS1; simp only [aC, aE] at HS2; have HS := Aside0.mk HS2; clear HS2) | ((first | ((first | ((with_reducible refine gA rfl ?_); refine sh_alloc HS.out rfl rfl (zeT _ (by decide)) ?_) | ((with_reducible refine gB rfl ?_); refine bx HS.out rfl rfl ?_; first | refine bv (v := .agg (List.toArray _)) rfl ?_ | refine bv (v := .int _ _) rfl ?_ | refine bv (v := .slice _ _ _) rfl ?_ | refine bv (v := .bool _) rfl ?_ | refine bv (v := .pointer _) rfl ?_) | ((with_reducible refine gL rfl ?_); refine sh_lit HS.out rfl rfl (by go_simp; exact ⟨⟨rfl, rfl⟩, rfl⟩) ?_)); clear HS; intro g w1 hg HS1; (simp only [Ent.enc, Led.Held.enc, Led.Last.enc, zeF, segOf, aL, aC, aE] at HS1); have HS := Aside0.mk HS1; clear HS1) | ((with_reducible refine gLd rfl ?_); refine ld2 HS.out rfl rfl rfl (by repeat (first | exact AtI.here | apply AtI.there)) ?_; (first | refine LdK.one ((agT _ (by decide)).trans rfl) rfl ?_ | (refine LdK.agg ((agT _ (by decide)).trans rfl) (szT _ (by decide)) (lb rfl) ?_; try simp only [szL, aP, aN, aT, aZ, aS, aD, aF, aJ, aK, aM, aO]))) | ((with_reducible refine gSt rfl ?_); refine st2 HS.out rfl rfl rfl rfl (by repeat (first | exact AtI.here | apply AtI.there)) ?_; (first | refine sv (u := .agg (List.toArray _)) rfl ?_ | refine sv (u := .int _ _) rfl ?_ | refine sv (u := .slice _ _ _) rfl ?_ | refine sv (u := .bool _) rfl ?_ | refine sv (u := .pointer _) rfl ?_); refine sw (szT _ (by decide)) rfl (lb rfl) ?_; clear HS; intro w1 HS1; (simp only [Ent.enc, Led.Held.enc, Led.Last.enc, segOf, aL, aZ, aS, putSeg] at HS1); have HS := Aside0.mk HS1; clear HS1)); try simp only [aP, aN, aT, aZ, aS]))
            go_ret2
            have hb := HB.out
            injection hb with e1 e2
            subst e1 e2
            exact ⟨_, _, _, rfl, HS.out.pick [1] rfl (by decide)⟩
          · have f2 : (x.kind == 2) = false := beq_eq_false_iff_ne.2 h2
            rw [if_neg (fun h => h2 h.2)] at hb
            have HB := Aside0.mk (show confB d.s.si u d.log (d.s.si, d.s.nodes) ((k : Int) - 1 + 1).toNat = (ri, rl) by rw [show ((k : Int) - 1 + 1).toNat = k by omega]; exact hb)
            clear hb
            go_wp2_with (first | ((with_reducible refine gLd rfl ?_); refine rd_loadf HRR.out rfl rfl (i := k) 1 (addf ad (k * 9) 1 (by decide)) hlt default ((agT _ (by decide)).trans rfl) (fun e => .int .i64 e.kind) (fun _ => rfl) ?_; intro x hx; obtain rfl := HX.out.symm.trans hx; (try simp only [aP, aN, aT, aZ, aS])) | ((with_reducible refine gLd rfl ?_); refine rd_loadf HRR.out rfl rfl (i := k) 4 (addf ad (k * 9) 4 (by decide)) hlt default ((agT _ (by decide)).trans rfl) (fun e => .slice e.A e.nodes.length e.c) (fun _ => rfl) ?_; intro x hx; obtain rfl := HX.out.symm.trans hx; (try simp only [aP, aN, aT, aZ, aS])) | (go_at_call 44; (with_reducible refine (clone_any x.A x.c x.nodes _ (HXO.out.rd.sh HS.out) HXZ.out).mono ?_); rintro e w2 ⟨A1, c1, S, rfl, HS1⟩;  have HS2 := HS.out.call HS1; clear HS HS1; simp only [aC, aE] at HS2; have HS := Aside0.mk HS2; clear HS2) | ((first | ((first | ((with_reducible refine gA rfl ?_); refine sh_alloc HS.out rfl rfl (zeT _ (by decide)) ?_) | ((with_reducible refine gB rfl ?_); refine bx HS.out rfl rfl ?_; first | refine bv (v := .agg (List.toArray _)) rfl ?_ | refine bv (v := .int _ _) rfl ?_ | refine bv (v := .slice _ _ _) rfl ?_ | refine bv (v := .bool _) rfl ?_ | refine bv (v := .pointer _) rfl ?_) | ((with_reducible refine gL rfl ?_); refine sh_lit HS.out rfl rfl (by go_simp; exact ⟨⟨rfl, rfl⟩, rfl⟩) ?_)); clear HS; intro g w1 hg HS1; (simp only [Ent.enc, Led.Held.enc, Led.Last.enc, zeF, segOf, aL, aC, aE] at HS1); have HS := Aside0.mk HS1; clear HS1) | ((with_reducible refine gLd rfl ?_); refine ld2 HS.out rfl rfl rfl (by repeat (first | exact AtI.here | apply AtI.there)) ?_; (first | refine LdK.one ((agT _ (by decide)).trans rfl) rfl ?_ | (refine LdK.agg ((agT _ (by decide)).trans rfl) (szT _ (by decide)) (lb rfl) ?_; try simp only [szL, aP, aN, aT, aZ, aS, aD, aF, aJ, aK, aM, aO]))) | ((with_reducible refine gSt rfl ?_); refine st2 HS.out rfl rfl rfl rfl (by repeat (first | exact AtI.here | apply AtI.there)) ?_; (first | refine sv (u := .agg (List.toArray _)) rfl ?_ | refine sv (u := .int _ _) rfl ?_ | refine sv (u := .slice _ _ _) rfl ?_ | refine sv (u := .bool _) rfl ?_ | refine sv (u := .pointer _) rfl ?_); refine sw (szT _ (by decide)) rfl (lb rfl) ?_; clear HS; intro w1 HS1; (simp only [Ent.enc, Led.Held.enc, Led.Last.enc, segOf, aL, aZ, aS, putSeg] at HS1); have HS := Aside0.mk HS1; clear HS1)); try simp only [aP, aN, aT, aZ, aS]))
            go_roundw
            case rel => exact ⟨(k : Int) - 1, by omega, by omega, rfl, HB, HS⟩
            case measure => first | (simp [intOf]; done) | (simp [intOf]; omega)
        · have f1 : decide (d.s.si + (k : Int) + 1 ≤ u) = false := by rw [decide_eq_false_iff_not]; exact h1
          rw [if_neg (fun h => h1 h.1)] at hb
          have HB := Aside0.mk (show confB d.s.si u d.log (d.s.si, d.s.nodes) ((k : Int) - 1 + 1).toNat = (ri, rl) by rw [show ((k : Int) - 1 + 1).toNat = k by omega]; exact hb)
          clear hb
          go_wp2_with (first | ((with_reducible refine gLd rfl ?_); refine rd_loadf HRR.out rfl rfl (i := k) 1 (addf ad (k * 9) 1 (by decide)) hlt default ((agT _ (by decide)).trans rfl) (fun e => .int .i64 e.kind) (fun _ => rfl) ?_; intro x hx; obtain rfl := HX.out.symm.trans hx; (try simp only [aP, aN, aT, aZ, aS])) | ((with_reducible refine gLd rfl ?_); refine rd_loadf HRR.out rfl rfl (i := k) 4 (addf ad (k * 9) 4 (by decide)) hlt default ((agT _ (by decide)).trans rfl) (fun e => .slice e.A e.nodes.length e.c) (fun _ => rfl) ?_; intro x hx; obtain rfl := HX.out.symm.trans hx; (try simp only [aP, aN, aT, aZ, aS])) | (go_at_call 44; (with_reducible refine (clone_any x.A x.c x.nodes _ (HXO.out.rd.sh HS.out) HXZ.out).mono ?_); rintro e w2 ⟨A1, c1, S, rfl, HS1⟩;  have HS2 := HS.out.call HS1; clear HS HS1; simp only [aC, aE] at HS2; have HS := Aside0.mk HS2; clear HS2) | ((first | ((first | ((with_reducible refine gA rfl ?_); refine sh_alloc HS.out rfl rfl (zeT _ (by decide)) ?_) | ((with_reducible refine gB rfl ?_); refine bx HS.out rfl rfl ?_; first | refine bv (v := .agg (List.toArray _)) rfl ?_ | refine bv (v := .int _ _) rfl ?_ | refine bv (v := .slice _ _ _) rfl ?_ | refine bv (v := .bool _) rfl ?_ | refine bv (v := .pointer _) rfl ?_) | ((with_reducible refine gL rfl ?_); refine sh_lit HS.out rfl rfl (by go_simp; exact ⟨⟨rfl, rfl⟩, rfl⟩) ?_)); clear HS; intro g w1 hg HS1; (simp only [Ent.enc, Led.Held.enc, Led.Last.enc, zeF, segOf, aL, aC, aE] at HS1); have HS := Aside0.mk HS1; clear HS1) | ((with_reducible refine gLd rfl ?_); refine ld2 HS.out rfl rfl rfl (by repeat (first | exact AtI.here | apply AtI.there)) ?_; (first | refine LdK.one ((agT _ (by decide)).trans rfl) rfl ?_ | (refine LdK.agg ((agT _ (by decide)).trans rfl) (szT _ (by decide)) (lb rfl) ?_; try simp only [szL, aP, aN, aT, aZ, aS, aD, aF, aJ, aK, aM, aO]))) | ((with_reducible refine gSt rfl ?_); refine st2 HS.out rfl rfl rfl rfl (by repeat (first | exact AtI.here | apply AtI.there)) ?_; (first | refine sv (u := .agg (List.toArray _)) rfl ?_ | refine sv (u := .int _ _) rfl ?_ | refine sv (u := .slice _ _ _) rfl ?_ | refine sv (u := .bool _) rfl ?_ | refine sv (u := .pointer _) rfl ?_); refine sw (szT _ (by decide)) rfl (lb rfl) ?_; clear HS; intro w1 HS1; (simp only [Ent.enc, Led.Held.enc, Led.Last.enc, segOf, aL, aZ, aS, putSeg] at HS1); have HS := Aside0.mk HS1; clear HS1)); try simp only [aP, aN, aT, aZ, aS]))
          go_roundw
          case rel => exact ⟨(k : Int) - 1, by omega, by omega, rfl, HB, HS⟩
          case measure => first | (simp [intOf]; done) | (simp [intOf]; omega)
      · obtain rfl : i = -1 := by omega
        have hb : (d.s.si, d.s.nodes) = (ri, rl) := HB.out
        injection hb with e1 e2
        subst e1 e2
        clear HB
        go_upto_region 9 with (first | ((first | ((first | ((with_reducible refine gA rfl ?_); refine sh_alloc HS.out rfl rfl (zeT _ (by decide)) ?_) | ((with_reducible refine gB rfl ?_); refine bx HS.out rfl rfl ?_; first | refine bv (v := .agg (List.toArray _)) rfl ?_ | refine bv (v := .int _ _) rfl ?_ | refine bv (v := .slice _ _ _) rfl ?_ | refine bv (v := .bool _) rfl ?_ | refine bv (v := .pointer _) rfl ?_) | ((with_reducible refine gL rfl ?_); refine sh_lit HS.out rfl rfl (by go_simp; exact ⟨⟨rfl, rfl⟩, rfl⟩) ?_)); clear HS; intro g w1 hg HS1; (simp only [Ent.enc, Led.Held.enc, Led.Last.enc, zeF, segOf, aL, aC, aE] at HS1); have HS := Aside0.mk HS1; clear HS1) | ((with_reducible refine gLd rfl ?_); refine ld2 HS.out rfl rfl rfl (by repeat (first | exact AtI.here | apply AtI.there)) ?_; (first | refine LdK.one ((agT _ (by decide)).trans rfl) rfl ?_ | (refine LdK.agg ((agT _ (by decide)).trans rfl) (szT _ (by decide)) (lb rfl) ?_; try simp only [szL, aP, aN, aT, aZ, aS, aD, aF, aJ, aK, aM, aO]))) | ((with_reducible refine gSt rfl ?_); refine st2 HS.out rfl rfl rfl rfl (by repeat (first | exact AtI.here | apply AtI.there)) ?_; (first | refine sv (u := .agg (List.toArray _)) rfl ?_ | refine sv (u := .int _ _) rfl ?_ | refine sv (u := .slice _ _ _) rfl ?_ | refine sv (u := .bool _) rfl ?_ | refine sv (u := .pointer _) rfl ?_); refine sw (szT _ (by decide)) rfl (lb rfl) ?_; clear HS; intro w1 HS1; (simp only [Ent.enc, Led.Held.enc, Led.Last.enc, segOf, aL, aZ, aS, putSeg] at HS1); have HS := Aside0.mk HS1; clear HS1)); try simp only [aP, aN, aT, aZ, aS]))
        have HZN := Aside0.mk HZ.out.s.n
        have HC := Aside0.mk (HS.out.pick [0] rfl (by decide))
        refine held_start mixed HC.out (fun HC1 => ?_)
        have HS1 := HS.out.drew
        clear HS HC
        have HS := Aside0.mk HS1
        have HC := Aside0.mk HC1
        clear HS1 HC1
        refine h_val 0 (v := _) (by simp only [aG, aH, aI]; rfl) (by kernel_rfl) (by kernel_rfl) (by kernel_rfl) (by exact fun _ _ _ h => h) HC.out (by kernel_rfl) (fun w hs => by (repeat (rename ∀ (_ : Act) (_ : World), _ => hK9; clear hK9)); go_simp; rfl) ?_
        (try simp only [aP, aN, aT, aZ, aS])
        refine h_val 1 (v := _) (by simp only [aG, aH, aI]; rfl) (by kernel_rfl) (by kernel_rfl) (by kernel_rfl) (by exact fun _ _ _ h => h) HC.out (by kernel_rfl) (fun w hs => by (repeat (rename ∀ (_ : Act) (_ : World), _ => hK9; clear hK9)); go_simp; rfl) ?_
        (try simp only [aP, aN, aT, aZ, aS])
        refine h_load 2 (by simp only [aG, aH, aI]; rfl) (by kernel_rfl) (by kernel_rfl) (by kernel_rfl) (by exact fun _ _ _ h => h) HC.out (by kernel_rfl) rfl rfl 0 rfl ((agT _ (by decide)).trans rfl) rfl ?_
        (try simp only [aP, aN, aT, aZ, aS])
        refine h_val 3 (v := _) (by simp only [aG, aH, aI]; rfl) (by kernel_rfl) (by kernel_rfl) (by kernel_rfl) (by exact fun _ _ _ h => h) HC.out (by kernel_rfl) (fun w hs => by (repeat (rename ∀ (_ : Act) (_ : World), _ => hK9; clear hK9)); go_simp; rfl) ?_
        (try simp only [aP, aN, aT, aZ, aS])
        refine h_val 4 (v := _) (by simp only [aG, aH, aI]; rfl) (by kernel_rfl) (by kernel_rfl) (by kernel_rfl) (by exact fun _ _ _ h => h) HC.out (by kernel_rfl) (fun w hs => by (repeat (rename ∀ (_ : Act) (_ : World), _ => hK9; clear hK9)); go_simp; rfl) ?_
        (try simp only [aP, aN, aT, aZ, aS])
        refine h_load 5 (by simp only [aG, aH, aI]; rfl) (by kernel_rfl) (by kernel_rfl) (by kernel_rfl) (by exact fun _ _ _ h => h) HC.out (by kernel_rfl) rfl rfl 0 rfl ((agT _ (by decide)).trans rfl) rfl ?_
        (try simp only [aP, aN, aT, aZ, aS])
        refine h_call 6 (by simp only [aG, aH, aI]; rfl) (by kernel_rfl) (by kernel_rfl) rfl (vs := #[.slice d.s.nA d.s.nodes.length d.s.nc]) (by kernel_rfl) (fnT _ (by decide)) (clone_any d.s.nA d.s.nc d.s.nodes _ (HK.out.s.rn.sh HS.out) HZN.out) (fun e w2 hpost => ?_); obtain ⟨A1, c1, S, rfl, HS2⟩ := hpost; have HS3 := HS.out.call HS2; simp only [aC, aE] at HS3; have HC1 := HS3.pick [0] rfl (by decide); refine ⟨_, rfl, HC1, ?_⟩; clear HS HC HS2; have HS := Aside0.mk HS3; have HC := Aside0.mk HC1; clear HS3 HC1
        (try simp only [aP, aN, aT, aZ, aS])
        refine h_val 7 (v := _) (by simp only [aG, aH, aI]; rfl) (by kernel_rfl) (by kernel_rfl) (by kernel_rfl) (by exact fun _ _ _ h => h) HC.out (by kernel_rfl) (fun w hs => by (repeat (rename ∀ (_ : Act) (_ : World), _ => hK9; clear hK9)); go_simp; rfl) ?_
        (try simp only [aP, aN, aT, aZ, aS])
        refine h_val 8 (v := _) (by simp only [aG, aH, aI]; rfl) (by kernel_rfl) (by kernel_rfl) (by kernel_rfl) (by exact fun _ _ _ h => h) HC.out (by kernel_rfl) (fun w hs => by (repeat (rename ∀ (_ : Act) (_ : World), _ => hK9; clear hK9)); go_simp; rfl) ?_
        (try simp only [aP, aN, aT, aZ, aS])
        refine wpAnyH_done (by kernel_rfl) ?_ _
        go_wp2
        go_ret2
        exact ⟨_, _, rfl, _, HS.out.pick [1] rfl (by decide)⟩
end Go.Proofs.Ytekjihmepdhmeaa.Rlo
