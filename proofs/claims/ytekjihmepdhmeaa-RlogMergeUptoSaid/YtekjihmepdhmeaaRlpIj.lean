import Derived.Test.YtekjihmepdhmeaaRlpFj
/- Lemmas towards the law: what of the text RlpI it needs. -/
namespace Go.Proofs.Ytekjihmepdhmeaa.Rlo
open Go.RowKit Go.Proofs.YtekjihmepdhmeaaW.PrintWords Go.Proofs.Ytekjihmepdhmeaa.Sl
set_option linter.unusedVariables false
set_option linter.unusedSimpArgs false
def ClonePost (d : Hrd) (w : World) (e : Ending) (w' : World) : Prop := ∃ (A1 A2 A3 A4 : Option Addr) (c1 c2 c3 c4 : Nat) (l' : List Ent) (S1 S2 S3 S4 S5 : Nat → Prop), e = .returned (.agg #[.int .u64 d.boot, .int .u64 d.term, .int .i64 d.vote, .int .u64 d.s.si, .int .u64 d.s.st, .slice A1 d.s.nodes.length c1, .int .i64 d.s.lim, .int .u64 d.s.nxt, .slice A2 d.s.held.length c2, .slice A3 d.s.last.length c3, .slice A4 d.log.length c4]) ∧ l'.map Ent.data = d.log.map Ent.data ∧ d.s.held.length ≤ c2 ∧ SH w w' [row (intK .i64) 3 (.slice A1 d.s.nodes.length c1) d.s.nodes S1, row Led.heldK 72 (.slice A2 d.s.held.length c2) d.s.held S2, row Led.lastK 76 (.slice A3 d.s.last.length c3) d.s.last S3, row entK 52 (.slice A4 d.log.length c4) l' S4, nodesI l' S5]
theorem clone_mk {d : Hrd} {w : World} {e : Ending} {w' : World} (h : ∃ (A1 A2 A3 A4 : Option Addr) (c1 c2 c3 c4 : Nat) (l' : List Ent) (S1 S2 S3 S4 S5 : Nat → Prop), e = .returned (.agg #[.int .u64 d.boot, .int .u64 d.term, .int .i64 d.vote, .int .u64 d.s.si, .int .u64 d.s.st, .slice A1 d.s.nodes.length c1, .int .i64 d.s.lim, .int .u64 d.s.nxt, .slice A2 d.s.held.length c2, .slice A3 d.s.last.length c3, .slice A4 d.log.length c4]) ∧ l'.map Ent.data = d.log.map Ent.data ∧ d.s.held.length ≤ c2 ∧ SH w w' [row (intK .i64) 3 (.slice A1 d.s.nodes.length c1) d.s.nodes S1, row Led.heldK 72 (.slice A2 d.s.held.length c2) d.s.held S2, row Led.lastK 76 (.slice A3 d.s.last.length c3) d.s.last S3, row entK 52 (.slice A4 d.log.length c4) l' S4, nodesI l' S5]) : ClonePost d w e w' := h
theorem drop_getD {l l' : List Ent} {k : Nat} {x : Ent} (h : l'.drop k = l.drop k) (hx : l.getD k default = x) : l'.getD k default = x := by
  have h1 := congrArg (fun l => l[0]?) h
  simp only [List.getElem?_drop, Nat.add_zero] at h1
  rw [List.getD_eq_getElem?_getD] at hx ⊢
  rw [h1]; exact hx
theorem set_drop {l l' : List Ent} {k : Nat} (y : Ent) (h : l'.drop k = l.drop k) : (l'.set k y).drop (k + 1) = l.drop (k + 1) := by
  rw [List.drop_set_of_lt (by omega)]
  have h1 := congrArg (List.drop 1) h
  rwa [List.drop_drop, List.drop_drop] at h1
theorem take_set {l : List Ent} {k : Nat} (y : Ent) (hk : k < l.length) : (l.set k y).take (k + 1) = l.take k ++ [y] := by
  rw [List.take_succ_eq_append_getElem (by rw [List.length_set]; exact hk), List.take_set_of_le (by omega), List.getElem_set_self]
set_option maxHeartbeats 6400000 in
set_option maxRecDepth 100000 in
theorem cloneHard_any (d : Hrd) (w : World) (hk : d.ok w) (hz : d.szd) (hh : d.s.held.length ≤ 1000) (hl : d.s.last.length ≤ 1000) (hll : d.log.length * 88 ≤ 140737488351232) : Calls Try.prog 55 #[.agg #[.int .u64 d.boot, .int .u64 d.term, .int .i64 d.vote, .int .u64 d.s.si, .int .u64 d.s.st, .slice d.s.nA d.s.nodes.length d.s.nc, .int .i64 d.s.lim, .int .u64 d.s.nxt, .slice d.s.hA d.s.held.length d.s.hc, .slice d.s.lA d.s.last.length d.s.lc, .slice d.gA d.log.length d.gc]] w (ClonePost d w) := by
  have HK := Aside0.mk hk
  have HZ := Aside0.mk hz
  have hm := hk.rg.len.2
  clear hk hz
  have HS := Aside0.mk (SH.start w)
  go_enter Try.func55, Try.ntmps55
  go_upto_region 2 with (first | (go_at_call 73; (with_reducible refine (cloneEnts_any d.gA d.log.length d.gc d.log _ (HK.out.rg.sh HS.out) hll).mono ?_); rintro e w2 ⟨v, S4, rfl, HS1⟩; obtain ⟨A4, c4, rfl, hc4, _⟩ := row_rd HS1 0 rfl; have HC4 := Aside0.mk hc4; clear hc4; have HS2 := HS.out.call HS1; clear HS HS1; simp only [aC, aE] at HS2; have HS := Aside0.mk HS2; clear HS2) | ((fail_if_success (have _ := b1)); ((with_reducible refine gB rfl ?_); refine bx HS.out rfl rfl ?_; (first | refine bv (v := .agg (List.toArray _)) rfl ?_ | refine bv (v := .int _ _) rfl ?_ | refine bv (v := .slice _ _ _) rfl ?_ | refine bv (v := .bool _) rfl ?_ | refine bv (v := .pointer _) rfl ?_); clear HS; intro b1 w1 hb1 HS1; (simp only [Ent.enc, Led.Held.enc, Led.Last.enc, segOf, aL, aC, aE] at HS1); have HS := Aside0.mk HS1; clear HS1; try simp only [aP, aN, aT, aZ, aS])) | ((fail_if_success (have _ := b2)); ((with_reducible refine gA rfl ?_); refine sh_alloc HS.out rfl rfl (zeT _ (by decide)) ?_; clear HS; intro b2 w1 hb2 HS1; (simp only [Ent.enc, Led.Held.enc, Led.Last.enc, zeF, segOf, aL, aC, aE] at HS1); have HS := Aside0.mk HS1; clear HS1; try simp only [aP, aN, aT, aZ, aS])) | ((first | ((first | ((with_reducible refine gA rfl ?_); refine sh_alloc HS.out rfl rfl (zeT _ (by decide)) ?_) | ((with_reducible refine gB rfl ?_); refine bx HS.out rfl rfl ?_; first | refine bv (v := .agg (List.toArray _)) rfl ?_ | refine bv (v := .int _ _) rfl ?_ | refine bv (v := .slice _ _ _) rfl ?_ | refine bv (v := .bool _) rfl ?_ | refine bv (v := .pointer _) rfl ?_) | ((with_reducible refine gL rfl ?_); refine sh_lit HS.out rfl rfl (by go_simp; exact ⟨⟨rfl, rfl⟩, rfl⟩) ?_)); clear HS; intro g w1 hg HS1; (simp only [Ent.enc, Led.Held.enc, Led.Last.enc, zeF, segOf, aL, aC, aE] at HS1); have HS := Aside0.mk HS1; clear HS1) | ((with_reducible refine gLd rfl ?_); refine ld2 HS.out rfl rfl rfl (by repeat (first | exact AtI.here | apply AtI.there)) ?_; (first | refine LdK.one ((agT _ (by decide)).trans rfl) rfl ?_ | (refine LdK.agg ((agT _ (by decide)).trans rfl) (szT _ (by decide)) (lb rfl) ?_; try simp only [szL, aP, aN, aT, aZ, aS, aD, aF, aJ, aK, aM, aO]))) | ((with_reducible refine gSt rfl ?_); refine st2 HS.out rfl rfl rfl rfl (by repeat (first | exact AtI.here | apply AtI.there)) ?_; (first | refine sv (u := .agg (List.toArray _)) rfl ?_ | refine sv (u := .int _ _) rfl ?_ | refine sv (u := .slice _ _ _) rfl ?_ | refine sv (u := .bool _) rfl ?_ | refine sv (u := .pointer _) rfl ?_); refine sw (szT _ (by decide)) rfl (lb rfl) ?_; clear HS; intro w1 HS1; (simp only [Ent.enc, Led.Held.enc, Led.Last.enc, segOf, aL, aZ, aS, putSeg] at HS1); have HS := Aside0.mk HS1; clear HS1)); try simp only [aP, aN, aT, aZ, aS]))
  by_cases h0 : 0 < d.log.length
  · obtain ⟨g4, tl, had, _, _, hc63, hlen, HS1⟩ := HS.out.rowBlkF (hl := Ent.len) (h1 := Ent.one) 2 rfl h0
    subst had
    have HLEN := Aside0.mk hlen
    have HC63 := Aside0.mk hc63
    simp only [aZ, aS] at HS1
    clear HS hlen hc63
    have HS := Aside0.mk (HS1.push (Below.refl _ _) (i := nodesI ([] : List Ent) (fun _ => False)) (fun e he => by cases he) (fun b hb => hb.elim))
    clear HS1
    simp only [aC, aE] at HS
    go_wp2_with (first | ((first | ((first | ((with_reducible refine gA rfl ?_); refine sh_alloc HS.out rfl rfl (zeT _ (by decide)) ?_) | ((with_reducible refine gB rfl ?_); refine bx HS.out rfl rfl ?_; first | refine bv (v := .agg (List.toArray _)) rfl ?_ | refine bv (v := .int _ _) rfl ?_ | refine bv (v := .slice _ _ _) rfl ?_ | refine bv (v := .bool _) rfl ?_ | refine bv (v := .pointer _) rfl ?_) | ((with_reducible refine gL rfl ?_); refine sh_lit HS.out rfl rfl (by go_simp; exact ⟨⟨rfl, rfl⟩, rfl⟩) ?_)); clear HS; intro g w1 hg HS1; (simp only [Ent.enc, Led.Held.enc, Led.Last.enc, zeF, segOf, aL, aC, aE] at HS1); have HS := Aside0.mk HS1; clear HS1) | ((with_reducible refine gLd rfl ?_); refine ld2 HS.out rfl rfl rfl (by repeat (first | exact AtI.here | apply AtI.there)) ?_; (first | refine LdK.one ((agT _ (by decide)).trans rfl) rfl ?_ | (refine LdK.agg ((agT _ (by decide)).trans rfl) (szT _ (by decide)) (lb rfl) ?_; try simp only [szL, aP, aN, aT, aZ, aS, aD, aF, aJ, aK, aM, aO]))) | ((with_reducible refine gSt rfl ?_); refine st2 HS.out rfl rfl rfl rfl (by repeat (first | exact AtI.here | apply AtI.there)) ?_; (first | refine sv (u := .agg (List.toArray _)) rfl ?_ | refine sv (u := .int _ _) rfl ?_ | refine sv (u := .slice _ _ _) rfl ?_ | refine sv (u := .bool _) rfl ?_ | refine sv (u := .pointer _) rfl ?_); refine sw (szT _ (by decide)) rfl (lb rfl) ?_; clear HS; intro w1 HS1; (simp only [Ent.enc, Led.Held.enc, Led.Last.enc, segOf, aL, aZ, aS, putSeg] at HS1); have HS := Aside0.mk HS1; clear HS1)); try simp only [aP, aN, aT, aZ, aS]))
    go_loopw [3, 11] (fun _ v11 wr => ∃ (k : Nat) (l' : List Ent) (S5 : Nat → Prop), k ≤ d.log.length ∧ v11 = .int .i64 k ∧ Aside0 (l'.map Ent.data = d.log.map Ent.data) ∧ Aside0 (l'.drop k = d.log.drop k) ∧ Aside0 ((l'.flatMap Ent.enc ++ tl).length = c4 * 9) ∧ Aside0 (SH w wr [blk b1 [.int .u64 d.boot, .int .u64 d.term, .int .i64 d.vote, .int .u64 d.s.si, .int .u64 d.s.st, .slice d.s.nA d.s.nodes.length d.s.nc, .int .i64 d.s.lim, .int .u64 d.s.nxt, .slice d.s.hA d.s.held.length d.s.hc, .slice d.s.lA d.s.last.length d.s.lc, .slice (some ⟨g4, 0, none⟩) d.log.length c4] 32, blk b2 [.int .u64 0, .int .u64 0, .int .i64 0, .int .u64 0, .int .u64 0, .slice none 0 0, .int .i64 0, .int .u64 0, .slice none 0 0, .slice none 0 0, .slice none 0 0] 32, blk g4 (l'.flatMap Ent.enc ++ tl) 52, nodesI (l'.take k) S5])) (fun _ v11 _ => d.log.length - (intOf v11).toNat)
    case atStart => exact ⟨0, d.log, _, Nat.zero_le _, rfl, ⟨rfl⟩, ⟨rfl⟩, HLEN, HS⟩
    case round =>
      clear HS
      obtain ⟨k, l', S5, hk, rfl, HD, HDR, HLE, HS⟩ := hrel
      have hl' : l'.length = d.log.length := by
        have := congrArg List.length HD.out
        rwa [List.length_map, List.length_map] at this
      have HLL := Aside0.mk hl'
      by_cases hlt : k < d.log.length
      · obtain ⟨x, hx⟩ : ∃ x, d.log.getD k default = x := ⟨_, rfl⟩
        have hxm : x ∈ d.log := getD_in hlt hx
        have HXO := Aside0.mk (HK.out.re x hxm)
        have HXZ := Aside0.mk (HZ.out.e x hxm)
        have hx' := drop_getD HDR.out hx
        have HX := Aside0.mk hx'
        obtain ⟨cs, hcs⟩ : ∃ cs, l'.flatMap Ent.enc ++ tl = cs := ⟨_, rfl⟩
        have HCV := Aside0.mk (show cs[k * 9 + 1 + 3]? = some (.slice x.A x.nodes.length x.c) by
          rw [← hcs, Nat.add_assoc, flat_at Ent.len l' tl default (by omega) hx' (j := 1 + 3) (by omega)]
          rfl)
        have HSC := Aside0.mk (fun (A : Option Addr) (c : Nat) => Led.set_cells Ent.len l' tl k (1 + 3) (by omega) default (x.at A c) (.slice A x.nodes.length c) (by decide) (by rw [hx']; rfl))
        rw [hcs] at HSC HS HLE
        have HCS := Aside0.mk hcs
        have hcl : cs.length = c4 * 9 := HLE.out
        have hfit : k * 9 + 9 ≤ cs.length := by
          have h1 := congrArg List.length hcs
          rw [List.length_append, length_flat Ent.len] at h1
          omega
        clear hx hx' hxm hcs hl'
        go_upto_region 5 with (first | ((first | ((first | ((with_reducible refine gA rfl ?_); refine sh_alloc HS.out rfl rfl (zeT _ (by decide)) ?_) | ((with_reducible refine gB rfl ?_); refine bx HS.out rfl rfl ?_; first | refine bv (v := .agg (List.toArray _)) rfl ?_ | refine bv (v := .int _ _) rfl ?_ | refine bv (v := .slice _ _ _) rfl ?_ | refine bv (v := .bool _) rfl ?_ | refine bv (v := .pointer _) rfl ?_) | ((with_reducible refine gL rfl ?_); refine sh_lit HS.out rfl rfl (by go_simp; exact ⟨⟨rfl, rfl⟩, rfl⟩) ?_)); clear HS; intro g w1 hg HS1; (simp only [Ent.enc, Led.Held.enc, Led.Last.enc, zeF, segOf, aL, aC, aE] at HS1); have HS := Aside0.mk HS1; clear HS1) | ((with_reducible refine gLd rfl ?_); refine ld2 HS.out rfl rfl rfl (by repeat (first | exact AtI.here | apply AtI.there)) ?_; (first | refine LdK.one ((agT _ (by decide)).trans rfl) rfl ?_ | (refine LdK.agg ((agT _ (by decide)).trans rfl) (szT _ (by decide)) (lb rfl) ?_; try simp only [szL, aP, aN, aT, aZ, aS, aD, aF, aJ, aK, aM, aO]))) | ((with_reducible refine gSt rfl ?_); refine st2 HS.out rfl rfl rfl rfl (by repeat (first | exact AtI.here | apply AtI.there)) ?_; (first | refine sv (u := .agg (List.toArray _)) rfl ?_ | refine sv (u := .int _ _) rfl ?_ | refine sv (u := .slice _ _ _) rfl ?_ | refine sv (u := .bool _) rfl ?_ | refine sv (u := .pointer _) rfl ?_); refine sw (szT _ (by decide)) rfl (lb rfl) ?_; clear HS; intro w1 HS1; (simp only [Ent.enc, Led.Held.enc, Led.Last.enc, segOf, aL, aZ, aS, putSeg] at HS1); have HS := Aside0.mk HS1; clear HS1)); try simp only [aP, aN, aT, aZ, aS]))
        have HC := Aside0.mk (HS.out.pick [0, 2] rfl (by decide))
        refine kheld_start [14] mixed HC.out (fun HC1 => ?_)
        have HS1 := HS.out.drew
        clear HS HC
        have HS := Aside0.mk HS1
        have HC := Aside0.mk HC1
        clear HS1 HC1
        refine k_any 0 (v := _) (by simp only [aG, aH, aI]; rfl) (by kernel_rfl) (by kernel_rfl) (by kernel_rfl) (by kernel_rfl) (by exact fun _ _ _ h => h) (.inr HC.out) (by kernel_rfl) (fun w => by (repeat (rename ∀ (_ : Act) (_ : World), _ => hK9; clear hK9)); go_simp; rfl) ?_
        (try simp only [aP, aN, aT, aZ, aS])
        refine k_load 1 (by simp only [aG, aH, aI]; rfl) (by kernel_rfl) (by kernel_rfl) (by kernel_rfl) (by kernel_rfl) (by exact fun _ _ _ h => h) HC.out (by kernel_rfl) rfl rfl 0 rfl ((agT _ (by decide)).trans rfl) rfl ?_
        (try simp only [aP, aN, aT, aZ, aS])
        refine k_any 2 (v := _) (by simp only [aG, aH, aI]; rfl) (by kernel_rfl) (by kernel_rfl) (by kernel_rfl) (by kernel_rfl) (by exact fun _ _ _ h => h) (.inr HC.out) (by kernel_rfl) (fun w => by (repeat (rename ∀ (_ : Act) (_ : World), _ => hK9; clear hK9)); go_simp; rfl) ?_
        (try simp only [aP, aN, aT, aZ, aS])
        refine k_any 3 (v := _) (by simp only [aG, aH, aI]; rfl) (by kernel_rfl) (by kernel_rfl) (by kernel_rfl) (by kernel_rfl) (by exact fun _ _ _ h => h) (.inr HC.out) (by kernel_rfl) (fun w => by (repeat (rename ∀ (_ : Act) (_ : World), _ => hK9; clear hK9)); go_simp; rfl) ?_
        (try simp only [aP, aN, aT, aZ, aS])
        refine k_load 4 (by simp only [aG, aH, aI]; rfl) (by kernel_rfl) (by kernel_rfl) (by kernel_rfl) (by kernel_rfl) (by exact fun _ _ _ h => h) HC.out (by kernel_rfl) rfl rfl 0 rfl ((agT _ (by decide)).trans rfl) rfl ?_
        (try simp only [aP, aN, aT, aZ, aS])
        refine k_any 5 (v := _) (by simp only [aG, aH, aI]; rfl) (by kernel_rfl) (by kernel_rfl) (by kernel_rfl) (by kernel_rfl) (by exact fun _ _ _ h => h) (.inr HC.out) (by kernel_rfl) (fun w => by (repeat (rename ∀ (_ : Act) (_ : World), _ => hK9; clear hK9)); go_simp; rfl) ?_
        (try simp only [aP, aN, aT, aZ, aS])
        refine k_any 6 (v := _) (by simp only [aG, aH, aI]; rfl) (by kernel_rfl) (by kernel_rfl) (by kernel_rfl) (by kernel_rfl) (by exact fun _ _ _ h => h) (.inr HC.out) (by kernel_rfl) (fun w => by (repeat (rename ∀ (_ : Act) (_ : World), _ => hK9; clear hK9)); go_simp; rfl) ?_
        (try simp only [aP, aN, aT, aZ, aS])
        refine k_any 7 (v := _) (by simp only [aG, aH, aI]; rfl) (by kernel_rfl) (by kernel_rfl) (by kernel_rfl) (by kernel_rfl) (by exact fun _ _ _ h => h) (.inr HC.out) (by kernel_rfl) (fun w => by (repeat (rename ∀ (_ : Act) (_ : World), _ => hK9; clear hK9)); go_simp; rfl) ?_
        (try simp only [aP, aN, aT, aZ, aS])
        refine k_any 8 (v := _) (by simp only [aG, aH, aI]; rfl) (by kernel_rfl) (by kernel_rfl) (by kernel_rfl) (by kernel_rfl) (by exact fun _ _ _ h => h) (.inr HC.out) (by kernel_rfl) (fun w => by (repeat (rename ∀ (_ : Act) (_ : World), _ => hK9; clear hK9)); go_simp; rfl) ?_
        (try simp only [aP, aN, aT, aZ, aS])
        refine k_one 9 (by simp only [aG, aH, aI]; rfl) (by kernel_rfl) ?_
        ((with_reducible refine gLd rfl ?_); refine sh_loadX HS.out rfl rfl (i := k * 9 + 1 + 3) rfl 2 rfl ((agT _ (by decide)).trans rfl) HCV.out ?_; try simp only [aP, aN, aT, aZ, aS])
        have HC1 := HS.out.pick [0, 2] rfl (by decide)
        clear HC
        have HC := Aside0.mk HC1
        clear HC1
        refine k_nil (.inr HC.out) ?_
        (try simp only [aP, aN, aT, aZ, aS])
        refine k_call 10 (by simp only [aG, aH, aI]; rfl) (by kernel_rfl) (by kernel_rfl) rfl (vs := #[.slice x.A x.nodes.length x.c]) (by kernel_rfl) (fnT _ (by decide)) (clone_any x.A x.c x.nodes _ (HXO.out.rd.sh HS.out) HXZ.out) (fun e w2 hpost => ?_); obtain ⟨A', c', S', rfl, HS2⟩ := hpost; have HSN := (show SH w w2 [_, _, _, _, _] from HS.out.call HS2); have HC1 := HSN.pick [0, 2] rfl (by decide); refine ⟨_, rfl, HC1, ?_⟩; clear HS HC; have HS := Aside0.mk HSN; have HC := Aside0.mk HC1; clear HSN HC1
        (try simp only [aP, aN, aT, aZ, aS])
        refine k_any 11 (v := _) (by simp only [aG, aH, aI]; rfl) (by kernel_rfl) (by kernel_rfl) (by kernel_rfl) (by kernel_rfl) (by exact fun _ _ _ h => h) (.inr HC.out) (by kernel_rfl) (fun w => by (repeat (rename ∀ (_ : Act) (_ : World), _ => hK9; clear hK9)); go_simp; rfl) ?_
        (try simp only [aP, aN, aT, aZ, aS])
        refine k_any 12 (v := _) (by simp only [aG, aH, aI]; rfl) (by kernel_rfl) (by kernel_rfl) (by kernel_rfl) (by kernel_rfl) (by exact fun _ _ _ h => h) (.inr HC.out) (by kernel_rfl) (fun w => by (repeat (rename ∀ (_ : Act) (_ : World), _ => hK9; clear hK9)); go_simp; rfl) ?_
        (try simp only [aP, aN, aT, aZ, aS])
        refine k_any 13 (v := _) (by simp only [aG, aH, aI]; rfl) (by kernel_rfl) (by kernel_rfl) (by kernel_rfl) (by kernel_rfl) (by exact fun _ _ _ h => h) (.inr HC.out) (by kernel_rfl) (fun w => by (repeat (rename ∀ (_ : Act) (_ : World), _ => hK9; clear hK9)); go_simp; rfl) ?_
        (try simp only [aP, aN, aT, aZ, aS])
        refine k_one 14 (by simp only [aG, aH, aI]; rfl) (by kernel_rfl) ?_
        ((with_reducible refine gSt rfl ?_); refine sh_storeX HS.out rfl rfl rfl (i := k * 9 + (1 + 3)) rfl 2 rfl (u := (.slice A' x.nodes.length c')) rfl rfl (szT _ (by decide)) rfl (by omega) ?_; clear HS; intro w1 HS1; (simp only [aZ, aS] at HS1); have HS := Aside0.mk HS1; clear HS1; try simp only [aP, aN, aT, aZ, aS])
        refine k_nil (.inl (by kernel_rfl)) ?_
        (try simp only [aP, aN, aT, aZ, aS])
        refine k_done (by kernel_rfl) ?_ _
        obtain ⟨l2, hl2⟩ : ∃ l2, l'.set k (x.at A' c') = l2 := ⟨_, rfl⟩
        have HS1 := (HS.out.toRd (hl := ints_len .i64) (h1 := ints_one .i64) 4 rfl).merge 3 4 (by decide) (i' := nodesI (l2.take (k + 1)) (fun b => S5 b ∨ S' b)) rfl rfl (fun k1 k2 e he => by
          rw [← hl2, take_set _ (by rw [HLL.out]; exact hlt)] at he
          rcases List.mem_append.1 he with h1 | h1
          · exact ⟨(k1 e h1).1, (k1 e h1).2.mono (fun b hb => .inl hb)⟩
          · obtain rfl := List.mem_singleton.1 h1
            exact ⟨{ (HXO.out.sh HS.out) with rd := k2.1 }, k2.2.mono (fun b hb => .inr hb)⟩) (fun b hb => hb)
        have hcs2 := HSC.out A' c'
        rw [hl2] at hcs2
        have HS2 := (show SH w _ [blk b1 [.int .u64 d.boot, .int .u64 d.term, .int .i64 d.vote, .int .u64 d.s.si, .int .u64 d.s.st, .slice d.s.nA d.s.nodes.length d.s.nc, .int .i64 d.s.lim, .int .u64 d.s.nxt, .slice d.s.hA d.s.held.length d.s.hc, .slice d.s.lA d.s.last.length d.s.lc, .slice (some ⟨g4, 0, none⟩) d.log.length c4] 32, blk b2 [.int .u64 0, .int .u64 0, .int .i64 0, .int .u64 0, .int .u64 0, .slice none 0 0, .int .i64 0, .int .u64 0, .slice none 0 0, .slice none 0 0, .slice none 0 0] 32, blk g4 (cs.set (k * 9 + (1 + 3)) (.slice A' x.nodes.length c')) 52, nodesI (l2.take (k + 1)) (fun b => S5 b ∨ S' b)] from HS1.pick [0, 1, 2, 3] rfl (by decide))
        have hlen2 : (l2.flatMap Ent.enc ++ tl).length = c4 * 9 := by rw [← hcs2, List.length_set]; exact HLE.out
        have hdata2 : l2.map Ent.data = d.log.map Ent.data := by rw [← hl2]; exact (data_set rfl k A' c' (by rw [HLL.out]; exact hlt) HX.out).trans HD.out
        have hdrop2 : l2.drop (k + 1) = d.log.drop (k + 1) := by rw [← hl2]; exact set_drop _ HDR.out
        have HFIN := Aside0.mk (And.intro hdata2 (And.intro hdrop2 hlen2))
        rw [hcs2] at HS2
        clear HS HS1 hcs2 hlen2 hdata2 hdrop2 hl2
        have HS := Aside0.mk HS2
        clear HS2
        go_wp2_with (first | ((first | ((first | ((with_reducible refine gA rfl ?_); refine sh_alloc HS.out rfl rfl (zeT _ (by decide)) ?_) | ((with_reducible refine gB rfl ?_); refine bx HS.out rfl rfl ?_; first | refine bv (v := .agg (List.toArray _)) rfl ?_ | refine bv (v := .int _ _) rfl ?_ | refine bv (v := .slice _ _ _) rfl ?_ | refine bv (v := .bool _) rfl ?_ | refine bv (v := .pointer _) rfl ?_) | ((with_reducible refine gL rfl ?_); refine sh_lit HS.out rfl rfl (by go_simp; exact ⟨⟨rfl, rfl⟩, rfl⟩) ?_)); clear HS; intro g w1 hg HS1; (simp only [Ent.enc, Led.Held.enc, Led.Last.enc, zeF, segOf, aL, aC, aE] at HS1); have HS := Aside0.mk HS1; clear HS1) | ((with_reducible refine gLd rfl ?_); refine ld2 HS.out rfl rfl rfl (by repeat (first | exact AtI.here | apply AtI.there)) ?_; (first | refine LdK.one ((agT _ (by decide)).trans rfl) rfl ?_ | (refine LdK.agg ((agT _ (by decide)).trans rfl) (szT _ (by decide)) (lb rfl) ?_; try simp only [szL, aP, aN, aT, aZ, aS, aD, aF, aJ, aK, aM, aO]))) | ((with_reducible refine gSt rfl ?_); refine st2 HS.out rfl rfl rfl rfl (by repeat (first | exact AtI.here | apply AtI.there)) ?_; (first | refine sv (u := .agg (List.toArray _)) rfl ?_ | refine sv (u := .int _ _) rfl ?_ | refine sv (u := .slice _ _ _) rfl ?_ | refine sv (u := .bool _) rfl ?_ | refine sv (u := .pointer _) rfl ?_); refine sw (szT _ (by decide)) rfl (lb rfl) ?_; clear HS; intro w1 HS1; (simp only [Ent.enc, Led.Held.enc, Led.Last.enc, segOf, aL, aZ, aS, putSeg] at HS1); have HS := Aside0.mk HS1; clear HS1)); try simp only [aP, aN, aT, aZ, aS]))
        go_roundw
        case rel => exact ⟨k + 1, l2, _, by omega, by go_num, ⟨HFIN.out.1⟩, ⟨HFIN.out.2.1⟩, ⟨HFIN.out.2.2⟩, HS⟩
        case measure => simp [intOf]; omega
      · obtain rfl : k = d.log.length := by omega
        have HS1 := HS.out.blkRowF Ent.len Ent.one 2 rfl l' tl (k := d.log.length) (c := c4) hl'.symm rfl HLE.out HC4.out HC63.out
        simp only [aZ, aS] at HS1
        rw [List.take_of_length_le (by omega)] at HS1
        clear HS
        have HS := Aside0.mk HS1
        clear HS1
        go_wp2_with (first | (go_at_call 74; (with_reducible refine (cloneShot_any d.s _ (HK.out.s.sh HS.out) HZ.out.s (by omega) (by omega)).mono ?_); rintro e w2 ⟨A1, c1, A2, c2, A3, c3, S1, S2, S3, rfl, hc2, HS1⟩; have HC2 := Aside0.mk hc2; clear hc2; have HS2 := HS.out.call HS1; clear HS HS1; simp only [aC, aE] at HS2; have HS := Aside0.mk HS2; clear HS2) | ((first | ((first | ((with_reducible refine gA rfl ?_); refine sh_alloc HS.out rfl rfl (zeT _ (by decide)) ?_) | ((with_reducible refine gB rfl ?_); refine bx HS.out rfl rfl ?_; first | refine bv (v := .agg (List.toArray _)) rfl ?_ | refine bv (v := .int _ _) rfl ?_ | refine bv (v := .slice _ _ _) rfl ?_ | refine bv (v := .bool _) rfl ?_ | refine bv (v := .pointer _) rfl ?_) | ((with_reducible refine gL rfl ?_); refine sh_lit HS.out rfl rfl (by go_simp; exact ⟨⟨rfl, rfl⟩, rfl⟩) ?_)); clear HS; intro g w1 hg HS1; (simp only [Ent.enc, Led.Held.enc, Led.Last.enc, zeF, segOf, aL, aC, aE] at HS1); have HS := Aside0.mk HS1; clear HS1) | ((with_reducible refine gLd rfl ?_); refine ld2 HS.out rfl rfl rfl (by repeat (first | exact AtI.here | apply AtI.there)) ?_; (first | refine LdK.one ((agT _ (by decide)).trans rfl) rfl ?_ | (refine LdK.agg ((agT _ (by decide)).trans rfl) (szT _ (by decide)) (lb rfl) ?_; try simp only [szL, aP, aN, aT, aZ, aS, aD, aF, aJ, aK, aM, aO]))) | ((with_reducible refine gSt rfl ?_); refine st2 HS.out rfl rfl rfl rfl (by repeat (first | exact AtI.here | apply AtI.there)) ?_; (first | refine sv (u := .agg (List.toArray _)) rfl ?_ | refine sv (u := .int _ _) rfl ?_ | refine sv (u := .slice _ _ _) rfl ?_ | refine sv (u := .bool _) rfl ?_ | refine sv (u := .pointer _) rfl ?_); refine sw (szT _ (by decide)) rfl (lb rfl) ?_; clear HS; intro w1 HS1; (simp only [Ent.enc, Led.Held.enc, Led.Last.enc, segOf, aL, aZ, aS, putSeg] at HS1); have HS := Aside0.mk HS1; clear HS1)); try simp only [aP, aN, aT, aZ, aS]))
        refine bodyPost_ret (results_cell_row rfl _ _ _ _ _ _ _ rfl (HS.out.blk 1 rfl) Try.underlying32 rfl ((szT _ (by decide)).trans rfl)) rfl ?_
        exact clone_mk ⟨A1, A2, A3, _, c1, c2, c3, c4, l', S1, S2, S3, _, S5, rfl, HD.out, HC2.out, HS.out.pick [4, 5, 6, 2, 3] rfl (by decide)⟩
  · have h00 : d.log.length = 0 := by omega
    have hlog : d.log = [] := List.length_eq_zero_iff.1 h00
    have HLG := Aside0.mk hlog
    clear hlog
    have HS2 := HS.out.push (Below.refl _ _) (i := nodesI d.log (fun _ => False)) (fun e he => by rw [HLG.out] at he; cases he) (fun b hb => hb.elim)
    clear HS
    have HS := Aside0.mk HS2
    clear HS2
    simp only [aC, aE] at HS
    obtain ⟨dl, hdl⟩ : ∃ dl : Nat, d.log.length = dl := ⟨_, rfl⟩
    go_wp2_with (first | ((first | ((first | ((with_reducible refine gA rfl ?_); refine sh_alloc HS.out rfl rfl (zeT _ (by decide)) ?_) | ((with_reducible refine gB rfl ?_); refine bx HS.out rfl rfl ?_; first | refine bv (v := .agg (List.toArray _)) rfl ?_ | refine bv (v := .int _ _) rfl ?_ | refine bv (v := .slice _ _ _) rfl ?_ | refine bv (v := .bool _) rfl ?_ | refine bv (v := .pointer _) rfl ?_) | ((with_reducible refine gL rfl ?_); refine sh_lit HS.out rfl rfl (by go_simp; exact ⟨⟨rfl, rfl⟩, rfl⟩) ?_)); clear HS; intro g w1 hg HS1; (simp only [Ent.enc, Led.Held.enc, Led.Last.enc, zeF, segOf, aL, aC, aE] at HS1); have HS := Aside0.mk HS1; clear HS1) | ((with_reducible refine gLd rfl ?_); refine ld2 HS.out rfl rfl rfl (by repeat (first | exact AtI.here | apply AtI.there)) ?_; (first | refine LdK.one ((agT _ (by decide)).trans rfl) rfl ?_ | (refine LdK.agg ((agT _ (by decide)).trans rfl) (szT _ (by decide)) (lb rfl) ?_; try simp only [szL, aP, aN, aT, aZ, aS, aD, aF, aJ, aK, aM, aO]))) | ((with_reducible refine gSt rfl ?_); refine st2 HS.out rfl rfl rfl rfl (by repeat (first | exact AtI.here | apply AtI.there)) ?_; (first | refine sv (u := .agg (List.toArray _)) rfl ?_ | refine sv (u := .int _ _) rfl ?_ | refine sv (u := .slice _ _ _) rfl ?_ | refine sv (u := .bool _) rfl ?_ | refine sv (u := .pointer _) rfl ?_); refine sw (szT _ (by decide)) rfl (lb rfl) ?_; clear HS; intro w1 HS1; (simp only [Ent.enc, Led.Held.enc, Led.Last.enc, segOf, aL, aZ, aS, putSeg] at HS1); have HS := Aside0.mk HS1; clear HS1)); try simp only [aP, aN, aT, aZ, aS]))
    go_loopw [3, 11] (fun _ v11 wr => v11 = .int .i64 0 ∧ Aside0 (SH w wr [blk b1 [.int .u64 d.boot, .int .u64 d.term, .int .i64 d.vote, .int .u64 d.s.si, .int .u64 d.s.st, .slice d.s.nA d.s.nodes.length d.s.nc, .int .i64 d.s.lim, .int .u64 d.s.nxt, .slice d.s.hA d.s.held.length d.s.hc, .slice d.s.lA d.s.last.length d.s.lc, .slice A4 d.log.length c4] 32, blk b2 [.int .u64 0, .int .u64 0, .int .i64 0, .int .u64 0, .int .u64 0, .slice none 0 0, .int .i64 0, .int .u64 0, .slice none 0 0, .slice none 0 0, .slice none 0 0] 32, row entK 52 (.slice A4 d.log.length c4) d.log S4, nodesI d.log (fun _ => False)])) (fun _ _ _ => 0)
    case atStart => exact ⟨rfl, HS⟩
    case round =>
      clear HS
      obtain ⟨rfl, HS⟩ := hrel
      go_wp2_with (first | (go_at_call 74; (with_reducible refine (cloneShot_any d.s _ (HK.out.s.sh HS.out) HZ.out.s (by omega) (by omega)).mono ?_); rintro e w2 ⟨A1, c1, A2, c2, A3, c3, S1, S2, S3, rfl, hc2, HS1⟩; have HC2 := Aside0.mk hc2; clear hc2; have HS2 := HS.out.call HS1; clear HS HS1; simp only [aC, aE] at HS2; have HS := Aside0.mk HS2; clear HS2) | ((first | ((first | ((with_reducible refine gA rfl ?_); refine sh_alloc HS.out rfl rfl (zeT _ (by decide)) ?_) | ((with_reducible refine gB rfl ?_); refine bx HS.out rfl rfl ?_; first | refine bv (v := .agg (List.toArray _)) rfl ?_ | refine bv (v := .int _ _) rfl ?_ | refine bv (v := .slice _ _ _) rfl ?_ | refine bv (v := .bool _) rfl ?_ | refine bv (v := .pointer _) rfl ?_) | ((with_reducible refine gL rfl ?_); refine sh_lit HS.out rfl rfl (by go_simp; exact ⟨⟨rfl, rfl⟩, rfl⟩) ?_)); clear HS; intro g w1 hg HS1; (simp only [Ent.enc, Led.Held.enc, Led.Last.enc, zeF, segOf, aL, aC, aE] at HS1); have HS := Aside0.mk HS1; clear HS1) | ((with_reducible refine gLd rfl ?_); refine ld2 HS.out rfl rfl rfl (by repeat (first | exact AtI.here | apply AtI.there)) ?_; (first | refine LdK.one ((agT _ (by decide)).trans rfl) rfl ?_ | (refine LdK.agg ((agT _ (by decide)).trans rfl) (szT _ (by decide)) (lb rfl) ?_; try simp only [szL, aP, aN, aT, aZ, aS, aD, aF, aJ, aK, aM, aO]))) | ((with_reducible refine gSt rfl ?_); refine st2 HS.out rfl rfl rfl rfl (by repeat (first | exact AtI.here | apply AtI.there)) ?_; (first | refine sv (u := .agg (List.toArray _)) rfl ?_ | refine sv (u := .int _ _) rfl ?_ | refine sv (u := .slice _ _ _) rfl ?_ | refine sv (u := .bool _) rfl ?_ | refine sv (u := .pointer _) rfl ?_); refine sw (szT _ (by decide)) rfl (lb rfl) ?_; clear HS; intro w1 HS1; (simp only [Ent.enc, Led.Held.enc, Led.Last.enc, segOf, aL, aZ, aS, putSeg] at HS1); have HS := Aside0.mk HS1; clear HS1)); try simp only [aP, aN, aT, aZ, aS]))
      refine bodyPost_ret (results_cell_row rfl _ _ _ _ _ _ _ rfl (HS.out.blk 1 rfl) Try.underlying32 rfl ((szT _ (by decide)).trans rfl)) rfl ?_
      exact clone_mk ⟨A1, A2, A3, A4, c1, c2, c3, c4, d.log, S1, S2, S3, S4, _, rfl, rfl, HC2.out, HS.out.pick [4, 5, 6, 2, 3] rfl (by decide)⟩
end Go.Proofs.Ytekjihmepdhmeaa.Rlo

