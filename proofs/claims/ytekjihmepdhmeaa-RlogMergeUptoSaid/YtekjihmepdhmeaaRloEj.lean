import Derived.Test.YtekjihmepdhmeaaRloDj
import Derived.Test.YtekjihmepdhmeaaSlXq
/- Lemmas towards the law: what of the text RloE it needs. -/
namespace Go.Proofs.Ytekjihmepdhmeaa.Rlo
open Go.RowKit Go.Proofs.YtekjihmepdhmeaaW.PrintWords Go.Proofs.Ytekjihmepdhmeaa.Sl
set_option linter.unusedVariables false
set_option linter.unusedSimpArgs false
set_option maxHeartbeats 1600000 in
set_option maxRecDepth 100000 in
theorem sameLed_any (A B A' B' : Option Addr) (c c' d d' : Nat) (lim nxt : Int) (l : List Held) (m : List Last) (w : World) (hr : Rd Led.Held.enc 5 w A l.length l) (hr' : Rd Led.Last.enc 6 w B m.length m) (hs : Rd Led.Held.enc 5 w A' l.length l) (hs' : Rd Led.Last.enc 6 w B' m.length m) :
    Calls Try.prog 62 #[.agg #[.int .i64 lim, .int .u64 nxt, .slice A l.length c, .slice B m.length c'], .agg #[.int .i64 lim, .int .u64 nxt, .slice A' l.length d, .slice B' m.length d']] w (fun e w' => e = .returned (.bool true) ∧ Below w.heap.size w w') := by
  have hm := hr.len.2
  have hm' := hr'.len.2
  have HR := Aside0.mk hr
  have HR' := Aside0.mk hr'
  have HT := Aside0.mk hs
  have HT' := Aside0.mk hs'
  clear hr hr' hs hs'
  have HS := Aside0.mk (SH.start w)
  go_enter Try.func62, Try.ntmps62
  go_upto_region 1 with (first | ((with_reducible refine gB rfl ?_); refine sh_box (is := []) HS.out rfl rfl (v := (.agg (List.toArray _))) rfl ?_; clear HS; intro ga w1 hga HS1; (simp only [segOf, aL, aC, aE] at HS1); have HS := Aside0.mk HS1; clear HS1; try simp only [aP, aN, aT, aZ, aS]) | ((first | ((first | ((with_reducible refine gA rfl ?_); refine sh_alloc HS.out rfl rfl (zeT _ (by decide)) ?_) | ((with_reducible refine gB rfl ?_); refine bx HS.out rfl rfl ?_; first | refine bv (v := .agg (List.toArray _)) rfl ?_ | refine bv (v := .int _ _) rfl ?_ | refine bv (v := .slice _ _ _) rfl ?_ | refine bv (v := .bool _) rfl ?_ | refine bv (v := .pointer _) rfl ?_) | ((with_reducible refine gL rfl ?_); refine sh_lit HS.out rfl rfl (by go_simp; exact ⟨⟨rfl, rfl⟩, rfl⟩) ?_)); clear HS; intro g w1 hg HS1; (simp only [Ent.enc, Ent.at, Led.Held.enc, Led.Last.enc, zeF, segOf, aL, aC, aE] at HS1); have HS := Aside0.mk HS1; clear HS1) | ((with_reducible refine gLd rfl ?_); refine ld2 HS.out rfl rfl rfl (by repeat (first | exact AtI.here | apply AtI.there)) ?_; (first | refine LdK.one ((agT _ (by decide)).trans rfl) rfl ?_ | (refine LdK.agg ((agT _ (by decide)).trans rfl) (szT _ (by decide)) (lb rfl) ?_; try simp only [szL, aP, aN, aT, aZ, aS, aD, aF, aJ, aK, aM, aO]))) | ((with_reducible refine gSt rfl ?_); refine st2 HS.out rfl rfl rfl rfl (by repeat (first | exact AtI.here | apply AtI.there)) ?_; (first | refine sv (u := .agg (List.toArray _)) rfl ?_ | refine sv (u := .int _ _) rfl ?_ | refine sv (u := .slice _ _ _) rfl ?_ | refine sv (u := .bool _) rfl ?_ | refine sv (u := .pointer _) rfl ?_); refine sw (szT _ (by decide)) rfl (lb rfl) ?_; clear HS; intro w1 HS1; (simp only [Ent.enc, Ent.at, Led.Held.enc, Led.Last.enc, segOf, aL, aZ, aS, putSeg] at HS1); have HS := Aside0.mk HS1; clear HS1)); try simp only [aP, aN, aT, aZ, aS]))
  obtain ⟨gb, hgb⟩ : ∃ gb, gb = g := ⟨_, rfl⟩
  subst hgb
  go_wp2_with (first | ((first | ((first | ((with_reducible refine gA rfl ?_); refine sh_alloc HS.out rfl rfl (zeT _ (by decide)) ?_) | ((with_reducible refine gB rfl ?_); refine bx HS.out rfl rfl ?_; first | refine bv (v := .agg (List.toArray _)) rfl ?_ | refine bv (v := .int _ _) rfl ?_ | refine bv (v := .slice _ _ _) rfl ?_ | refine bv (v := .bool _) rfl ?_ | refine bv (v := .pointer _) rfl ?_) | ((with_reducible refine gL rfl ?_); refine sh_lit HS.out rfl rfl (by go_simp; exact ⟨⟨rfl, rfl⟩, rfl⟩) ?_)); clear HS; intro g w1 hg HS1; (simp only [Ent.enc, Ent.at, Led.Held.enc, Led.Last.enc, zeF, segOf, aL, aC, aE] at HS1); have HS := Aside0.mk HS1; clear HS1) | ((with_reducible refine gLd rfl ?_); refine ld2 HS.out rfl rfl rfl (by repeat (first | exact AtI.here | apply AtI.there)) ?_; (first | refine LdK.one ((agT _ (by decide)).trans rfl) rfl ?_ | (refine LdK.agg ((agT _ (by decide)).trans rfl) (szT _ (by decide)) (lb rfl) ?_; try simp only [szL, aP, aN, aT, aZ, aS, aD, aF, aJ, aK, aM, aO]))) | ((with_reducible refine gSt rfl ?_); refine st2 HS.out rfl rfl rfl rfl (by repeat (first | exact AtI.here | apply AtI.there)) ?_; (first | refine sv (u := .agg (List.toArray _)) rfl ?_ | refine sv (u := .int _ _) rfl ?_ | refine sv (u := .slice _ _ _) rfl ?_ | refine sv (u := .bool _) rfl ?_ | refine sv (u := .pointer _) rfl ?_); refine sw (szT _ (by decide)) rfl (lb rfl) ?_; clear HS; intro w1 HS1; (simp only [Ent.enc, Ent.at, Led.Held.enc, Led.Last.enc, segOf, aL, aZ, aS, putSeg] at HS1); have HS := Aside0.mk HS1; clear HS1)); try simp only [aP, aN, aT, aZ, aS]))
  go_loopw [5, 40] (fun v5 v40 wr => ∃ (k : Nat), k ≤ l.length ∧ v40 = .int .i64 k ∧ Aside0 (SH w wr [blk ga [.int .i64 lim, .int .u64 nxt, .slice A l.length c, .slice B m.length c'] 27, blk gb [.int .i64 lim, .int .u64 nxt, .slice A' l.length d, .slice B' m.length d'] 27])) (fun _ v40 _ => l.length - (intOf v40).toNat)
  case atStart => exact ⟨0, Nat.zero_le _, rfl, HS⟩
  case round =>
    clear HS
    obtain ⟨k, hk, rfl, HS⟩ := hrel
    by_cases hlt : k < l.length
    · obtain ⟨ad1, rfl⟩ := HR.out.addr (by omega)
      obtain ⟨ad2, rfl⟩ := HT.out.addr (by omega)
      have HR1 := Aside0.mk (HR.out.rds [blk ga [.int .i64 lim, .int .u64 nxt, .slice (some ad1) l.length c, .slice B m.length c'] 27, blk gb [.int .i64 lim, .int .u64 nxt, .slice (some ad2) l.length d, .slice B' m.length d'] 27])
      have HR2 := Aside0.mk (HT.out.rds [blk ga [.int .i64 lim, .int .u64 nxt, .slice (some ad1) l.length c, .slice B m.length c'] 27, blk gb [.int .i64 lim, .int .u64 nxt, .slice (some ad2) l.length d, .slice B' m.length d'] 27])
      go_wp2_with (first | ((first | ((first | ((with_reducible refine gA rfl ?_); refine sh_alloc HS.out rfl rfl (zeT _ (by decide)) ?_) | ((with_reducible refine gB rfl ?_); refine bx HS.out rfl rfl ?_; first | refine bv (v := .agg (List.toArray _)) rfl ?_ | refine bv (v := .int _ _) rfl ?_ | refine bv (v := .slice _ _ _) rfl ?_ | refine bv (v := .bool _) rfl ?_ | refine bv (v := .pointer _) rfl ?_) | ((with_reducible refine gL rfl ?_); refine sh_lit HS.out rfl rfl (by go_simp; exact ⟨⟨rfl, rfl⟩, rfl⟩) ?_)); clear HS; intro g w1 hg HS1; (simp only [Ent.enc, Ent.at, Led.Held.enc, Led.Last.enc, zeF, segOf, aL, aC, aE] at HS1); have HS := Aside0.mk HS1; clear HS1) | ((with_reducible refine gLd rfl ?_); refine ld2 HS.out rfl rfl rfl (by repeat (first | exact AtI.here | apply AtI.there)) ?_; (first | refine LdK.one ((agT _ (by decide)).trans rfl) rfl ?_ | (refine LdK.agg ((agT _ (by decide)).trans rfl) (szT _ (by decide)) (lb rfl) ?_; try simp only [szL, aP, aN, aT, aZ, aS, aD, aF, aJ, aK, aM, aO]))) | ((with_reducible refine gSt rfl ?_); refine st2 HS.out rfl rfl rfl rfl (by repeat (first | exact AtI.here | apply AtI.there)) ?_; (first | refine sv (u := .agg (List.toArray _)) rfl ?_ | refine sv (u := .int _ _) rfl ?_ | refine sv (u := .slice _ _ _) rfl ?_ | refine sv (u := .bool _) rfl ?_ | refine sv (u := .pointer _) rfl ?_); refine sw (szT _ (by decide)) rfl (lb rfl) ?_; clear HS; intro w1 HS1; (simp only [Ent.enc, Ent.at, Led.Held.enc, Led.Last.enc, segOf, aL, aZ, aS, putSeg] at HS1); have HS := Aside0.mk HS1; clear HS1)); try simp only [aP, aN, aT, aZ, aS]))
      ((with_reducible refine wp_region_sh mixed (by kernel_rfl) HS.out ?_); (repeat' (first | go_big_quiet_skip | ((with_reducible refine qMv rfl ?_); go_big_quiet_step (fail)) | ((with_reducible refine qAs rfl ?_); go_big_quiet_step (fail)) | ((with_reducible refine qPk rfl ?_); go_big_quiet_step (fail)) | ((with_reducible refine qLd rfl ?_); refine q_rd HR1.out rfl rfl (i := k) rfl hlt default Led.Held.len ((agT _ (by decide)).trans rfl) (szT _ (by decide)) ?_; (try simp only [Ent.enc, Ent.at, Led.Held.enc, Led.Last.enc, aP, aN, aT, aZ, aS])) | ((with_reducible refine qLd rfl ?_); refine q_rd HR2.out rfl rfl (i := k) rfl hlt default Led.Held.len ((agT _ (by decide)).trans rfl) (szT _ (by decide)) ?_; (try simp only [Ent.enc, Ent.at, Led.Held.enc, Led.Last.enc, aP, aN, aT, aZ, aS])) | ((with_reducible refine qLd rfl ?_); (first | refine q_load rfl rfl rfl 0 rfl ((agT _ (by decide)).trans rfl) rfl ?_ | refine q_load rfl rfl rfl 1 rfl ((agT _ (by decide)).trans rfl) rfl ?_); try simp only [aP, aN, aT, aZ, aS]) | ((with_reducible refine qLd rfl ?_); (first | refine q_loads rfl rfl rfl 0 rfl ((agT _ (by decide)).trans rfl) (szT _ (by decide)) (lb rfl) ?_ | refine q_loads rfl rfl rfl 1 rfl ((agT _ (by decide)).trans rfl) (szT _ (by decide)) (lb rfl) ?_); (try simp only [szL, aP, aN, aT, aZ, aS, aD, aF, aJ, aK, aM, aO])) | ((with_reducible refine qAny ?_); refine q_val rfl (fun w hs => by (repeat (rename ∀ (_ : Act) (_ : World), _ => hK9; clear hK9)); go_simp; rfl) ?_; try simp only [aP, aN, aT, aZ, aS]))); all_goals (refine wpQuiet_nil ?_; clear HS; intro w1 HS1; have HS := Aside0.mk HS1; clear HS1))
      go_wp2_with (first | ((first | ((first | ((with_reducible refine gA rfl ?_); refine sh_alloc HS.out rfl rfl (zeT _ (by decide)) ?_) | ((with_reducible refine gB rfl ?_); refine bx HS.out rfl rfl ?_; first | refine bv (v := .agg (List.toArray _)) rfl ?_ | refine bv (v := .int _ _) rfl ?_ | refine bv (v := .slice _ _ _) rfl ?_ | refine bv (v := .bool _) rfl ?_ | refine bv (v := .pointer _) rfl ?_) | ((with_reducible refine gL rfl ?_); refine sh_lit HS.out rfl rfl (by go_simp; exact ⟨⟨rfl, rfl⟩, rfl⟩) ?_)); clear HS; intro g w1 hg HS1; (simp only [Ent.enc, Ent.at, Led.Held.enc, Led.Last.enc, zeF, segOf, aL, aC, aE] at HS1); have HS := Aside0.mk HS1; clear HS1) | ((with_reducible refine gLd rfl ?_); refine ld2 HS.out rfl rfl rfl (by repeat (first | exact AtI.here | apply AtI.there)) ?_; (first | refine LdK.one ((agT _ (by decide)).trans rfl) rfl ?_ | (refine LdK.agg ((agT _ (by decide)).trans rfl) (szT _ (by decide)) (lb rfl) ?_; try simp only [szL, aP, aN, aT, aZ, aS, aD, aF, aJ, aK, aM, aO]))) | ((with_reducible refine gSt rfl ?_); refine st2 HS.out rfl rfl rfl rfl (by repeat (first | exact AtI.here | apply AtI.there)) ?_; (first | refine sv (u := .agg (List.toArray _)) rfl ?_ | refine sv (u := .int _ _) rfl ?_ | refine sv (u := .slice _ _ _) rfl ?_ | refine sv (u := .bool _) rfl ?_ | refine sv (u := .pointer _) rfl ?_); refine sw (szT _ (by decide)) rfl (lb rfl) ?_; clear HS; intro w1 HS1; (simp only [Ent.enc, Ent.at, Led.Held.enc, Led.Last.enc, segOf, aL, aZ, aS, putSeg] at HS1); have HS := Aside0.mk HS1; clear HS1)); try simp only [aP, aN, aT, aZ, aS]))
      go_roundw
      case rel => exact ⟨k + 1, by omega, by go_num, HS⟩
      case measure => simp [intOf]; omega
    · obtain rfl : k = l.length := by omega
      go_wp2_with (first | ((first | ((first | ((with_reducible refine gA rfl ?_); refine sh_alloc HS.out rfl rfl (zeT _ (by decide)) ?_) | ((with_reducible refine gB rfl ?_); refine bx HS.out rfl rfl ?_; first | refine bv (v := .agg (List.toArray _)) rfl ?_ | refine bv (v := .int _ _) rfl ?_ | refine bv (v := .slice _ _ _) rfl ?_ | refine bv (v := .bool _) rfl ?_ | refine bv (v := .pointer _) rfl ?_) | ((with_reducible refine gL rfl ?_); refine sh_lit HS.out rfl rfl (by go_simp; exact ⟨⟨rfl, rfl⟩, rfl⟩) ?_)); clear HS; intro g w1 hg HS1; (simp only [Ent.enc, Ent.at, Led.Held.enc, Led.Last.enc, zeF, segOf, aL, aC, aE] at HS1); have HS := Aside0.mk HS1; clear HS1) | ((with_reducible refine gLd rfl ?_); refine ld2 HS.out rfl rfl rfl (by repeat (first | exact AtI.here | apply AtI.there)) ?_; (first | refine LdK.one ((agT _ (by decide)).trans rfl) rfl ?_ | (refine LdK.agg ((agT _ (by decide)).trans rfl) (szT _ (by decide)) (lb rfl) ?_; try simp only [szL, aP, aN, aT, aZ, aS, aD, aF, aJ, aK, aM, aO]))) | ((with_reducible refine gSt rfl ?_); refine st2 HS.out rfl rfl rfl rfl (by repeat (first | exact AtI.here | apply AtI.there)) ?_; (first | refine sv (u := .agg (List.toArray _)) rfl ?_ | refine sv (u := .int _ _) rfl ?_ | refine sv (u := .slice _ _ _) rfl ?_ | refine sv (u := .bool _) rfl ?_ | refine sv (u := .pointer _) rfl ?_); refine sw (szT _ (by decide)) rfl (lb rfl) ?_; clear HS; intro w1 HS1; (simp only [Ent.enc, Ent.at, Led.Held.enc, Led.Last.enc, segOf, aL, aZ, aS, putSeg] at HS1); have HS := Aside0.mk HS1; clear HS1)); try simp only [aP, aN, aT, aZ, aS]))
      go_loopw [6, 58] (fun v6 v58 wr => ∃ (k : Nat), k ≤ m.length ∧ v58 = .int .i64 k ∧ Aside0 (SH w wr [blk ga [.int .i64 lim, .int .u64 nxt, .slice A l.length c, .slice B m.length c'] 27, blk gb [.int .i64 lim, .int .u64 nxt, .slice A' l.length d, .slice B' m.length d'] 27])) (fun _ v58 _ => m.length - (intOf v58).toNat)
      case atStart => exact ⟨0, Nat.zero_le _, rfl, HS⟩
      case round =>
        clear HS
        obtain ⟨k, hk, rfl, HS⟩ := hrel
        by_cases hlt : k < m.length
        · obtain ⟨ad1, rfl⟩ := HR'.out.addr (by omega)
          obtain ⟨ad2, rfl⟩ := HT'.out.addr (by omega)
          have HR1 := Aside0.mk (HR'.out.rds [blk ga [.int .i64 lim, .int .u64 nxt, .slice A l.length c, .slice (some ad1) m.length c'] 27, blk gb [.int .i64 lim, .int .u64 nxt, .slice A' l.length d, .slice (some ad2) m.length d'] 27])
          have HR2 := Aside0.mk (HT'.out.rds [blk ga [.int .i64 lim, .int .u64 nxt, .slice A l.length c, .slice (some ad1) m.length c'] 27, blk gb [.int .i64 lim, .int .u64 nxt, .slice A' l.length d, .slice (some ad2) m.length d'] 27])
          go_wp2_with (first | ((first | ((first | ((with_reducible refine gA rfl ?_); refine sh_alloc HS.out rfl rfl (zeT _ (by decide)) ?_) | ((with_reducible refine gB rfl ?_); refine bx HS.out rfl rfl ?_; first | refine bv (v := .agg (List.toArray _)) rfl ?_ | refine bv (v := .int _ _) rfl ?_ | refine bv (v := .slice _ _ _) rfl ?_ | refine bv (v := .bool _) rfl ?_ | refine bv (v := .pointer _) rfl ?_) | ((with_reducible refine gL rfl ?_); refine sh_lit HS.out rfl rfl (by go_simp; exact ⟨⟨rfl, rfl⟩, rfl⟩) ?_)); clear HS; intro g w1 hg HS1; (simp only [Ent.enc, Ent.at, Led.Held.enc, Led.Last.enc, zeF, segOf, aL, aC, aE] at HS1); have HS := Aside0.mk HS1; clear HS1) | ((with_reducible refine gLd rfl ?_); refine ld2 HS.out rfl rfl rfl (by repeat (first | exact AtI.here | apply AtI.there)) ?_; (first | refine LdK.one ((agT _ (by decide)).trans rfl) rfl ?_ | (refine LdK.agg ((agT _ (by decide)).trans rfl) (szT _ (by decide)) (lb rfl) ?_; try simp only [szL, aP, aN, aT, aZ, aS, aD, aF, aJ, aK, aM, aO]))) | ((with_reducible refine gSt rfl ?_); refine st2 HS.out rfl rfl rfl rfl (by repeat (first | exact AtI.here | apply AtI.there)) ?_; (first | refine sv (u := .agg (List.toArray _)) rfl ?_ | refine sv (u := .int _ _) rfl ?_ | refine sv (u := .slice _ _ _) rfl ?_ | refine sv (u := .bool _) rfl ?_ | refine sv (u := .pointer _) rfl ?_); refine sw (szT _ (by decide)) rfl (lb rfl) ?_; clear HS; intro w1 HS1; (simp only [Ent.enc, Ent.at, Led.Held.enc, Led.Last.enc, segOf, aL, aZ, aS, putSeg] at HS1); have HS := Aside0.mk HS1; clear HS1)); try simp only [aP, aN, aT, aZ, aS]))
          ((with_reducible refine wp_region_sh mixed (by kernel_rfl) HS.out ?_); (repeat' (first | go_big_quiet_skip | ((with_reducible refine qMv rfl ?_); go_big_quiet_step (fail)) | ((with_reducible refine qAs rfl ?_); go_big_quiet_step (fail)) | ((with_reducible refine qPk rfl ?_); go_big_quiet_step (fail)) | ((with_reducible refine qLd rfl ?_); refine q_rd HR1.out rfl rfl (i := k) rfl hlt default Led.Last.len ((agT _ (by decide)).trans rfl) (szT _ (by decide)) ?_; (try simp only [Ent.enc, Ent.at, Led.Held.enc, Led.Last.enc, aP, aN, aT, aZ, aS])) | ((with_reducible refine qLd rfl ?_); refine q_rd HR2.out rfl rfl (i := k) rfl hlt default Led.Last.len ((agT _ (by decide)).trans rfl) (szT _ (by decide)) ?_; (try simp only [Ent.enc, Ent.at, Led.Held.enc, Led.Last.enc, aP, aN, aT, aZ, aS])) | ((with_reducible refine qLd rfl ?_); (first | refine q_load rfl rfl rfl 0 rfl ((agT _ (by decide)).trans rfl) rfl ?_ | refine q_load rfl rfl rfl 1 rfl ((agT _ (by decide)).trans rfl) rfl ?_); try simp only [aP, aN, aT, aZ, aS]) | ((with_reducible refine qLd rfl ?_); (first | refine q_loads rfl rfl rfl 0 rfl ((agT _ (by decide)).trans rfl) (szT _ (by decide)) (lb rfl) ?_ | refine q_loads rfl rfl rfl 1 rfl ((agT _ (by decide)).trans rfl) (szT _ (by decide)) (lb rfl) ?_); (try simp only [szL, aP, aN, aT, aZ, aS, aD, aF, aJ, aK, aM, aO])) | ((with_reducible refine qAny ?_); refine q_val rfl (fun w hs => by (repeat (rename ∀ (_ : Act) (_ : World), _ => hK9; clear hK9)); go_simp; rfl) ?_; try simp only [aP, aN, aT, aZ, aS]))); all_goals (refine wpQuiet_nil ?_; clear HS; intro w1 HS1; have HS := Aside0.mk HS1; clear HS1))
          go_wp2_with (first | ((first | ((first | ((with_reducible refine gA rfl ?_); refine sh_alloc HS.out rfl rfl (zeT _ (by decide)) ?_) | ((with_reducible refine gB rfl ?_); refine bx HS.out rfl rfl ?_; first | refine bv (v := .agg (List.toArray _)) rfl ?_ | refine bv (v := .int _ _) rfl ?_ | refine bv (v := .slice _ _ _) rfl ?_ | refine bv (v := .bool _) rfl ?_ | refine bv (v := .pointer _) rfl ?_) | ((with_reducible refine gL rfl ?_); refine sh_lit HS.out rfl rfl (by go_simp; exact ⟨⟨rfl, rfl⟩, rfl⟩) ?_)); clear HS; intro g w1 hg HS1; (simp only [Ent.enc, Ent.at, Led.Held.enc, Led.Last.enc, zeF, segOf, aL, aC, aE] at HS1); have HS := Aside0.mk HS1; clear HS1) | ((with_reducible refine gLd rfl ?_); refine ld2 HS.out rfl rfl rfl (by repeat (first | exact AtI.here | apply AtI.there)) ?_; (first | refine LdK.one ((agT _ (by decide)).trans rfl) rfl ?_ | (refine LdK.agg ((agT _ (by decide)).trans rfl) (szT _ (by decide)) (lb rfl) ?_; try simp only [szL, aP, aN, aT, aZ, aS, aD, aF, aJ, aK, aM, aO]))) | ((with_reducible refine gSt rfl ?_); refine st2 HS.out rfl rfl rfl rfl (by repeat (first | exact AtI.here | apply AtI.there)) ?_; (first | refine sv (u := .agg (List.toArray _)) rfl ?_ | refine sv (u := .int _ _) rfl ?_ | refine sv (u := .slice _ _ _) rfl ?_ | refine sv (u := .bool _) rfl ?_ | refine sv (u := .pointer _) rfl ?_); refine sw (szT _ (by decide)) rfl (lb rfl) ?_; clear HS; intro w1 HS1; (simp only [Ent.enc, Ent.at, Led.Held.enc, Led.Last.enc, segOf, aL, aZ, aS, putSeg] at HS1); have HS := Aside0.mk HS1; clear HS1)); try simp only [aP, aN, aT, aZ, aS]))
          go_roundw
          case rel => exact ⟨k + 1, by omega, by go_num, HS⟩
          case measure => simp [intOf]; omega
        · obtain rfl : k = m.length := by omega
          go_wp2_with (first | ((first | ((first | ((with_reducible refine gA rfl ?_); refine sh_alloc HS.out rfl rfl (zeT _ (by decide)) ?_) | ((with_reducible refine gB rfl ?_); refine bx HS.out rfl rfl ?_; first | refine bv (v := .agg (List.toArray _)) rfl ?_ | refine bv (v := .int _ _) rfl ?_ | refine bv (v := .slice _ _ _) rfl ?_ | refine bv (v := .bool _) rfl ?_ | refine bv (v := .pointer _) rfl ?_) | ((with_reducible refine gL rfl ?_); refine sh_lit HS.out rfl rfl (by go_simp; exact ⟨⟨rfl, rfl⟩, rfl⟩) ?_)); clear HS; intro g w1 hg HS1; (simp only [Ent.enc, Ent.at, Led.Held.enc, Led.Last.enc, zeF, segOf, aL, aC, aE] at HS1); have HS := Aside0.mk HS1; clear HS1) | ((with_reducible refine gLd rfl ?_); refine ld2 HS.out rfl rfl rfl (by repeat (first | exact AtI.here | apply AtI.there)) ?_; (first | refine LdK.one ((agT _ (by decide)).trans rfl) rfl ?_ | (refine LdK.agg ((agT _ (by decide)).trans rfl) (szT _ (by decide)) (lb rfl) ?_; try simp only [szL, aP, aN, aT, aZ, aS, aD, aF, aJ, aK, aM, aO]))) | ((with_reducible refine gSt rfl ?_); refine st2 HS.out rfl rfl rfl rfl (by repeat (first | exact AtI.here | apply AtI.there)) ?_; (first | refine sv (u := .agg (List.toArray _)) rfl ?_ | refine sv (u := .int _ _) rfl ?_ | refine sv (u := .slice _ _ _) rfl ?_ | refine sv (u := .bool _) rfl ?_ | refine sv (u := .pointer _) rfl ?_); refine sw (szT _ (by decide)) rfl (lb rfl) ?_; clear HS; intro w1 HS1; (simp only [Ent.enc, Ent.at, Led.Held.enc, Led.Last.enc, segOf, aL, aZ, aS, putSeg] at HS1); have HS := Aside0.mk HS1; clear HS1)); try simp only [aP, aN, aT, aZ, aS]))
          go_ret
          exact ⟨rfl, HS.out.below⟩
set_option maxHeartbeats 1600000 in
set_option maxRecDepth 100000 in
theorem sameCmd_any (x : Ent) (A : Option Addr) (c : Nat) (w : World) (hk : x.ok w) (hr : Rd (ints .i64) 1 w A x.nodes.length x.nodes) : Calls Try.prog 46 #[.agg #[.int .i64 x.kind, .int .i64 x.node, .int .i64 x.token, .slice A x.nodes.length c, .int .u64 x.boot, .int .u64 x.seq, .int .u64 x.serial, .int .u64 x.stamp], .agg #[.int .i64 x.kind, .int .i64 x.node, .int .i64 x.token, .slice x.A x.nodes.length x.c, .int .u64 x.boot, .int .u64 x.seq, .int .u64 x.serial, .int .u64 x.stamp]] w (fun e w' => e = .returned (.bool true) ∧ Below w.heap.size w w') := by
  have HK := Aside0.mk hk
  have HR := Aside0.mk hr
  have HNN := Aside0.mk (show (x.nodes == x.nodes) = true from beq_self_eq_true _)
  clear hk hr
  have HS := Aside0.mk (SH.start w)
  go_enter Try.func46, Try.ntmps46
  go_wp2_with (first | (go_at_call 21; (with_reducible refine (Nod.refSame_any A x.A c x.c x.nodes x.nodes _ (HR.out.sh HS.out) (HK.out.rd.sh HS.out)).mono ?_); rintro e w2 ⟨rfl, hb⟩; rw [HNN.out]; have HS1 := HS.out.quiet hb; clear HS hb; have HS := Aside0.mk HS1; clear HS1) | ((first | ((first | ((with_reducible refine gA rfl ?_); refine sh_alloc HS.out rfl rfl (zeT _ (by decide)) ?_) | ((with_reducible refine gB rfl ?_); refine bx HS.out rfl rfl ?_; first | refine bv (v := .agg (List.toArray _)) rfl ?_ | refine bv (v := .int _ _) rfl ?_ | refine bv (v := .slice _ _ _) rfl ?_ | refine bv (v := .bool _) rfl ?_ | refine bv (v := .pointer _) rfl ?_) | ((with_reducible refine gL rfl ?_); refine sh_lit HS.out rfl rfl (by go_simp; exact ⟨⟨rfl, rfl⟩, rfl⟩) ?_)); clear HS; intro g w1 hg HS1; (simp only [Ent.enc, Ent.at, Led.Held.enc, Led.Last.enc, zeF, segOf, aL, aC, aE] at HS1); have HS := Aside0.mk HS1; clear HS1) | ((with_reducible refine gLd rfl ?_); refine ld2 HS.out rfl rfl rfl (by repeat (first | exact AtI.here | apply AtI.there)) ?_; (first | refine LdK.one ((agT _ (by decide)).trans rfl) rfl ?_ | (refine LdK.agg ((agT _ (by decide)).trans rfl) (szT _ (by decide)) (lb rfl) ?_; try simp only [szL, aP, aN, aT, aZ, aS, aD, aF, aJ, aK, aM, aO]))) | ((with_reducible refine gSt rfl ?_); refine st2 HS.out rfl rfl rfl rfl (by repeat (first | exact AtI.here | apply AtI.there)) ?_; (first | refine sv (u := .agg (List.toArray _)) rfl ?_ | refine sv (u := .int _ _) rfl ?_ | refine sv (u := .slice _ _ _) rfl ?_ | refine sv (u := .bool _) rfl ?_ | refine sv (u := .pointer _) rfl ?_); refine sw (szT _ (by decide)) rfl (lb rfl) ?_; clear HS; intro w1 HS1; (simp only [Ent.enc, Ent.at, Led.Held.enc, Led.Last.enc, segOf, aL, aZ, aS, putSeg] at HS1); have HS := Aside0.mk HS1; clear HS1)); try simp only [aP, aN, aT, aZ, aS]))
  go_ret
  exact ⟨rfl, HS.out.below⟩
set_option maxHeartbeats 1600000 in
set_option maxRecDepth 100000 in
theorem sameSht_any (s : Sht) (A1 A2 A3 : Option Addr) (c1 c2 c3 : Nat) (w : World) (hk : s.ok w) (h1 : Rd (ints .i64) 1 w A1 s.nodes.length s.nodes) (h2 : Rd Led.Held.enc 5 w A2 s.held.length s.held) (h3 : Rd Led.Last.enc 6 w A3 s.last.length s.last) : Calls Try.prog 36 #[.agg #[.int .u64 s.si, .int .u64 s.st, .slice A1 s.nodes.length c1, .int .i64 s.lim, .int .u64 s.nxt, .slice A2 s.held.length c2, .slice A3 s.last.length c3], .agg #[.int .u64 s.si, .int .u64 s.st, .slice s.nA s.nodes.length s.nc, .int .i64 s.lim, .int .u64 s.nxt, .slice s.hA s.held.length s.hc, .slice s.lA s.last.length s.lc]] w (fun e w' => e = .returned (.bool true) ∧ Below w.heap.size w w') := by
  have HK := Aside0.mk hk
  have H1 := Aside0.mk h1
  have H2 := Aside0.mk h2
  have H3 := Aside0.mk h3
  have HNN := Aside0.mk (show (s.nodes == s.nodes) = true from beq_self_eq_true _)
  clear hk h1 h2 h3
  have HS := Aside0.mk (SH.start w)
  go_enter Try.func36, Try.ntmps36
  go_wp2_with (first | (go_at_call 21; (with_reducible refine (Nod.refSame_any A1 s.nA c1 s.nc s.nodes s.nodes _ (H1.out.sh HS.out) (HK.out.rn.sh HS.out)).mono ?_); rintro e w2 ⟨rfl, hb⟩; rw [HNN.out]; have HS1 := HS.out.quiet hb; clear HS hb; have HS := Aside0.mk HS1; clear HS1) | (go_at_call 62; (with_reducible refine (sameLed_any A2 A3 s.hA s.lA c2 c3 s.hc s.lc s.lim s.nxt s.held s.last _ (H2.out.sh HS.out) (H3.out.sh HS.out) (HK.out.rh.sh HS.out) (HK.out.rl.sh HS.out)).mono ?_); rintro e w2 ⟨rfl, hb⟩;  have HS1 := HS.out.quiet hb; clear HS hb; have HS := Aside0.mk HS1; clear HS1) | ((first | ((first | ((with_reducible refine gA rfl ?_); refine sh_alloc HS.out rfl rfl (zeT _ (by decide)) ?_) | ((with_reducible refine gB rfl ?_); refine bx HS.out rfl rfl ?_; first | refine bv (v := .agg (List.toArray _)) rfl ?_ | refine bv (v := .int _ _) rfl ?_ | refine bv (v := .slice _ _ _) rfl ?_ | refine bv (v := .bool _) rfl ?_ | refine bv (v := .pointer _) rfl ?_) | ((with_reducible refine gL rfl ?_); refine sh_lit HS.out rfl rfl (by go_simp; exact ⟨⟨rfl, rfl⟩, rfl⟩) ?_)); clear HS; intro g w1 hg HS1; (simp only [Ent.enc, Ent.at, Led.Held.enc, Led.Last.enc, zeF, segOf, aL, aC, aE] at HS1); have HS := Aside0.mk HS1; clear HS1) | ((with_reducible refine gLd rfl ?_); refine ld2 HS.out rfl rfl rfl (by repeat (first | exact AtI.here | apply AtI.there)) ?_; (first | refine LdK.one ((agT _ (by decide)).trans rfl) rfl ?_ | (refine LdK.agg ((agT _ (by decide)).trans rfl) (szT _ (by decide)) (lb rfl) ?_; try simp only [szL, aP, aN, aT, aZ, aS, aD, aF, aJ, aK, aM, aO]))) | ((with_reducible refine gSt rfl ?_); refine st2 HS.out rfl rfl rfl rfl (by repeat (first | exact AtI.here | apply AtI.there)) ?_; (first | refine sv (u := .agg (List.toArray _)) rfl ?_ | refine sv (u := .int _ _) rfl ?_ | refine sv (u := .slice _ _ _) rfl ?_ | refine sv (u := .bool _) rfl ?_ | refine sv (u := .pointer _) rfl ?_); refine sw (szT _ (by decide)) rfl (lb rfl) ?_; clear HS; intro w1 HS1; (simp only [Ent.enc, Ent.at, Led.Held.enc, Led.Last.enc, segOf, aL, aZ, aS, putSeg] at HS1); have HS := Aside0.mk HS1; clear HS1)); try simp only [aP, aN, aT, aZ, aS]))
  go_ret
  exact ⟨rfl, HS.out.below⟩
theorem same_at {l l' : List Ent} (h : l'.map Ent.data = l.map Ent.data) {k : Nat} (hk : k < l.length) : ∃ A c, l'.getD k default = (l.getD k default).at A c := by
  have hl : l'.length = l.length := by
    have := congrArg List.length h
    rwa [List.length_map, List.length_map] at this
  have h1 : (l'.map Ent.data)[k]? = (l.map Ent.data)[k]? := by rw [h]
  rw [List.getElem?_map, List.getElem?_map, List.getElem?_eq_getElem hk, List.getElem?_eq_getElem (by omega)] at h1
  simp only [Option.map_some, Option.some.injEq] at h1
  rw [List.getD_eq_getElem?_getD, List.getD_eq_getElem?_getD, List.getElem?_eq_getElem hk, List.getElem?_eq_getElem (by omega), Option.getD_some, Option.getD_some]
  refine ⟨l'[k].A, l'[k].c, ?_⟩
  generalize l[k] = a at h1
  generalize l'[k] = b at h1
  cases a
  cases b
  simp only [Ent.data, Ent.mk.injEq] at h1
  simp only [Ent.at, Ent.mk.injEq]
  simp_all
set_option maxHeartbeats 3200000 in
set_option maxRecDepth 100000 in
theorem sameEnts_any (A A' : Option Addr) (c c' : Nat) (l l' : List Ent) (w : World) {M : Nat} (hr' : Rd Ent.enc 9 w A' M l') (hr : Rd Ent.enc 9 w A M l) (he' : ∀ e ∈ l', e.ok w) (he : ∀ e ∈ l, e.ok w) (hd : l'.map Ent.data = l.map Ent.data) :
    Calls Try.prog 26 #[.slice A' M c', .slice A M c] w (fun e w' => e = .returned (.bool true) ∧ Below w.heap.size w w') := by
  obtain rfl := hr.len.1
  have hll := hr'.len.1
  have hm := hr.len.2
  have HR := Aside0.mk hr
  have HR' := Aside0.mk hr'
  have HE := Aside0.mk he
  have HE' := Aside0.mk he'
  have HD := Aside0.mk hd
  have HLL := Aside0.mk hll
  clear hr hr' he he' hd hll
  have HS := Aside0.mk (SH.start w)
  go_enter Try.func26, Try.ntmps26
  go_wp2
  go_loopw [5, 13] (fun v5 v13 wr => ∃ (k : Nat), k ≤ l.length ∧ v13 = .int .i64 k ∧ Aside0 (SH w wr [])) (fun _ v13 _ => l.length - (intOf v13).toNat)
  case atStart => exact ⟨0, Nat.zero_le _, rfl, HS⟩
  case round =>
    clear HS
    obtain ⟨k, hk, rfl, HS⟩ := hrel
    by_cases hlt : k < l.length
    · obtain ⟨ad1, rfl⟩ := HR.out.addr (by omega)
      obtain ⟨ad2, rfl⟩ := HR'.out.addr (by omega)
      obtain ⟨A0, c0, hx'⟩ := same_at HD.out hlt
      have hm1 : l'.getD k default ∈ l' := getD_in (by rw [HLL.out]; exact hlt) rfl
      generalize hx : l.getD k default = x at hx'
      have HXO := Aside0.mk (HE.out x (getD_in hlt hx))
      have HXR := Aside0.mk (show Rd (ints .i64) 1 w A0 x.nodes.length x.nodes by
        have := (HE'.out _ hm1).rd
        rw [hx'] at this
        exact this)
      have HX := Aside0.mk hx
      have HX' := Aside0.mk hx'
      clear hx hx' hm1
      have HRS := Aside0.mk (HR.out.rds [])
      have HRS' := Aside0.mk (HR'.out.rds [])
      go_upto_region 6 with (first | ((first | ((first | ((with_reducible refine gA rfl ?_); refine sh_alloc HS.out rfl rfl (zeT _ (by decide)) ?_) | ((with_reducible refine gB rfl ?_); refine bx HS.out rfl rfl ?_; first | refine bv (v := .agg (List.toArray _)) rfl ?_ | refine bv (v := .int _ _) rfl ?_ | refine bv (v := .slice _ _ _) rfl ?_ | refine bv (v := .bool _) rfl ?_ | refine bv (v := .pointer _) rfl ?_) | ((with_reducible refine gL rfl ?_); refine sh_lit HS.out rfl rfl (by go_simp; exact ⟨⟨rfl, rfl⟩, rfl⟩) ?_)); clear HS; intro g w1 hg HS1; (simp only [Ent.enc, Ent.at, Led.Held.enc, Led.Last.enc, zeF, segOf, aL, aC, aE] at HS1); have HS := Aside0.mk HS1; clear HS1)); try simp only [aP, aN, aT, aZ, aS]))
      ((with_reducible refine wp_region_sh mixed (by kernel_rfl) HS.out ?_); (repeat' (first | go_big_quiet_skip | ((with_reducible refine qMv rfl ?_); go_big_quiet_step (fail)) | ((with_reducible refine qAs rfl ?_); go_big_quiet_step (fail)) | ((with_reducible refine qPk rfl ?_); go_big_quiet_step (fail)) | ((with_reducible refine qLd rfl ?_); refine q_rdf HRS'.out rfl rfl (i := k) 0 rfl hlt default ((agT _ (by decide)).trans rfl) (fun e => .int .u64 e.term) (fun _ => rfl) ?_; intro x hx; obtain rfl := HX'.out.symm.trans hx; (try simp only [Ent.enc, Ent.at, Led.Held.enc, Led.Last.enc, aP, aN, aT, aZ, aS])) | ((with_reducible refine qLd rfl ?_); refine q_rdf HRS.out rfl rfl (i := k) 0 rfl hlt default ((agT _ (by decide)).trans rfl) (fun e => .int .u64 e.term) (fun _ => rfl) ?_; intro x hx; obtain rfl := HX.out.symm.trans hx; (try simp only [Ent.enc, Ent.at, Led.Held.enc, Led.Last.enc, aP, aN, aT, aZ, aS])) | ((with_reducible refine qLd rfl ?_); refine q_rdp HRS'.out rfl rfl (i := k) 1 (addf ad2 (k * 9) 1 (by decide)) hlt default Ent.len ((agT _ (by decide)).trans rfl) (szT _ (by decide)) (lb rfl) ?_; intro x hx; obtain rfl := HX'.out.symm.trans hx; (try simp only [Ent.enc, Ent.at, Led.Held.enc, Led.Last.enc, szL, aP, aN, aT, aZ, aS, aD, aF, aJ, aK, aM, aO])) | ((with_reducible refine qLd rfl ?_); refine q_rdp HRS.out rfl rfl (i := k) 1 (addf ad1 (k * 9) 1 (by decide)) hlt default Ent.len ((agT _ (by decide)).trans rfl) (szT _ (by decide)) (lb rfl) ?_; intro x hx; obtain rfl := HX.out.symm.trans hx; (try simp only [Ent.enc, Ent.at, Led.Held.enc, Led.Last.enc, szL, aP, aN, aT, aZ, aS, aD, aF, aJ, aK, aM, aO])) | ((with_reducible refine qCl rfl ?_); refine q_call rfl rfl (vs := #[.agg #[.int .i64 x.kind, .int .i64 x.node, .int .i64 x.token, .slice A0 x.nodes.length c0, .int .u64 x.boot, .int .u64 x.seq, .int .u64 x.serial, .int .u64 x.stamp], .agg #[.int .i64 x.kind, .int .i64 x.node, .int .i64 x.token, .slice x.A x.nodes.length x.c, .int .u64 x.boot, .int .u64 x.seq, .int .u64 x.serial, .int .u64 x.stamp]]) (by rw [List.map_toArray]; rfl) (fnT _ (by decide)) (fun w1 hs => sameCmd_any x A0 c0 w1 (HXO.out.sh hs) (HXR.out.sh hs)) ?_; (try simp only [aP, aN, aT, aZ, aS])) | ((with_reducible refine qAny ?_); refine q_val rfl (fun w hs => by (repeat (rename ∀ (_ : Act) (_ : World), _ => hK9; clear hK9)); go_simp; rfl) ?_; try simp only [aP, aN, aT, aZ, aS]))); all_goals (refine wpQuiet_nil ?_; clear HS; intro w1 HS1; have HS := Aside0.mk HS1; clear HS1))
      go_wp2
      go_roundw
      case rel => exact ⟨k + 1, by omega, by go_num, HS⟩
      case measure => simp [intOf]; omega
    · obtain rfl : k = l.length := by omega
      go_wp2
      go_ret
      exact ⟨rfl, HS.out.below⟩
set_option maxHeartbeats 1600000 in
set_option maxRecDepth 100000 in
theorem sameHard_any (d d' : Hrd) (w : World) (h : d.same d') (hk : d.ok w) (hk' : d'.ok w) : Calls Try.prog 22 #[.agg #[.int .u64 d'.boot, .int .u64 d'.term, .int .i64 d'.vote, .int .u64 d'.s.si, .int .u64 d'.s.st, .slice d'.s.nA d'.s.nodes.length d'.s.nc, .int .i64 d'.s.lim, .int .u64 d'.s.nxt, .slice d'.s.hA d'.s.held.length d'.s.hc, .slice d'.s.lA d'.s.last.length d'.s.lc, .slice d'.gA d'.log.length d'.gc], .agg #[.int .u64 d.boot, .int .u64 d.term, .int .i64 d.vote, .int .u64 d.s.si, .int .u64 d.s.st, .slice d.s.nA d.s.nodes.length d.s.nc, .int .i64 d.s.lim, .int .u64 d.s.nxt, .slice d.s.hA d.s.held.length d.s.hc, .slice d.s.lA d.s.last.length d.s.lc, .slice d.gA d.log.length d.gc]] w (fun e w' => e = .returned (.bool true) ∧ Below w.heap.size w w') := by
  have hll := same_len h
  have h1 := hk'.s.rn
  have h2 := hk'.s.rh
  have h3 := hk'.s.rl
  have h4 := hk'.rg
  have HE' := Aside0.mk hk'.re
  have HD := Aside0.mk h.log
  rw [h.boot, h.term, h.vote, h.s.si, h.s.st, h.s.nodes, h.s.lim, h.s.nxt, h.s.held, h.s.last, hll]
  rw [h.s.nodes] at h1
  rw [h.s.held] at h2
  rw [h.s.last] at h3
  rw [hll] at h4
  have H1 := Aside0.mk h1
  have H2 := Aside0.mk h2
  have H3 := Aside0.mk h3
  have H4 := Aside0.mk h4
  have HK := Aside0.mk hk
  clear hk hk' h h1 h2 h3 h4 hll
  have HS := Aside0.mk (SH.start w)
  go_enter Try.func22, Try.ntmps22
  go_wp2_with (first | (go_at_call 36; (with_reducible refine (sameSht_any d.s d'.s.nA d'.s.hA d'.s.lA d'.s.nc d'.s.hc d'.s.lc _ (HK.out.s.sh HS.out) (H1.out.sh HS.out) (H2.out.sh HS.out) (H3.out.sh HS.out)).mono ?_); rintro e w2 ⟨rfl, hb⟩;  have HS1 := HS.out.quiet hb; clear HS hb; have HS := Aside0.mk HS1; clear HS1) | (go_at_call 26; (with_reducible refine (sameEnts_any d.gA d'.gA d.gc d'.gc d.log d'.log _ (H4.out.sh HS.out) (HK.out.rg.sh HS.out) (fun e he => (HE'.out e he).sh HS.out) (fun e he => (HK.out.re e he).sh HS.out) HD.out).mono ?_); rintro e w2 ⟨rfl, hb⟩;  have HS1 := HS.out.quiet hb; clear HS hb; have HS := Aside0.mk HS1; clear HS1) | ((first | ((first | ((with_reducible refine gA rfl ?_); refine sh_alloc HS.out rfl rfl (zeT _ (by decide)) ?_) | ((with_reducible refine gB rfl ?_); refine bx HS.out rfl rfl ?_; first | refine bv (v := .agg (List.toArray _)) rfl ?_ | refine bv (v := .int _ _) rfl ?_ | refine bv (v := .slice _ _ _) rfl ?_ | refine bv (v := .bool _) rfl ?_ | refine bv (v := .pointer _) rfl ?_) | ((with_reducible refine gL rfl ?_); refine sh_lit HS.out rfl rfl (by go_simp; exact ⟨⟨rfl, rfl⟩, rfl⟩) ?_)); clear HS; intro g w1 hg HS1; (simp only [Ent.enc, Ent.at, Led.Held.enc, Led.Last.enc, zeF, segOf, aL, aC, aE] at HS1); have HS := Aside0.mk HS1; clear HS1) | ((with_reducible refine gLd rfl ?_); refine ld2 HS.out rfl rfl rfl (by repeat (first | exact AtI.here | apply AtI.there)) ?_; (first | refine LdK.one ((agT _ (by decide)).trans rfl) rfl ?_ | (refine LdK.agg ((agT _ (by decide)).trans rfl) (szT _ (by decide)) (lb rfl) ?_; try simp only [szL, aP, aN, aT, aZ, aS, aD, aF, aJ, aK, aM, aO]))) | ((with_reducible refine gSt rfl ?_); refine st2 HS.out rfl rfl rfl rfl (by repeat (first | exact AtI.here | apply AtI.there)) ?_; (first | refine sv (u := .agg (List.toArray _)) rfl ?_ | refine sv (u := .int _ _) rfl ?_ | refine sv (u := .slice _ _ _) rfl ?_ | refine sv (u := .bool _) rfl ?_ | refine sv (u := .pointer _) rfl ?_); refine sw (szT _ (by decide)) rfl (lb rfl) ?_; clear HS; intro w1 HS1; (simp only [Ent.enc, Ent.at, Led.Held.enc, Led.Last.enc, segOf, aL, aZ, aS, putSeg] at HS1); have HS := Aside0.mk HS1; clear HS1)); try simp only [aP, aN, aT, aZ, aS]))
  go_ret
  exact ⟨rfl, HS.out.below⟩
end Go.Proofs.Ytekjihmepdhmeaa.Rlo

