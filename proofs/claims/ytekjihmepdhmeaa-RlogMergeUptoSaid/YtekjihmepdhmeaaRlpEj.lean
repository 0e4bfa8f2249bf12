import Derived.Test.YtekjihmepdhmeaaRloDj
/- Lemmas towards the law: what of the text RlpE it needs. -/
namespace Go.Proofs.Ytekjihmepdhmeaa.Rlo
open Go.RowKit Go.Proofs.YtekjihmepdhmeaaW.PrintWords Go.Proofs.Ytekjihmepdhmeaa.Sl
set_option linter.unusedVariables false
set_option linter.unusedSimpArgs false
set_option maxHeartbeats 3200000 in
set_option maxRecDepth 100000 in
theorem cloneShot_any (s : Sht) (w : World) (hk : s.ok w) (hz : s.szd) (hh : s.held.length ≤ 1000) (hl : s.last.length ≤ 1000) : Calls Try.prog 74 #[.agg #[.int .u64 s.si, .int .u64 s.st, .slice s.nA s.nodes.length s.nc, .int .i64 s.lim, .int .u64 s.nxt, .slice s.hA s.held.length s.hc, .slice s.lA s.last.length s.lc]] w
    (fun e w' => ∃ A1 c1 A2 c2 A3 c3 S1 S2 S3, e = .returned (.agg #[.int .u64 s.si, .int .u64 s.st, .slice A1 s.nodes.length c1, .int .i64 s.lim, .int .u64 s.nxt, .slice A2 s.held.length c2, .slice A3 s.last.length c3]) ∧ s.held.length ≤ c2 ∧
      SH w w' [row (intK .i64) 3 (.slice A1 s.nodes.length c1) s.nodes S1, row Led.heldK 72 (.slice A2 s.held.length c2) s.held S2, row Led.lastK 76 (.slice A3 s.last.length c3) s.last S3]) := by
  have HK := Aside0.mk hk
  have HZN := Aside0.mk hz.n
  clear hk hz
  have HS := Aside0.mk (SH.start w)
  go_enter Try.func74, Try.ntmps74
  go_upto_region 1 with (first | ((fail_if_success (have _ := bS)); ((with_reducible refine gB rfl ?_); refine bx HS.out rfl rfl ?_; (first | refine bv (v := .agg (List.toArray _)) rfl ?_ | refine bv (v := .int _ _) rfl ?_ | refine bv (v := .slice _ _ _) rfl ?_ | refine bv (v := .bool _) rfl ?_ | refine bv (v := .pointer _) rfl ?_); clear HS; intro bS w1 hbS HS1; (simp only [Ent.enc, Led.Held.enc, Led.Last.enc, segOf, aL, aC, aE] at HS1); have HS := Aside0.mk HS1; clear HS1; try simp only [aP, aN, aT, aZ, aS])) | ((fail_if_success (have _ := b2)); ((with_reducible refine gA rfl ?_); refine sh_alloc HS.out rfl rfl (zeT _ (by decide)) ?_; clear HS; intro b2 w1 hb2 HS1; (simp only [Ent.enc, Led.Held.enc, Led.Last.enc, zeF, segOf, aL, aC, aE] at HS1); have HS := Aside0.mk HS1; clear HS1; try simp only [aP, aN, aT, aZ, aS])) | ((first | ((first | ((with_reducible refine gA rfl ?_); refine sh_alloc HS.out rfl rfl (zeT _ (by decide)) ?_) | ((with_reducible refine gB rfl ?_); refine bx HS.out rfl rfl ?_; first | refine bv (v := .agg (List.toArray _)) rfl ?_ | refine bv (v := .int _ _) rfl ?_ | refine bv (v := .slice _ _ _) rfl ?_ | refine bv (v := .bool _) rfl ?_ | refine bv (v := .pointer _) rfl ?_) | ((with_reducible refine gL rfl ?_); refine sh_lit HS.out rfl rfl (by go_simp; exact ⟨⟨rfl, rfl⟩, rfl⟩) ?_)); clear HS; intro g w1 hg HS1; (simp only [Ent.enc, Led.Held.enc, Led.Last.enc, zeF, segOf, aL, aC, aE] at HS1); have HS := Aside0.mk HS1; clear HS1) | ((with_reducible refine gLd rfl ?_); refine ld2 HS.out rfl rfl rfl (by repeat (first | exact AtI.here | apply AtI.there)) ?_; (first | refine LdK.one ((agT _ (by decide)).trans rfl) rfl ?_ | (refine LdK.agg ((agT _ (by decide)).trans rfl) (szT _ (by decide)) (lb rfl) ?_; try simp only [szL, aP, aN, aT, aZ, aS, aD, aF, aJ, aK, aM, aO]))) | ((with_reducible refine gSt rfl ?_); refine st2 HS.out rfl rfl rfl rfl (by repeat (first | exact AtI.here | apply AtI.there)) ?_; (first | refine sv (u := .agg (List.toArray _)) rfl ?_ | refine sv (u := .int _ _) rfl ?_ | refine sv (u := .slice _ _ _) rfl ?_ | refine sv (u := .bool _) rfl ?_ | refine sv (u := .pointer _) rfl ?_); refine sw (szT _ (by decide)) rfl (lb rfl) ?_; clear HS; intro w1 HS1; (simp only [Ent.enc, Led.Held.enc, Led.Last.enc, segOf, aL, aZ, aS, putSeg] at HS1); have HS := Aside0.mk HS1; clear HS1)); try simp only [aP, aN, aT, aZ, aS]))
  have HC := Aside0.mk (HS.out.pick [0] rfl (by decide))
  refine kheld_start [12, 15, 18] mixed HC.out (fun HC1 => ?_)
  have HS1 := HS.out.drew
  clear HS HC
  have HS := Aside0.mk HS1
  have HC := Aside0.mk HC1
  clear HS1 HC1
  refine k_any 0 (v := _) (by simp only [aG, aH, aI]; rfl) (by kernel_rfl) (by kernel_rfl) (by kernel_rfl) (by kernel_rfl) (by exact fun _ _ _ h => h) (.inr HC.out) (by kernel_rfl) (fun w => by (repeat (rename ∀ (_ : Act) (_ : World), _ => hK9; clear hK9)); go_simp; rfl) ?_
  (try simp only [aP, aN, aT, aZ, aS])
  refine k_load 1 (by simp only [aG, aH, aI]; rfl) (by kernel_rfl) (by kernel_rfl) (by kernel_rfl) (by kernel_rfl) (by exact fun _ _ _ h => h) HC.out (by kernel_rfl) rfl rfl 0 rfl ((agT _ (by decide)).trans rfl) rfl ?_
  (try simp only [aP, aN, aT, aZ, aS])
  refine k_any 3 (v := _) (by simp only [aG, aH, aI]; rfl) (by kernel_rfl) (by kernel_rfl) (by kernel_rfl) (by kernel_rfl) (by exact fun _ _ _ h => h) (.inr HC.out) (by kernel_rfl) (fun w => by (repeat (rename ∀ (_ : Act) (_ : World), _ => hK9; clear hK9)); go_simp; rfl) ?_
  (try simp only [aP, aN, aT, aZ, aS])
  refine k_any 4 (v := _) (by simp only [aG, aH, aI]; rfl) (by kernel_rfl) (by kernel_rfl) (by kernel_rfl) (by kernel_rfl) (by exact fun _ _ _ h => h) (.inr HC.out) (by kernel_rfl) (fun w => by (repeat (rename ∀ (_ : Act) (_ : World), _ => hK9; clear hK9)); go_simp; rfl) ?_
  (try simp only [aP, aN, aT, aZ, aS])
  refine k_load 5 (by simp only [aG, aH, aI]; rfl) (by kernel_rfl) (by kernel_rfl) (by kernel_rfl) (by kernel_rfl) (by exact fun _ _ _ h => h) HC.out (by kernel_rfl) rfl rfl 0 rfl ((agT _ (by decide)).trans rfl) rfl ?_
  (try simp only [aP, aN, aT, aZ, aS])
  refine k_any 7 (v := _) (by simp only [aG, aH, aI]; rfl) (by kernel_rfl) (by kernel_rfl) (by kernel_rfl) (by kernel_rfl) (by exact fun _ _ _ h => h) (.inr HC.out) (by kernel_rfl) (fun w => by (repeat (rename ∀ (_ : Act) (_ : World), _ => hK9; clear hK9)); go_simp; rfl) ?_
  (try simp only [aP, aN, aT, aZ, aS])
  refine k_any 8 (v := _) (by simp only [aG, aH, aI]; rfl) (by kernel_rfl) (by kernel_rfl) (by kernel_rfl) (by kernel_rfl) (by exact fun _ _ _ h => h) (.inr HC.out) (by kernel_rfl) (fun w => by (repeat (rename ∀ (_ : Act) (_ : World), _ => hK9; clear hK9)); go_simp; rfl) ?_
  (try simp only [aP, aN, aT, aZ, aS])
  refine k_load 9 (by simp only [aG, aH, aI]; rfl) (by kernel_rfl) (by kernel_rfl) (by kernel_rfl) (by kernel_rfl) (by exact fun _ _ _ h => h) HC.out (by kernel_rfl) rfl rfl 0 rfl ((agT _ (by decide)).trans rfl) rfl ?_
  (try simp only [aP, aN, aT, aZ, aS])
  refine k_call 2 (by simp only [aG, aH, aI]; rfl) (by kernel_rfl) (by kernel_rfl) rfl (vs := #[.slice s.nA s.nodes.length s.nc]) (by kernel_rfl) (fnT _ (by decide)) (clone_any s.nA s.nc s.nodes _ (HK.out.rn.sh HS.out) HZN.out) (fun e w2 hpost => ?_); obtain ⟨A1, c1, S1, rfl, HS2⟩ := hpost; have HSN := (show SH w w2 [_, _, _] from HS.out.call HS2); have HC1 := HSN.pick [0] rfl (by decide); refine ⟨_, rfl, HC1, ?_⟩; clear HS HC; have HS := Aside0.mk HSN; have HC := Aside0.mk HC1; clear HSN HC1
  (try simp only [aP, aN, aT, aZ, aS])
  refine k_any 11 (v := _) (by simp only [aG, aH, aI]; rfl) (by kernel_rfl) (by kernel_rfl) (by kernel_rfl) (by kernel_rfl) (by exact fun _ _ _ h => h) (.inr HC.out) (by kernel_rfl) (fun w => by (repeat (rename ∀ (_ : Act) (_ : World), _ => hK9; clear hK9)); go_simp; rfl) ?_
  (try simp only [aP, aN, aT, aZ, aS])
  refine k_call 6 (by simp only [aG, aH, aI]; rfl) (by kernel_rfl) (by kernel_rfl) rfl (vs := #[.slice s.hA s.held.length s.hc]) (by kernel_rfl) (fnT _ (by decide)) (Led.cloneHeld_any s.hA s.held.length s.hc s.held _ (HK.out.rh.sh HS.out) (by omega)) (fun e w2 hpost => ?_); obtain ⟨v, S2, rfl, HS2⟩ := hpost; obtain ⟨A2, c2, rfl, hc2, _⟩ := row_rd HS2 0 rfl; have HC2 := Aside0.mk hc2; clear hc2; have HSN := (show SH w w2 [_, _, _, _] from HS.out.call HS2); have HC1 := HSN.pick [0] rfl (by decide); refine ⟨_, rfl, HC1, ?_⟩; clear HS HC; have HS := Aside0.mk HSN; have HC := Aside0.mk HC1; clear HSN HC1
  (try simp only [aP, aN, aT, aZ, aS])
  refine k_call 10 (by simp only [aG, aH, aI]; rfl) (by kernel_rfl) (by kernel_rfl) rfl (vs := #[.slice s.lA s.last.length s.lc]) (by kernel_rfl) (fnT _ (by decide)) (Led.cloneLast_any s.lA s.last.length s.lc s.last _ (HK.out.rl.sh HS.out) (by omega)) (fun e w2 hpost => ?_); obtain ⟨v, S3, rfl, HS2⟩ := hpost; obtain ⟨A3, c3, rfl, _, _⟩ := row_rd HS2 0 rfl; have HSN := (show SH w w2 [_, _, _, _, _] from HS.out.call HS2); have HC1 := HSN.pick [0] rfl (by decide); refine ⟨_, rfl, HC1, ?_⟩; clear HS HC; have HS := Aside0.mk HSN; have HC := Aside0.mk HC1; clear HSN HC1
  (try simp only [aP, aN, aT, aZ, aS])
  refine k_one 12 (by simp only [aG, aH, aI]; rfl) (by kernel_rfl) ?_
  ((with_reducible refine gSt rfl ?_); refine st2 HS.out rfl rfl rfl rfl (by repeat (first | exact AtI.here | apply AtI.there)) ?_; (first | refine sv (u := .agg (List.toArray _)) rfl ?_ | refine sv (u := .int _ _) rfl ?_ | refine sv (u := .slice _ _ _) rfl ?_ | refine sv (u := .bool _) rfl ?_ | refine sv (u := .pointer _) rfl ?_); refine sw (szT _ (by decide)) rfl (lb rfl) ?_; clear HS; intro w1 HS1; (simp only [Ent.enc, Led.Held.enc, Led.Last.enc, segOf, aL, aZ, aS, putSeg] at HS1); have HS := Aside0.mk HS1; clear HS1; try simp only [aP, aN, aT, aZ, aS])
  refine k_nil (.inl (by kernel_rfl)) ?_
  (try simp only [aP, aN, aT, aZ, aS])
  refine k_any 13 (v := _) (by simp only [aG, aH, aI]; rfl) (by kernel_rfl) (by kernel_rfl) (by kernel_rfl) (by kernel_rfl) (by exact fun _ _ _ h => h) (.inl (by kernel_rfl)) (by kernel_rfl) (fun w => by (repeat (rename ∀ (_ : Act) (_ : World), _ => hK9; clear hK9)); go_simp; rfl) ?_
  (try simp only [aP, aN, aT, aZ, aS])
  refine k_any 14 (v := _) (by simp only [aG, aH, aI]; rfl) (by kernel_rfl) (by kernel_rfl) (by kernel_rfl) (by kernel_rfl) (by exact fun _ _ _ h => h) (.inl (by kernel_rfl)) (by kernel_rfl) (fun w => by (repeat (rename ∀ (_ : Act) (_ : World), _ => hK9; clear hK9)); go_simp; rfl) ?_
  (try simp only [aP, aN, aT, aZ, aS])
  refine k_one 15 (by simp only [aG, aH, aI]; rfl) (by kernel_rfl) ?_
  ((with_reducible refine gSt rfl ?_); refine st2 HS.out rfl rfl rfl rfl (by repeat (first | exact AtI.here | apply AtI.there)) ?_; (first | refine sv (u := .agg (List.toArray _)) rfl ?_ | refine sv (u := .int _ _) rfl ?_ | refine sv (u := .slice _ _ _) rfl ?_ | refine sv (u := .bool _) rfl ?_ | refine sv (u := .pointer _) rfl ?_); refine sw (szT _ (by decide)) rfl (lb rfl) ?_; clear HS; intro w1 HS1; (simp only [Ent.enc, Led.Held.enc, Led.Last.enc, segOf, aL, aZ, aS, putSeg] at HS1); have HS := Aside0.mk HS1; clear HS1; try simp only [aP, aN, aT, aZ, aS])
  refine k_nil (.inl (by kernel_rfl)) ?_
  (try simp only [aP, aN, aT, aZ, aS])
  refine k_any 16 (v := _) (by simp only [aG, aH, aI]; rfl) (by kernel_rfl) (by kernel_rfl) (by kernel_rfl) (by kernel_rfl) (by exact fun _ _ _ h => h) (.inl (by kernel_rfl)) (by kernel_rfl) (fun w => by (repeat (rename ∀ (_ : Act) (_ : World), _ => hK9; clear hK9)); go_simp; rfl) ?_
  (try simp only [aP, aN, aT, aZ, aS])
  refine k_any 17 (v := _) (by simp only [aG, aH, aI]; rfl) (by kernel_rfl) (by kernel_rfl) (by kernel_rfl) (by kernel_rfl) (by exact fun _ _ _ h => h) (.inl (by kernel_rfl)) (by kernel_rfl) (fun w => by (repeat (rename ∀ (_ : Act) (_ : World), _ => hK9; clear hK9)); go_simp; rfl) ?_
  (try simp only [aP, aN, aT, aZ, aS])
  refine k_one 18 (by simp only [aG, aH, aI]; rfl) (by kernel_rfl) ?_
  ((with_reducible refine gSt rfl ?_); refine st2 HS.out rfl rfl rfl rfl (by repeat (first | exact AtI.here | apply AtI.there)) ?_; (first | refine sv (u := .agg (List.toArray _)) rfl ?_ | refine sv (u := .int _ _) rfl ?_ | refine sv (u := .slice _ _ _) rfl ?_ | refine sv (u := .bool _) rfl ?_ | refine sv (u := .pointer _) rfl ?_); refine sw (szT _ (by decide)) rfl (lb rfl) ?_; clear HS; intro w1 HS1; (simp only [Ent.enc, Led.Held.enc, Led.Last.enc, segOf, aL, aZ, aS, putSeg] at HS1); have HS := Aside0.mk HS1; clear HS1; try simp only [aP, aN, aT, aZ, aS])
  refine k_nil (.inl (by kernel_rfl)) ?_
  (try simp only [aP, aN, aT, aZ, aS])
  refine k_done (by kernel_rfl) ?_ _
  go_wp2_with (first | ((first | ((first | ((with_reducible refine gA rfl ?_); refine sh_alloc HS.out rfl rfl (zeT _ (by decide)) ?_) | ((with_reducible refine gB rfl ?_); refine bx HS.out rfl rfl ?_; first | refine bv (v := .agg (List.toArray _)) rfl ?_ | refine bv (v := .int _ _) rfl ?_ | refine bv (v := .slice _ _ _) rfl ?_ | refine bv (v := .bool _) rfl ?_ | refine bv (v := .pointer _) rfl ?_) | ((with_reducible refine gL rfl ?_); refine sh_lit HS.out rfl rfl (by go_simp; exact ⟨⟨rfl, rfl⟩, rfl⟩) ?_)); clear HS; intro g w1 hg HS1; (simp only [Ent.enc, Led.Held.enc, Led.Last.enc, zeF, segOf, aL, aC, aE] at HS1); have HS := Aside0.mk HS1; clear HS1) | ((with_reducible refine gLd rfl ?_); refine ld2 HS.out rfl rfl rfl (by repeat (first | exact AtI.here | apply AtI.there)) ?_; (first | refine LdK.one ((agT _ (by decide)).trans rfl) rfl ?_ | (refine LdK.agg ((agT _ (by decide)).trans rfl) (szT _ (by decide)) (lb rfl) ?_; try simp only [szL, aP, aN, aT, aZ, aS, aD, aF, aJ, aK, aM, aO]))) | ((with_reducible refine gSt rfl ?_); refine st2 HS.out rfl rfl rfl rfl (by repeat (first | exact AtI.here | apply AtI.there)) ?_; (first | refine sv (u := .agg (List.toArray _)) rfl ?_ | refine sv (u := .int _ _) rfl ?_ | refine sv (u := .slice _ _ _) rfl ?_ | refine sv (u := .bool _) rfl ?_ | refine sv (u := .pointer _) rfl ?_); refine sw (szT _ (by decide)) rfl (lb rfl) ?_; clear HS; intro w1 HS1; (simp only [Ent.enc, Led.Held.enc, Led.Last.enc, segOf, aL, aZ, aS, putSeg] at HS1); have HS := Aside0.mk HS1; clear HS1)); try simp only [aP, aN, aT, aZ, aS]))
  refine bodyPost_ret (results_cell_row rfl _ _ _ _ _ _ _ rfl (HS.out.blk 1 rfl) Try.underlying29 rfl ((szT _ (by decide)).trans rfl)) rfl ?_
  exact ⟨A1, c1, A2, c2, A3, c3, S1, S2, S3, rfl, HC2.out, HS.out.pick [2, 3, 4] rfl (by decide)⟩
set_option maxRecDepth 100000 in
theorem cloneEnts_any (A : Option Addr) (n c : Nat) (l : List Ent) (w : World) (hr : Rd Ent.enc 9 w A n l) (hn : n * 88 ≤ 140737488351232) :
    Calls Try.prog 73 #[.slice A n c] w (fun e w' => ∃ v S, e = .returned v ∧ SH w w' [row entK 52 v l S]) := by
  have HR := Aside0.mk hr
  have HS := Aside0.mk (SH.start w)
  cases A with
  | none =>
    have h0 : n = 0 := by
      rcases Nat.eq_zero_or_pos n with h | h
      · exact h
      · obtain ⟨ad, he⟩ := hr.addr h; cases he
    have hl : l = [] := List.length_eq_zero_iff.1 (hr.len.1.trans h0)
    subst h0 hl
    clear hr
    have HNIL := Aside0.mk (fun w => Go.Lib.run_eql_slice_nil (P := Try.prog) w 30 _ none 0 c 0 0 Try.underlying30)
    go_enter Try.func73, Try.ntmps73
    go_wp2_with (simp only [HNIL.out])
    go_ret
    first | exact ⟨_, _, rfl, HS.out.nil entK 52⟩ | exact ⟨_, rfl, _, HS.out.nil entK 52⟩
  | some ad =>
    clear hr
    have HNIL := Aside0.mk (fun w => Go.Lib.run_eql_slice_nil (P := Try.prog) w 30 _ (some ad) n c 0 0 Try.underlying30)
    go_enter Try.func73, Try.ntmps73
    go_wp2_with (first | (simp only [HNIL.out]) | ((with_reducible refine gC (b := .append) rfl ?_); refine sh_append_blk Ent.len Ent.one HS.out rfl rfl 0 ([] : List Ent) rfl rfl rfl rfl (HR.out.sh HS.out) Try.underlying30 infoEnt rfl (by decide) (by decide) (by simp only [List.length_nil]; omega) ?_; clear HS; intro v1 w1 S1 HS1; (simp only [aZ, aS] at HS1); have HS := Aside0.mk HS1; clear HS1; try simp only [aP, aN, aT, aZ, aS]; obtain ⟨A1, c1, rfl, hc1, _⟩ := row_rd HS.out 0 rfl) | ((first | ((first | ((with_reducible refine gA rfl ?_); refine sh_alloc HS.out rfl rfl (zeT _ (by decide)) ?_) | ((with_reducible refine gB rfl ?_); refine bx HS.out rfl rfl ?_; first | refine bv (v := .agg (List.toArray _)) rfl ?_ | refine bv (v := .int _ _) rfl ?_ | refine bv (v := .slice _ _ _) rfl ?_ | refine bv (v := .bool _) rfl ?_ | refine bv (v := .pointer _) rfl ?_) | ((with_reducible refine gL rfl ?_); refine sh_lit HS.out rfl rfl (by go_simp; exact ⟨⟨rfl, rfl⟩, rfl⟩) ?_)); clear HS; intro g w1 hg HS1; (simp only [Ent.enc, Led.Held.enc, Led.Last.enc, zeF, segOf, aL, aC, aE] at HS1); have HS := Aside0.mk HS1; clear HS1)); try simp only [aP, aN, aT, aZ, aS]))
    go_ret
    exact ⟨_, _, rfl, HS.out⟩
end Go.Proofs.Ytekjihmepdhmeaa.Rlo

