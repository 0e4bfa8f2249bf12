import Derived.Test.YtekjihmepdhmeaaRlo7j
import Derived.Test.YtekjihmepdhmeaaSlXq
import Derived.Test.YtekjihmepdhmeaaNod1j
/- Lemmas towards the law: what of the text RloB it needs. -/
namespace Go.Proofs.Ytekjihmepdhmeaa.Rlo
open Go.RowKit Go.Proofs.YtekjihmepdhmeaaW.PrintWords Go.Proofs.Ytekjihmepdhmeaa.Sl
set_option linter.unusedVariables false
set_option linter.unusedSimpArgs false
theorem infoInt : (Try.prog.info? 3).map (fun i => (i.zero, i.size, i.bytes)) = some (some (.int .i64 0), 1, 8) := by kernel_rfl
theorem infoEnt : (Try.prog.info? 52).map (fun i => (i.zero, i.size, i.bytes)) = some (some (.agg #[.int .u64 0, .int .i64 0, .int .i64 0, .int .i64 0, .slice none 0 0, .int .u64 0, .int .u64 0, .int .u64 0, .int .u64 0]), 9, 88) := by kernel_rfl
theorem infoHeld : (Try.prog.info? 72).map (fun i => (i.zero, i.size, i.bytes)) = some (some (.agg #[.int .i64 0, .int .i64 0, .int .u64 0, .int .u64 0, .int .u64 0]), 5, 40) := by kernel_rfl
theorem infoLast : (Try.prog.info? 76).map (fun i => (i.zero, i.size, i.bytes)) = some (some (.agg #[.int .i64 0, .int .u64 0, .int .u64 0, .int .i64 0, .int .i64 0, .int .u64 0]), 6, 48) := by kernel_rfl
def entK : Kd Ent := flk Ent.enc 9 Ent.len Ent.one
/-- without the place where its nodes lie -/
def Ent.data (e : Ent) : Ent := { e with A := none, c := 0 }
/-- e with its nodes at another place -/
def Ent.at (e : Ent) (A : Option Addr) (c : Nat) : Ent := { e with A := A, c := c }
/-- the nodes' blocks of some entries -/
def nodesI (l : List Ent) (S : Nat → Prop) : HP where
  fp := S
  ok := fun w => ∀ e ∈ l, e.ok w ∧ inS S e.A
  loc := fun h k e he => ⟨{ (k e he).1 with rd := (k e he).1.rd.loc (fun ad ea => h _ ((k e he).2 ad ea)) }, (k e he).2⟩
set_option maxHeartbeats 800000 in
theorem cpCmd_any (x : Ent) (w : World) (hk : x.ok w) (hz : x.nodes.length * 8 ≤ 140737488351232) : Calls Try.prog 47 #[.agg #[.int .i64 x.kind, .int .i64 x.node, .int .i64 x.token, .slice x.A x.nodes.length x.c, .int .u64 x.boot, .int .u64 x.seq, .int .u64 x.serial, .int .u64 x.stamp]] w (fun e w' => ∃ A c S, e = .returned (.agg #[.int .i64 x.kind, .int .i64 x.node, .int .i64 x.token, .slice A x.nodes.length c, .int .u64 x.boot, .int .u64 x.seq, .int .u64 x.serial, .int .u64 x.stamp]) ∧ SH w w' [rdI (ints .i64) 1 A x.nodes.length x.nodes S]) := by
  have HK := Aside0.mk hk
  clear hk
  have HS := Aside0.mk (SH.start w)
  go_enter Try.func47, Try.ntmps47
  go_wp2_with (first | ((with_reducible refine gC (b := .append) rfl ?_); refine sh_append_nil (ints_len .i64) (ints_one .i64) HS.out rfl rfl rfl rfl (HK.out.rd.sh HS.out) Try.underlying23 infoInt rfl (by decide) (by decide) (by omega) ?_; clear HS; intro v1 w1 S1 HS1; (simp only [aC, aE] at HS1); have HS := Aside0.mk HS1; clear HS1; try simp only [aP, aN, aT, aZ, aS]; obtain ⟨A1, c1, rfl, hc1, _⟩ := row_rd HS.out 2 rfl) | ((first | ((first | ((with_reducible refine gA rfl ?_); refine sh_alloc HS.out rfl rfl (zeT _ (by decide)) ?_) | ((with_reducible refine gB rfl ?_); refine bx HS.out rfl rfl ?_; first | refine bv (v := .agg (List.toArray _)) rfl ?_ | refine bv (v := .int _ _) rfl ?_ | refine bv (v := .slice _ _ _) rfl ?_ | refine bv (v := .bool _) rfl ?_ | refine bv (v := .pointer _) rfl ?_) | ((with_reducible refine gL rfl ?_); refine sh_lit HS.out rfl rfl (by go_simp; exact ⟨⟨rfl, rfl⟩, rfl⟩) ?_)); clear HS; intro g w1 hg HS1; (simp only [Ent.enc, Led.Held.enc, Led.Last.enc, zeF, segOf, aL, aC, aE] at HS1); have HS := Aside0.mk HS1; clear HS1) | ((with_reducible refine gLd rfl ?_); refine ld2 HS.out rfl rfl rfl (by repeat (first | exact AtI.here | apply AtI.there)) ?_; (first | refine LdK.one ((agT _ (by decide)).trans rfl) rfl ?_ | (refine LdK.agg ((agT _ (by decide)).trans rfl) (szT _ (by decide)) (lb rfl) ?_; try simp only [szL, aP, aN, aT, aZ, aS, aD, aF, aJ, aK, aM, aO]))) | ((with_reducible refine gSt rfl ?_); refine st2 HS.out rfl rfl rfl rfl (by repeat (first | exact AtI.here | apply AtI.there)) ?_; (first | refine sv (u := .agg (List.toArray _)) rfl ?_ | refine sv (u := .int _ _) rfl ?_ | refine sv (u := .slice _ _ _) rfl ?_ | refine sv (u := .bool _) rfl ?_ | refine sv (u := .pointer _) rfl ?_); refine sw (szT _ (by decide)) rfl (lb rfl) ?_; clear HS; intro w1 HS1; (simp only [Ent.enc, Led.Held.enc, Led.Last.enc, segOf, aL, aZ, aS, putSeg] at HS1); have HS := Aside0.mk HS1; clear HS1)); try simp only [aP, aN, aT, aZ, aS]))
  refine bodyPost_ret (results_cell_row rfl _ _ _ _ _ _ _ rfl (HS.out.blk 1 rfl) Try.underlying50 rfl ((szT _ (by decide)).trans rfl)) rfl ?_
  exact ⟨_, _, _, rfl, (HS.out.pick [2] rfl (by decide)).toRd 0 rfl⟩
set_option maxHeartbeats 3200000 in
set_option maxRecDepth 100000 in
theorem cpEnts_any (A : Option Addr) (c : Nat) (l : List Ent) (w : World) (hr : Rd Ent.enc 9 w A l.length l) (he : ∀ e ∈ l, e.ok w) (hz : l.length * 88 ≤ 140737488351232) (hz2 : ∀ e ∈ l, e.nodes.length * 8 ≤ 140737488351232) :
    Calls Try.prog 28 #[.slice A l.length c] w (fun e w' => ∃ A' c' l' S1 S2, e = .returned (.slice A' l.length c') ∧ l'.map Ent.data = l.map Ent.data ∧ SH w w' [row entK 52 (.slice A' l.length c') l' S1, nodesI l' S2]) := by
  have HR := Aside0.mk hr
  have HE := Aside0.mk he
  have HZ := Aside0.mk hz2
  have hm := hr.len.2
  clear hr he hz2
  have HS := Aside0.mk (SH.start w)
  go_enter Try.func28, Try.ntmps28
  go_wp2
  have HS := Aside0.mk ((HS.out.nil entK 52).push (Below.refl _ _) (i := nodesI [] (fun _ => False)) (fun e he => by cases he) (fun b hb => hb.elim))
  go_loopw [3, 8] (fun v3 v8 wr => ∃ (k : Nat) (l' : List Ent) (S1 S2 : Nat → Prop), k ≤ l.length ∧ v8 = .int .i64 k ∧ Aside0 (l'.map Ent.data = (l.take k).map Ent.data) ∧ Aside0 (SH w wr [row entK 52 v3 l' S1, nodesI l' S2])) (fun _ v8 _ => l.length - (intOf v8).toNat)
  case atStart => exact ⟨0, [], _, _, Nat.zero_le _, rfl, ⟨rfl⟩, HS⟩
  case round =>
    clear HS
    obtain ⟨k, l', S1, S2, hk, rfl, HD, HS⟩ := hrel
    by_cases hlt : k < l.length
    · have HR1 := HR.out.sh HS.out
      obtain ⟨ad, rfl⟩ := HR1.addr (by omega)
      have HRR := Aside0.mk HR1
      clear HR1
      generalize hx : l.getD k default = x
      have hxm : x ∈ l := getD_in hlt hx
      have HXO := Aside0.mk (HE.out x hxm)
      have HXZ := Aside0.mk (HZ.out x hxm)
      have HTK := Aside0.mk (show (l.take (k + 1)).map Ent.data = (l.take k).map Ent.data ++ [x.data] by rw [Led.take_succ_getD default hlt, List.map_append, hx]; rfl)
      have HX := Aside0.mk hx
      clear hx hxm
      obtain ⟨A0, c0, rfl, hlc, _⟩ := row_rd HS.out 0 rfl
      have hl' : l'.length = k := by
        have := congrArg List.length HD.out
        rw [List.length_map, List.length_map, List.length_take] at this
        omega
      have HLIM := Aside0.mk (show (l'.length + 1) * 88 ≤ 140737488355328 by omega)
      have HLK := Aside0.mk hl'
      clear hl'
      go_upto_region 5 with (first | ((with_reducible refine gLd rfl ?_); refine rd_load HRR.out rfl rfl (i := k) rfl hlt default Ent.len ((agT _ (by decide)).trans rfl) (szT _ (by decide)) ?_; intro x hx; obtain rfl := HX.out.symm.trans hx; (try simp only [Ent.enc, Led.Held.enc, Led.Last.enc, aP, aN, aT, aZ, aS])) | ((first | ((first | ((with_reducible refine gA rfl ?_); refine sh_alloc HS.out rfl rfl (zeT _ (by decide)) ?_) | ((with_reducible refine gB rfl ?_); refine bx HS.out rfl rfl ?_; first | refine bv (v := .agg (List.toArray _)) rfl ?_ | refine bv (v := .int _ _) rfl ?_ | refine bv (v := .slice _ _ _) rfl ?_ | refine bv (v := .bool _) rfl ?_ | refine bv (v := .pointer _) rfl ?_) | ((with_reducible refine gL rfl ?_); refine sh_lit HS.out rfl rfl (by go_simp; exact ⟨⟨rfl, rfl⟩, rfl⟩) ?_)); clear HS; intro g w1 hg HS1; (simp only [Ent.enc, Led.Held.enc, Led.Last.enc, zeF, segOf, aL, aC, aE] at HS1); have HS := Aside0.mk HS1; clear HS1)); try simp only [aP, aN, aT, aZ, aS]) | ((with_reducible refine gSt rfl ?_); refine st2 HS.out rfl rfl rfl rfl (by repeat (first | exact AtI.here | apply AtI.there)) ?_; (first | refine sv (u := .agg (List.toArray _)) rfl ?_ | refine sv (u := .int _ _) rfl ?_ | refine sv (u := .slice _ _ _) rfl ?_ | refine sv (u := .bool _) rfl ?_ | refine sv (u := .pointer _) rfl ?_); refine sw (szT _ (by decide)) rfl (lb rfl) ?_; clear HS; intro w1 HS1; (simp only [Ent.enc, Led.Held.enc, Led.Last.enc, segOf, aL, aZ, aS, putSeg] at HS1); have HS := Aside0.mk HS1; clear HS1; try simp only [aP, aN, aT, aZ, aS]))
      have HC := Aside0.mk (HS.out.pick [2] rfl (by decide))
      refine held_start mixed HC.out (fun HC1 => ?_)
      have HS1 := HS.out.drew
      clear HS HC
      have HS := Aside0.mk HS1
      have HC := Aside0.mk HC1
      clear HS1 HC1
      refine h_val 0 (v := _) (by simp only [aG, aH, aI]; rfl) (by kernel_rfl) (by kernel_rfl) (by kernel_rfl) (by exact fun _ _ _ h => h) HC.out (by kernel_rfl) (fun w hs => by (repeat (rename ∀ (_ : Act) (_ : World), _ => hK9; clear hK9)); go_simp; rfl) ?_
      (try simp only [aP, aN, aT, aZ, aS])
      refine h_val 1 (v := _) (by simp only [aG, aH, aI]; rfl) (by kernel_rfl) (by kernel_rfl) (by kernel_rfl) (by exact fun _ _ _ h => h) HC.out (by kernel_rfl) (fun w hs => by (repeat (rename ∀ (_ : Act) (_ : World), _ => hK9; clear hK9)); go_simp; rfl) ?_
      (try simp only [aP, aN, aT, aZ, aS])
      refine h_load 2 (by simp only [aG, aH, aI]; rfl) (by kernel_rfl) (by kernel_rfl) (by kernel_rfl) (by exact fun _ _ _ h => h) HC.out (by kernel_rfl) rfl rfl 0 rfl ((agT _ (by decide)).trans rfl) rfl ?_
      (try simp only [aP, aN, aT, aZ, aS])
      refine h_val 3 (v := _) (by simp only [aG, aH, aI]; rfl) (by kernel_rfl) (by kernel_rfl) (by kernel_rfl) (by exact fun _ _ _ h => h) HC.out (by kernel_rfl) (fun w hs => by (repeat (rename ∀ (_ : Act) (_ : World), _ => hK9; clear hK9)); go_simp; rfl) ?_
      (try simp only [aP, aN, aT, aZ, aS])
      refine h_loads 4 (by simp only [aG, aH, aI]; rfl) (by kernel_rfl) (by kernel_rfl) (by kernel_rfl) (v := _) (by exact fun _ _ _ h => h) HC.out (by kernel_rfl) rfl rfl 0 rfl ((agT _ (by decide)).trans rfl) (szT _ (by decide)) (lb rfl) rfl ?_
      (try simp only [szL, aP, aN, aT, aZ, aS, aD, aF, aJ, aK, aM, aO])
      (try simp only [aP, aN, aT, aZ, aS])
      refine h_call 5 (by simp only [aG, aH, aI]; rfl) (by kernel_rfl) (by kernel_rfl) rfl (vs := #[.agg #[.int .i64 x.kind, .int .i64 x.node, .int .i64 x.token, .slice x.A x.nodes.length x.c, .int .u64 x.boot, .int .u64 x.seq, .int .u64 x.serial, .int .u64 x.stamp]]) (by kernel_rfl) (fnT _ (by decide)) (cpCmd_any x _ (HXO.out.sh HS.out) HXZ.out) (fun e w2 hpost => ?_); obtain ⟨A', c', S', rfl, HS2⟩ := hpost; have HS3 := HS.out.call HS2; simp only [aC, aE] at HS3; have HC1 := HS3.pick [2] rfl (by decide); refine ⟨_, rfl, HC1, ?_⟩; clear HS HC HS2; have HS := Aside0.mk HS3; have HC := Aside0.mk HC1; clear HS3 HC1
      (try simp only [aP, aN, aT, aZ, aS])
      refine h_val 6 (v := _) (by simp only [aG, aH, aI]; rfl) (by kernel_rfl) (by kernel_rfl) (by kernel_rfl) (by exact fun _ _ _ h => h) HC.out (by kernel_rfl) (fun w hs => by (repeat (rename ∀ (_ : Act) (_ : World), _ => hK9; clear hK9)); go_simp; rfl) ?_
      (try simp only [aP, aN, aT, aZ, aS])
      refine h_one 7 (by simp only [aG, aH, aI]; rfl) (by kernel_rfl) ?_
      ((with_reducible refine gL rfl ?_); refine sh_lit HS.out rfl rfl (by go_simp; exact ⟨⟨rfl, rfl⟩, rfl⟩) ?_; clear HS; intro g w1 hg HS1; (simp only [Ent.enc, Led.Held.enc, Led.Last.enc, segOf, aL, aC, aE] at HS1); have HS := Aside0.mk HS1; clear HS1; try simp only [aP, aN, aT, aZ, aS])
      have HC1 := HS.out.pick [2] rfl (by decide)
      clear HC
      have HC := Aside0.mk HC1
      clear HC1
      refine only_nil HC.out ?_
      (try simp only [aP, aN, aT, aZ, aS])
      refine h_one 8 (by simp only [aG, aH, aI]; rfl) (by kernel_rfl) ?_
      ((with_reducible refine gC (b := .append) rfl ?_); refine sh_append HS.out rfl rfl rfl 0 rfl rfl (Rd.one Ent.len (x.at A' c') (HS.out.blk 4 rfl)) Try.underlying30 infoEnt rfl (by decide) (by decide) HLIM.out ?_; clear HS; intro v1 w1 S1 HS1; (simp only [aZ, aS] at HS1); have HS := Aside0.mk HS1; clear HS1; try simp only [aP, aN, aT, aZ, aS])
      have HC1 := HS.out.pick [2] rfl (by decide)
      clear HC
      have HC := Aside0.mk HC1
      clear HC1
      refine only_nil HC.out ?_
      (try simp only [aP, aN, aT, aZ, aS])
      refine h_val 9 (v := _) (by simp only [aG, aH, aI]; rfl) (by kernel_rfl) (by kernel_rfl) (by kernel_rfl) (by exact fun _ _ _ h => h) HC.out (by kernel_rfl) (fun w hs => by (repeat (rename ∀ (_ : Act) (_ : World), _ => hK9; clear hK9)); go_simp; rfl) ?_
      (try simp only [aP, aN, aT, aZ, aS])
      refine wpAnyH_done (by kernel_rfl) ?_ _
      go_wp2
      have HS1 := HS.out.merge 1 3 (by decide) (i' := nodesI (l' ++ [x.at A' c']) (fun b => S2 b ∨ S' b)) rfl rfl (fun k1 k2 e he => by
        rcases List.mem_append.1 he with h1 | h1
        · exact ⟨(k1 e h1).1, (k1 e h1).2.mono (fun b hb => .inl hb)⟩
        · obtain rfl := List.mem_singleton.1 h1
          exact ⟨{ HXO.out with rd := k2.1 }, k2.2.mono (fun b hb => .inr hb)⟩) (fun b hb => hb)
      have HS2 := HS1.pick [0, 1] rfl (by decide)
      clear HS HS1
      have HS := Aside0.mk HS2
      clear HS2
      go_roundw
      case rel => exact ⟨k + 1, l' ++ [x.at A' c'], _, _, by omega, by go_num, ⟨by rw [List.map_append, HD.out, HTK.out]; rfl⟩, HS⟩
      case measure => simp [intOf]; omega
    · obtain rfl : k = l.length := by omega
      obtain ⟨A0, c0, rfl, hlc, _⟩ := row_rd HS.out 0 rfl
      have hd := HD.out
      rw [List.take_length] at hd
      have hl' : l'.length = l.length := by
        have := congrArg List.length hd
        rwa [List.length_map, List.length_map] at this
      have HF := Aside0.mk (And.intro hd hl')
      clear hd hl'
      go_wp2
      go_ret
      refine ⟨A0, c0, l', S1, S2, ?_, HF.out.1, ?_⟩
      · rw [← HF.out.2]; rfl
      · rw [← HF.out.2]; exact HS.out
end Go.Proofs.Ytekjihmepdhmeaa.Rlo

