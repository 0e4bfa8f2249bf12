/- Lemmas towards the law: what of the text RlpJ it needs. -/
import Derived.Test.YtekjihmepdhmeaaRlpIq
import Derived.Test.YtekjihmepdhmeaaRloHq
namespace Go.Proofs.Ytekjihmepdhmeaa.Rlo
open Go.RowKit Go.Proofs.YtekjihmepdhmeaaW.PrintWords Go.Proofs.Ytekjihmepdhmeaa.Sl
set_option linter.unusedVariables false
set_option linter.unusedSimpArgs false
def cutA (A : Option Addr) (c k : Nat) : Option Addr := if c = k then A else A.map (·.add (k * 9))
theorem run_sliceLo {P : Program} {a : Act} {o : Oper} {t e : TypeId} {x lo : Operand} (ho : o.op = .slice t x (some lo) none none) {A : Option Addr} {n c k : Nat} (hx : a.eval x = .slice A n c) (hlo : a.eval lo = .int .u64 k) (ht : P.underlying t = some (.slice e)) (hs : (P.info? e).map (·.size) = some 9) (hk : k ≤ n) (hn : n ≤ c) {w : World} :
    (execOp a.eval o).run P w = .ok (.value (.slice (cutA A c k) (n - k) (c - k))) w := by
  obtain ⟨i, hi, hsz⟩ := Option.map_eq_some_iff.1 hs
  have h1 : (0 : Int) ≤ k ∧ (k : Int) ≤ n := ⟨by omega, by omega⟩
  unfold execOp
  simp only [ho, Option.map_some, Option.map_none, hx, hlo]
  simp [Instr.sliceAt, Instr.slice, Instr.sliceBounds, Instr.sliceBound, asIntOf, run_underlying ht, sizeOf, typeInfo, hi, hsz, h1, cutA]
  intro h; omega
theorem cutA_rd {w : World} {A : Option Addr} {n c k : Nat} {xs : List Ent} (h : Rd Ent.enc 9 w A n xs) (hk : k ≤ n) (hn : n ≤ c) : Rd Ent.enc 9 w (cutA A c k) (n - k) (xs.drop k) := by
  have hl := h.len
  rcases Nat.lt_or_ge k n with h1 | h1
  · obtain ⟨ad, rfl⟩ := h.addr (by omega)
    unfold cutA
    rw [if_neg (by omega)]
    exact rd_drop h hk
  · refine ⟨by rw [List.length_drop]; omega, by omega, fun h0 => absurd h0 (by omega)⟩
theorem cutA_in {S : Nat → Prop} {A : Option Addr} {c k : Nat} (h : inS S A) : inS S (cutA A c k) := by
  unfold cutA
  split
  · exact h
  · intro ad e
    cases A with
    | none => cases e
    | some a =>
      injection e with e
      subst e
      rw [Sl.add_block]
      exact h a rfl
def ComeShot (w0 : World) (F : HP) (d : Hrd) (s : Sht) (k bH : Nat) (e : Ending) (w' : World) : Prop := ∃ (A1 A2 A3 : Option Addr) (c1 c2 c3 : Nat) (S1 S2 S3 : Nat → Prop), e = .returned (.bool true) ∧ s.held.length ≤ c2 ∧ SH w0 w' [blk bH [.int .u64 d.boot, .int .u64 d.term, .int .i64 d.vote, .int .u64 s.si, .int .u64 s.st, .slice A1 s.nodes.length c1, .int .i64 s.lim, .int .u64 s.nxt, .slice A2 s.held.length c2, .slice A3 s.last.length c3, .slice (cutA d.gA d.gc k) (d.log.length - k) (d.gc - k)] 32, F, row (intK .i64) 3 (.slice A1 s.nodes.length c1) s.nodes S1, row Led.heldK 72 (.slice A2 s.held.length c2) s.held S2, row Led.lastK 76 (.slice A3 s.last.length c3) s.last S3]
theorem comeShot_mk {w0 : World} {F : HP} {d : Hrd} {s : Sht} {k bH : Nat} {e : Ending} {w' : World} (h : ∃ (A1 A2 A3 : Option Addr) (c1 c2 c3 : Nat) (S1 S2 S3 : Nat → Prop), e = .returned (.bool true) ∧ s.held.length ≤ c2 ∧ SH w0 w' [blk bH [.int .u64 d.boot, .int .u64 d.term, .int .i64 d.vote, .int .u64 s.si, .int .u64 s.st, .slice A1 s.nodes.length c1, .int .i64 s.lim, .int .u64 s.nxt, .slice A2 s.held.length c2, .slice A3 s.last.length c3, .slice (cutA d.gA d.gc k) (d.log.length - k) (d.gc - k)] 32, F, row (intK .i64) 3 (.slice A1 s.nodes.length c1) s.nodes S1, row Led.heldK 72 (.slice A2 s.held.length c2) s.held S2, row Led.lastK 76 (.slice A3 s.last.length c3) s.last S3]) : ComeShot w0 F d s k bH e w' := h
set_option maxHeartbeats 6400000 in
set_option maxRecDepth 100000 in
theorem come_shots {w0 : World} {F : HP} (d : Hrd) (s : Sht) (k bH : Nat) (w : World) (HS0 : SH w0 w [blk bH [.int .u64 d.boot, .int .u64 d.term, .int .i64 d.vote, .int .u64 d.s.si, .int .u64 d.s.st, .slice d.s.nA d.s.nodes.length d.s.nc, .int .i64 d.s.lim, .int .u64 d.s.nxt, .slice d.s.hA d.s.held.length d.s.hc, .slice d.s.lA d.s.last.length d.s.lc, .slice d.gA d.log.length d.gc] 32, F]) (hF : ∀ w, F.ok w → d.ok w) (hg : hardOk d = true) (hso : s.ok w0) (hz : s.szd) (hh : s.held.length ≤ 1000) (hl : s.last.length ≤ 1000)
    (hsi : s.si = d.s.si + k) (hkn : k ≤ d.log.length) (hnc : d.log.length ≤ d.gc) (hst : termOf d s.si = (s.st, true)) :
    Calls Try.prog 56 #[.pointer (some ⟨bH, 0, none⟩), .agg #[.int .i64 5, .int .i64 0, .int .u64 0, .int .u64 0, .int .u64 0, .int .u64 0, .int .i64 0, .int .i64 0, .int .i64 0, .slice none 0 0, .int .u64 0, .int .u64 0, .int .u64 0, .int .u64 0, .int .u64 s.si, .int .u64 s.st, .slice s.nA s.nodes.length s.nc, .int .i64 s.lim, .int .u64 s.nxt, .slice s.hA s.held.length s.hc, .slice s.lA s.last.length s.lc]] w (ComeShot w0 F d s k bH) := by
  have HS := Aside0.mk HS0
  have hd0 := hF w (HS0.at 1 rfl)
  have HF := Aside0.mk hF
  have HSO := Aside0.mk hso
  have HZ := Aside0.mk hz
  have hln := hso.si
  have HG := Aside0.mk hg
  have hd1 := hd0.s.si.1
  have hd2 := hln.2
  have HT := Aside0.mk hst
  have f1 : decide (s.si < d.s.si) = false := by rw [decide_eq_false_iff_not]; omega
  have heq : (s.st == s.st) = true := beq_self_eq_true _
  have hsub : s.si - d.s.si = (k : Int) := by omega
  have hw1 : IntKind.u64.wrap (k : Int) = (k : Int) := IntWalk.u64_in _ (by omega)
  have HTM := Aside0.mk (fun w1 h => by
    have := hterm_any d s.si w1 h hg hln
    rw [hst] at this
    exact this)
  clear HS0 hd0 hF hso hz hg hst hsi hln
  go_enter Try.func56, Try.ntmps56
  go_upto_region 2 with (first | ((fail_if_success (have _ := bR)); ((with_reducible refine gB rfl ?_); refine bx HS.out rfl rfl ?_; (first | refine bv (v := .agg (List.toArray _)) rfl ?_ | refine bv (v := .int _ _) rfl ?_ | refine bv (v := .slice _ _ _) rfl ?_ | refine bv (v := .bool _) rfl ?_ | refine bv (v := .pointer _) rfl ?_); clear HS; intro bR w1 hbR HS1; (simp only [Ent.enc, Led.Held.enc, Led.Last.enc, segOf, aL, aC, aE] at HS1); have HS := Aside0.mk HS1; clear HS1; try simp only [aP, aN, aT, aZ, aS])) | ((first | ((first | ((with_reducible refine gA rfl ?_); refine sh_alloc HS.out rfl rfl (zeT _ (by decide)) ?_) | ((with_reducible refine gB rfl ?_); refine bx HS.out rfl rfl ?_; first | refine bv (v := .agg (List.toArray _)) rfl ?_ | refine bv (v := .int _ _) rfl ?_ | refine bv (v := .slice _ _ _) rfl ?_ | refine bv (v := .bool _) rfl ?_ | refine bv (v := .pointer _) rfl ?_) | ((with_reducible refine gL rfl ?_); refine sh_lit HS.out rfl rfl (by go_simp; exact ⟨⟨rfl, rfl⟩, rfl⟩) ?_)); clear HS; intro g w1 hg HS1; (simp only [Ent.enc, Led.Held.enc, Led.Last.enc, zeF, segOf, aL, aC, aE] at HS1); have HS := Aside0.mk HS1; clear HS1) | ((with_reducible refine gLd rfl ?_); refine ld2 HS.out rfl rfl rfl (by repeat (first | exact AtI.here | apply AtI.there)) ?_; (first | refine LdK.one ((agT _ (by decide)).trans rfl) rfl ?_ | (refine LdK.agg ((agT _ (by decide)).trans rfl) (szT _ (by decide)) (lb rfl) ?_; try simp only [szL, aP, aN, aT, aZ, aS, aD, aF, aJ, aK, aM, aO]))) | ((with_reducible refine gSt rfl ?_); refine st2 HS.out rfl rfl rfl rfl (by repeat (first | exact AtI.here | apply AtI.there)) ?_; (first | refine sv (u := .agg (List.toArray _)) rfl ?_ | refine sv (u := .int _ _) rfl ?_ | refine sv (u := .slice _ _ _) rfl ?_ | refine sv (u := .bool _) rfl ?_ | refine sv (u := .pointer _) rfl ?_); refine sw (szT _ (by decide)) rfl (lb rfl) ?_; clear HS; intro w1 HS1; (simp only [Ent.enc, Led.Held.enc, Led.Last.enc, segOf, aL, aZ, aS, putSeg] at HS1); have HS := Aside0.mk HS1; clear HS1)); try simp only [aP, aN, aT, aZ, aS]))
  ((with_reducible refine wp_region_sh mixed (by kernel_rfl) HS.out ?_); (repeat' (first | go_big_quiet_skip | ((with_reducible refine qMv rfl ?_); go_big_quiet_step (fail)) | ((with_reducible refine qAs rfl ?_); go_big_quiet_step (fail)) | ((with_reducible refine qPk rfl ?_); go_big_quiet_step (fail)) | ((with_reducible refine qLd rfl ?_); (first | refine q_load rfl rfl rfl 0 rfl ((agT _ (by decide)).trans rfl) rfl ?_ | refine q_load rfl rfl rfl 1 rfl ((agT _ (by decide)).trans rfl) rfl ?_ | refine q_load rfl rfl rfl 2 rfl ((agT _ (by decide)).trans rfl) rfl ?_); try simp only [aP, aN, aT, aZ, aS]) | ((with_reducible refine qLd rfl ?_); (first | refine q_loads rfl rfl rfl 0 rfl ((agT _ (by decide)).trans rfl) (szT _ (by decide)) (lb rfl) ?_ | refine q_loads rfl rfl rfl 1 rfl ((agT _ (by decide)).trans rfl) (szT _ (by decide)) (lb rfl) ?_ | refine q_loads rfl rfl rfl 2 rfl ((agT _ (by decide)).trans rfl) (szT _ (by decide)) (lb rfl) ?_); (try simp only [szL, aP, aN, aT, aZ, aS, aD, aF, aJ, aK, aM, aO])) | ((with_reducible refine qAny ?_); refine q_val rfl (fun w hs => by (repeat (rename ∀ (_ : Act) (_ : World), _ => hK9; clear hK9)); go_simp; rfl) ?_; try simp only [aP, aN, aT, aZ, aS]))); all_goals (refine wpQuiet_nil ?_; clear HS; intro w1 HS1; have HS := Aside0.mk HS1; clear HS1))
  go_upto_region 4 with (first | ((first | ((first | ((with_reducible refine gA rfl ?_); refine sh_alloc HS.out rfl rfl (zeT _ (by decide)) ?_) | ((with_reducible refine gB rfl ?_); refine bx HS.out rfl rfl ?_; first | refine bv (v := .agg (List.toArray _)) rfl ?_ | refine bv (v := .int _ _) rfl ?_ | refine bv (v := .slice _ _ _) rfl ?_ | refine bv (v := .bool _) rfl ?_ | refine bv (v := .pointer _) rfl ?_) | ((with_reducible refine gL rfl ?_); refine sh_lit HS.out rfl rfl (by go_simp; exact ⟨⟨rfl, rfl⟩, rfl⟩) ?_)); clear HS; intro g w1 hg HS1; (simp only [Ent.enc, Led.Held.enc, Led.Last.enc, zeF, segOf, aL, aC, aE] at HS1); have HS := Aside0.mk HS1; clear HS1) | ((with_reducible refine gLd rfl ?_); refine ld2 HS.out rfl rfl rfl (by repeat (first | exact AtI.here | apply AtI.there)) ?_; (first | refine LdK.one ((agT _ (by decide)).trans rfl) rfl ?_ | (refine LdK.agg ((agT _ (by decide)).trans rfl) (szT _ (by decide)) (lb rfl) ?_; try simp only [szL, aP, aN, aT, aZ, aS, aD, aF, aJ, aK, aM, aO]))) | ((with_reducible refine gSt rfl ?_); refine st2 HS.out rfl rfl rfl rfl (by repeat (first | exact AtI.here | apply AtI.there)) ?_; (first | refine sv (u := .agg (List.toArray _)) rfl ?_ | refine sv (u := .int _ _) rfl ?_ | refine sv (u := .slice _ _ _) rfl ?_ | refine sv (u := .bool _) rfl ?_ | refine sv (u := .pointer _) rfl ?_); refine sw (szT _ (by decide)) rfl (lb rfl) ?_; clear HS; intro w1 HS1; (simp only [Ent.enc, Led.Held.enc, Led.Last.enc, segOf, aL, aZ, aS, putSeg] at HS1); have HS := Aside0.mk HS1; clear HS1)); try simp only [aP, aN, aT, aZ, aS]))
  ((with_reducible refine wp_region_sh mixed (by kernel_rfl) HS.out ?_); (repeat' (first | go_big_quiet_skip | ((with_reducible refine qMv rfl ?_); go_big_quiet_step (fail)) | ((with_reducible refine qAs rfl ?_); go_big_quiet_step (fail)) | ((with_reducible refine qPk rfl ?_); go_big_quiet_step (fail)) | ((with_reducible refine qCl rfl ?_); refine q_call rfl rfl (vs := #[.agg #[.int .u64 d.boot, .int .u64 d.term, .int .i64 d.vote, .int .u64 d.s.si, .int .u64 d.s.st, .slice d.s.nA d.s.nodes.length d.s.nc, .int .i64 d.s.lim, .int .u64 d.s.nxt, .slice d.s.hA d.s.held.length d.s.hc, .slice d.s.lA d.s.last.length d.s.lc, .slice d.gA d.log.length d.gc], .int .u64 s.si]) (by rw [List.map_toArray]; rfl) (fnT _ (by decide)) (fun w1 hs => HTM.out w1 (HF.out w1 (hs.at 1 rfl))) ?_; (try simp only [aP, aN, aT, aZ, aS])) | ((with_reducible refine qLd rfl ?_); (first | refine q_load rfl rfl rfl 0 rfl ((agT _ (by decide)).trans rfl) rfl ?_ | refine q_load rfl rfl rfl 1 rfl ((agT _ (by decide)).trans rfl) rfl ?_ | refine q_load rfl rfl rfl 2 rfl ((agT _ (by decide)).trans rfl) rfl ?_); try simp only [aP, aN, aT, aZ, aS]) | ((with_reducible refine qLd rfl ?_); (first | refine q_loads rfl rfl rfl 0 rfl ((agT _ (by decide)).trans rfl) (szT _ (by decide)) (lb rfl) ?_ | refine q_loads rfl rfl rfl 1 rfl ((agT _ (by decide)).trans rfl) (szT _ (by decide)) (lb rfl) ?_ | refine q_loads rfl rfl rfl 2 rfl ((agT _ (by decide)).trans rfl) (szT _ (by decide)) (lb rfl) ?_); (try simp only [szL, aP, aN, aT, aZ, aS, aD, aF, aJ, aK, aM, aO])) | ((with_reducible refine qAny ?_); refine q_val rfl (fun w hs => by (repeat (rename ∀ (_ : Act) (_ : World), _ => hK9; clear hK9)); go_simp; rfl) ?_; try simp only [aP, aN, aT, aZ, aS]))); all_goals (refine wpQuiet_nil ?_; clear HS; intro w1 HS1; have HS := Aside0.mk HS1; clear HS1))
  go_upto_region 6 with (first | ((first | ((first | ((with_reducible refine gA rfl ?_); refine sh_alloc HS.out rfl rfl (zeT _ (by decide)) ?_) | ((with_reducible refine gB rfl ?_); refine bx HS.out rfl rfl ?_; first | refine bv (v := .agg (List.toArray _)) rfl ?_ | refine bv (v := .int _ _) rfl ?_ | refine bv (v := .slice _ _ _) rfl ?_ | refine bv (v := .bool _) rfl ?_ | refine bv (v := .pointer _) rfl ?_) | ((with_reducible refine gL rfl ?_); refine sh_lit HS.out rfl rfl (by go_simp; exact ⟨⟨rfl, rfl⟩, rfl⟩) ?_)); clear HS; intro g w1 hg HS1; (simp only [Ent.enc, Led.Held.enc, Led.Last.enc, zeF, segOf, aL, aC, aE] at HS1); have HS := Aside0.mk HS1; clear HS1) | ((with_reducible refine gLd rfl ?_); refine ld2 HS.out rfl rfl rfl (by repeat (first | exact AtI.here | apply AtI.there)) ?_; (first | refine LdK.one ((agT _ (by decide)).trans rfl) rfl ?_ | (refine LdK.agg ((agT _ (by decide)).trans rfl) (szT _ (by decide)) (lb rfl) ?_; try simp only [szL, aP, aN, aT, aZ, aS, aD, aF, aJ, aK, aM, aO]))) | ((with_reducible refine gSt rfl ?_); refine st2 HS.out rfl rfl rfl rfl (by repeat (first | exact AtI.here | apply AtI.there)) ?_; (first | refine sv (u := .agg (List.toArray _)) rfl ?_ | refine sv (u := .int _ _) rfl ?_ | refine sv (u := .slice _ _ _) rfl ?_ | refine sv (u := .bool _) rfl ?_ | refine sv (u := .pointer _) rfl ?_); refine sw (szT _ (by decide)) rfl (lb rfl) ?_; clear HS; intro w1 HS1; (simp only [Ent.enc, Led.Held.enc, Led.Last.enc, segOf, aL, aZ, aS, putSeg] at HS1); have HS := Aside0.mk HS1; clear HS1)); try simp only [aP, aN, aT, aZ, aS]))
  have HC := Aside0.mk (HS.out.pick [0, 2] rfl (by decide))
  refine kheld_start [17] mixed HC.out (fun HC1 => ?_)
  have HS1 := HS.out.drew
  clear HS HC
  have HS := Aside0.mk HS1
  have HC := Aside0.mk HC1
  clear HS1 HC1
  refine k_any 0 (v := _) (by simp only [aG, aH, aI]; rfl) (by kernel_rfl) (by kernel_rfl) (by kernel_rfl) (by kernel_rfl) (by exact fun _ _ _ h => h) (.inr HC.out) (by kernel_rfl) (fun w => by (repeat (rename ∀ (_ : Act) (_ : World), _ => hK9; clear hK9)); go_simp; rfl) ?_
  (try simp only [aP, aN, aT, aZ, aS])
  refine k_any 1 (v := _) (by simp only [aG, aH, aI]; rfl) (by kernel_rfl) (by kernel_rfl) (by kernel_rfl) (by kernel_rfl) (by exact fun _ _ _ h => h) (.inr HC.out) (by kernel_rfl) (fun w => by (repeat (rename ∀ (_ : Act) (_ : World), _ => hK9; clear hK9)); go_simp; rfl) ?_
  (try simp only [aP, aN, aT, aZ, aS])
  refine k_any 2 (v := _) (by simp only [aG, aH, aI]; rfl) (by kernel_rfl) (by kernel_rfl) (by kernel_rfl) (by kernel_rfl) (by exact fun _ _ _ h => h) (.inr HC.out) (by kernel_rfl) (fun w => by (repeat (rename ∀ (_ : Act) (_ : World), _ => hK9; clear hK9)); go_simp; rfl) ?_
  (try simp only [aP, aN, aT, aZ, aS])
  refine k_any 3 (v := _) (by simp only [aG, aH, aI]; rfl) (by kernel_rfl) (by kernel_rfl) (by kernel_rfl) (by kernel_rfl) (by exact fun _ _ _ h => h) (.inr HC.out) (by kernel_rfl) (fun w => by (repeat (rename ∀ (_ : Act) (_ : World), _ => hK9; clear hK9)); go_simp; rfl) ?_
  (try simp only [aP, aN, aT, aZ, aS])
  refine k_load 4 (by simp only [aG, aH, aI]; rfl) (by kernel_rfl) (by kernel_rfl) (by kernel_rfl) (by kernel_rfl) (by exact fun _ _ _ h => h) HC.out (by kernel_rfl) rfl rfl 0 rfl ((agT _ (by decide)).trans rfl) rfl ?_
  (try simp only [aP, aN, aT, aZ, aS])
  refine k_any 5 (v := _) (by simp only [aG, aH, aI]; rfl) (by kernel_rfl) (by kernel_rfl) (by kernel_rfl) (by kernel_rfl) (by exact fun _ _ _ h => h) (.inr HC.out) (by kernel_rfl) (fun w => by (repeat (rename ∀ (_ : Act) (_ : World), _ => hK9; clear hK9)); go_simp; rfl) ?_
  (try simp only [aP, aN, aT, aZ, aS])
  refine k_any 6 (v := _) (by simp only [aG, aH, aI]; rfl) (by kernel_rfl) (by kernel_rfl) (by kernel_rfl) (by kernel_rfl) (by exact fun _ _ _ h => h) (.inr HC.out) (by kernel_rfl) (fun w => by (repeat (rename ∀ (_ : Act) (_ : World), _ => hK9; clear hK9)); go_simp; rfl) ?_
  (try simp only [aP, aN, aT, aZ, aS])
  refine k_load 7 (by simp only [aG, aH, aI]; rfl) (by kernel_rfl) (by kernel_rfl) (by kernel_rfl) (by kernel_rfl) (by exact fun _ _ _ h => h) HC.out (by kernel_rfl) rfl rfl 1 rfl ((agT _ (by decide)).trans rfl) rfl ?_
  (try simp only [aP, aN, aT, aZ, aS])
  refine k_any 8 (v := _) (by simp only [aG, aH, aI]; rfl) (by kernel_rfl) (by kernel_rfl) (by kernel_rfl) (by kernel_rfl) (by exact fun _ _ _ h => h) (.inr HC.out) (by kernel_rfl) (fun w => by (repeat (rename ∀ (_ : Act) (_ : World), _ => hK9; clear hK9)); go_simp; rfl) ?_
  (try simp only [aP, aN, aT, aZ, aS])
  refine k_any 9 (v := _) (by simp only [aG, aH, aI]; rfl) (by kernel_rfl) (by kernel_rfl) (by kernel_rfl) (by kernel_rfl) (by exact fun _ _ _ h => h) (.inr HC.out) (by kernel_rfl) (fun w => by (repeat (rename ∀ (_ : Act) (_ : World), _ => hK9; clear hK9)); go_simp; rfl) ?_
  (try simp only [aP, aN, aT, aZ, aS])
  refine k_any 10 (v := _) (by simp only [aG, aH, aI]; rfl) (by kernel_rfl) (by kernel_rfl) (by kernel_rfl) (by kernel_rfl) (by exact fun _ _ _ h => h) (.inr HC.out) (by kernel_rfl) (fun w => by (repeat (rename ∀ (_ : Act) (_ : World), _ => hK9; clear hK9)); go_simp; rfl) ?_
  (try simp only [aP, aN, aT, aZ, aS])
  refine k_any 11 (v := _) (by simp only [aG, aH, aI]; rfl) (by kernel_rfl) (by kernel_rfl) (by kernel_rfl) (by kernel_rfl) (by exact fun _ _ _ h => h) (.inr HC.out) (by kernel_rfl) (fun w => by (repeat (rename ∀ (_ : Act) (_ : World), _ => hK9; clear hK9)); go_simp; rfl) ?_
  (try simp only [aP, aN, aT, aZ, aS])
  refine k_load 12 (by simp only [aG, aH, aI]; rfl) (by kernel_rfl) (by kernel_rfl) (by kernel_rfl) (by kernel_rfl) (by exact fun _ _ _ h => h) HC.out (by kernel_rfl) rfl rfl 0 rfl ((agT _ (by decide)).trans rfl) rfl ?_
  (try simp only [aP, aN, aT, aZ, aS])
  refine k_any 13 (v := _) (by simp only [aG, aH, aI]; rfl) (by kernel_rfl) (by kernel_rfl) (by kernel_rfl) (by kernel_rfl) (by exact fun _ _ _ h => h) (.inr HC.out) (by kernel_rfl) (fun w => by (repeat (rename ∀ (_ : Act) (_ : World), _ => hK9; clear hK9)); go_simp; rfl) ?_
  (try simp only [aP, aN, aT, aZ, aS])
  refine k_any 14 (v := .slice (cutA d.gA d.gc k) (d.log.length - k) (d.gc - k)) (by simp only [aG, aH, aI]; rfl) (by kernel_rfl) (by kernel_rfl) (by kernel_rfl) (by kernel_rfl) (by exact fun _ _ _ h => h) (.inr HC.out) (by kernel_rfl) (fun w => run_sliceLo rfl rfl rfl Try.underlying30 (szT _ (by decide)) hkn hnc) ?_
  (try simp only [aP, aN, aT, aZ, aS])
  refine k_any 15 (v := _) (by simp only [aG, aH, aI]; rfl) (by kernel_rfl) (by kernel_rfl) (by kernel_rfl) (by kernel_rfl) (by exact fun _ _ _ h => h) (.inr HC.out) (by kernel_rfl) (fun w => by (repeat (rename ∀ (_ : Act) (_ : World), _ => hK9; clear hK9)); go_simp; rfl) ?_
  (try simp only [aP, aN, aT, aZ, aS])
  refine k_any 16 (v := _) (by simp only [aG, aH, aI]; rfl) (by kernel_rfl) (by kernel_rfl) (by kernel_rfl) (by kernel_rfl) (by exact fun _ _ _ h => h) (.inr HC.out) (by kernel_rfl) (fun w => by (repeat (rename ∀ (_ : Act) (_ : World), _ => hK9; clear hK9)); go_simp; rfl) ?_
  (try simp only [aP, aN, aT, aZ, aS])
  refine k_one 17 (by simp only [aG, aH, aI]; rfl) (by kernel_rfl) ?_
  ((with_reducible refine gSt rfl ?_); refine sh_storeX HS.out rfl rfl rfl (i := 10) rfl 0 rfl (u := (.slice (cutA d.gA d.gc k) (d.log.length - k) (d.gc - k))) rfl rfl (szT _ (by decide)) rfl (by simp) ?_; clear HS; intro w1 HS1; (simp only [aZ, aS] at HS1); have HS := Aside0.mk HS1; clear HS1; try simp only [aP, aN, aT, aZ, aS])
  refine k_nil (.inl (by kernel_rfl)) ?_
  (try simp only [aP, aN, aT, aZ, aS])
  refine k_done (by kernel_rfl) ?_ _
  go_wp2_with (first | (go_at_call 74; (with_reducible refine (cloneShot_any s _ (HSO.out.sh HS.out) HZ.out hh hl).mono ?_); rintro e w2 ⟨A1, c1, A2, c2, A3, c3, S1, S2, S3, rfl, hc2, HS1⟩; have HC2 := Aside0.mk hc2; clear hc2; have HS2 := HS.out.call HS1; clear HS HS1; simp only [aC, aE] at HS2; have HS := Aside0.mk HS2; clear HS2) | ((first | ((first | ((with_reducible refine gA rfl ?_); refine sh_alloc HS.out rfl rfl (zeT _ (by decide)) ?_) | ((with_reducible refine gB rfl ?_); refine bx HS.out rfl rfl ?_; first | refine bv (v := .agg (List.toArray _)) rfl ?_ | refine bv (v := .int _ _) rfl ?_ | refine bv (v := .slice _ _ _) rfl ?_ | refine bv (v := .bool _) rfl ?_ | refine bv (v := .pointer _) rfl ?_) | ((with_reducible refine gL rfl ?_); refine sh_lit HS.out rfl rfl (by go_simp; exact ⟨⟨rfl, rfl⟩, rfl⟩) ?_)); clear HS; intro g w1 hg HS1; (simp only [Ent.enc, Led.Held.enc, Led.Last.enc, zeF, segOf, aL, aC, aE] at HS1); have HS := Aside0.mk HS1; clear HS1) | ((with_reducible refine gLd rfl ?_); refine ld2 HS.out rfl rfl rfl (by repeat (first | exact AtI.here | apply AtI.there)) ?_; (first | refine LdK.one ((agT _ (by decide)).trans rfl) rfl ?_ | (refine LdK.agg ((agT _ (by decide)).trans rfl) (szT _ (by decide)) (lb rfl) ?_; try simp only [szL, aP, aN, aT, aZ, aS, aD, aF, aJ, aK, aM, aO]))) | ((with_reducible refine gSt rfl ?_); refine st2 HS.out rfl rfl rfl rfl (by repeat (first | exact AtI.here | apply AtI.there)) ?_; (first | refine sv (u := .agg (List.toArray _)) rfl ?_ | refine sv (u := .int _ _) rfl ?_ | refine sv (u := .slice _ _ _) rfl ?_ | refine sv (u := .bool _) rfl ?_ | refine sv (u := .pointer _) rfl ?_); refine sw (szT _ (by decide)) rfl (lb rfl) ?_; clear HS; intro w1 HS1; (simp only [Ent.enc, Led.Held.enc, Led.Last.enc, segOf, aL, aZ, aS, putSeg] at HS1); have HS := Aside0.mk HS1; clear HS1)); try simp only [aP, aN, aT, aZ, aS]))
  go_ret
  exact comeShot_mk ⟨A1, A2, A3, c1, c2, c3, S1, S2, S3, rfl, HC2.out, HS.out.pick [0, 1, 3, 4, 5] rfl (by decide)⟩
end Go.Proofs.Ytekjihmepdhmeaa.Rlo
