import Derived.Test.YtekjihmepdhmeaaRloE
import Derived.Test.YtekjihmepdhmeaaRloF0
import Derived.Test.YtekjihmepdhmeaaRloG0
import Derived.Test.YtekjihmepdhmeaaLeM1
-- ENC: Ent.enc, Led.Held.enc, Led.Last.enc
-- U5
namespace Go.Proofs.Ytekjihmepdhmeaa.Rlo
open Go.RowKit Go.Proofs.YtekjihmepdhmeaaW.PrintWords Go.Proofs.Ytekjihmepdhmeaa.Sl
set_option linter.unusedVariables false
set_option linter.unusedSimpArgs false
/-! The snapshot at an index: plain. -/
set_option maxHeartbeats 1600000 in
set_option maxRecDepth 100000 in
theorem cpHardC_any (d : Hrd) (w : World) (hk : d.ok w) (hz : d.szd) : Calls Try.prog 18 #[.agg #[.int .u64 d.boot, .int .u64 d.term, .int .i64 d.vote, .int .u64 d.s.si, .int .u64 d.s.st, .slice d.s.nA d.s.nodes.length d.s.nc, .int .i64 d.s.lim, .int .u64 d.s.nxt, .slice d.s.hA d.s.held.length d.s.hc, .slice d.s.lA d.s.last.length d.s.lc, .slice d.gA d.log.length d.gc]] w
    (fun e w' => ∃ d' S1 S2 S3 S4 S5, e = .returned (.agg #[.int .u64 d'.boot, .int .u64 d'.term, .int .i64 d'.vote, .int .u64 d'.s.si, .int .u64 d'.s.st, .slice d'.s.nA d'.s.nodes.length d'.s.nc, .int .i64 d'.s.lim, .int .u64 d'.s.nxt, .slice d'.s.hA d'.s.held.length d'.s.hc, .slice d'.s.lA d'.s.last.length d'.s.lc, .slice d'.gA d'.log.length d'.gc]) ∧ d.same d' ∧ d'.s.held.length ≤ d'.s.hc ∧ d'.log.length ≤ d'.gc ∧ SH w w' (hrdI d' S1 S2 S3 S4 S5)) := by
  have HK := Aside0.mk hk
  have HZ := Aside0.mk hz
  clear hk hz
  have HS := Aside0.mk (SH.start w)
  go_enter Try.func18, Try.ntmps18
  go_wp2_with (first | (go_at_call 43; (with_reducible refine (cpSht_any d.s _ (HK.out.s.sh HS.out) HZ.out.s).mono ?_); rintro e w2 ⟨s', S1, S2, S3, rfl, hss, hsc, HS1⟩; have HSS := Aside0.mk (And.intro hss hsc); clear hss hsc; unfold shtI at HS1; have HS2 := HS.out.call HS1; clear HS HS1; simp only [aC, aE] at HS2; have HS := Aside0.mk HS2; clear HS2) | (go_at_call 28; (with_reducible refine (cpEnts_any d.gA d.gc d.log _ (HK.out.rg.sh HS.out) (fun e he => (HK.out.re e he).sh HS.out) HZ.out.g HZ.out.e).mono ?_); rintro e w2 ⟨A4, c4, l', S4, S5, rfl, hld, HS1⟩; have HLD := Aside0.mk hld; clear hld; have HS2 := HS.out.call HS1; clear HS HS1; simp only [aC, aE] at HS2; have HS := Aside0.mk HS2; clear HS2) | ((first | ((first | ((with_reducible refine gA rfl ?_); refine sh_alloc HS.out rfl rfl (zeT _ (by decide)) ?_) | ((with_reducible refine gB rfl ?_); refine bx HS.out rfl rfl ?_; first | refine bv (v := .agg (List.toArray _)) rfl ?_ | refine bv (v := .int _ _) rfl ?_ | refine bv (v := .slice _ _ _) rfl ?_ | refine bv (v := .bool _) rfl ?_ | refine bv (v := .pointer _) rfl ?_) | ((with_reducible refine gL rfl ?_); refine sh_lit HS.out rfl rfl (by go_simp; exact ⟨⟨rfl, rfl⟩, rfl⟩) ?_)); clear HS; intro g w1 hg HS1; (simp only [Ent.enc, Led.Held.enc, Led.Last.enc, zeF, segOf, aL, aC, aE] at HS1); have HS := Aside0.mk HS1; clear HS1) | ((with_reducible refine gLd rfl ?_); refine ld2 HS.out rfl rfl rfl (by repeat (first | exact AtI.here | apply AtI.there)) ?_; (first | refine LdK.one ((agT _ (by decide)).trans rfl) rfl ?_ | (refine LdK.agg ((agT _ (by decide)).trans rfl) (szT _ (by decide)) (lb rfl) ?_; try simp only [szL, aP, aN, aT, aZ, aS, aD, aF, aJ, aK, aM, aO]))) | ((with_reducible refine gSt rfl ?_); refine st2 HS.out rfl rfl rfl rfl (by repeat (first | exact AtI.here | apply AtI.there)) ?_; (first | refine sv (u := .agg (List.toArray _)) rfl ?_ | refine sv (u := .int _ _) rfl ?_ | refine sv (u := .slice _ _ _) rfl ?_ | refine sv (u := .bool _) rfl ?_ | refine sv (u := .pointer _) rfl ?_); refine sw (szT _ (by decide)) rfl (lb rfl) ?_; clear HS; intro w1 HS1; (simp only [Ent.enc, Led.Held.enc, Led.Last.enc, segOf, aL, aZ, aS, putSeg] at HS1); have HS := Aside0.mk HS1; clear HS1)); try simp only [aP, aN, aT, aZ, aS]))
  refine bodyPost_ret (results_cell_row rfl _ _ _ _ _ _ _ rfl (HS.out.blk 1 rfl) Try.underlying32 rfl ((szT _ (by decide)).trans rfl)) rfl ?_
  have hlen : l'.length = d.log.length := by
    have := congrArg List.length HLD.out
    rwa [List.length_map, List.length_map] at this
  refine ⟨⟨d.boot, d.term, d.vote, s', A4, c4, l'⟩, S1, S2, S3, S4, S5, ?_, ⟨rfl, rfl, rfl, HSS.out.1, HLD.out⟩, HSS.out.2, ?_, ?_⟩
  · simp only [hlen]
  · show l'.length ≤ c4
    rw [hlen]
    exact (row_hi HS.out 5 rfl).2
  · have HS1 := (HS.out.pick [2, 3, 4, 5, 6] rfl (by decide)).toRd 3 rfl
    simp only [hrdI, hlen]
    exact HS1
abbrev Lg := Led.Lg
/-- the ledger behind the first k entries -/
def ledAt (d : Hrd) : Nat → Lg
  | 0 => ⟨d.s.lim, d.s.nxt, d.s.held, d.s.last⟩
  | k + 1 => (ledAt d k).go (d.s.si + k + 1) (d.log.getD k default)
structure AtR where
  si : Int
  st : Int
  nodes : List Int
  L : Lg
  err : Int
def noAt (e : Int) : AtR := ⟨0, 0, [], ⟨0, 0, [], []⟩, e⟩
def atG (d : Hrd) (i : Int) : AtR :=
  if hardOk d = false then noAt 130
  else if i < d.s.si ∨ lastOf d < i then noAt 4
  else ⟨i, (termOf d i).1, (confG d i).2, ledAt d (i - d.s.si).toNat, 0⟩
theorem led0_ok {d : Hrd} {w : World} (hk : d.ok w) (hg : hardOk d = true) : (ledAt d 0).ok := by
  unfold hardOk headOk shotOk at hg
  simp only [Bool.and_eq_true] at hg
  exact ⟨Led.isLed_iff.1 hg.1.1.1.1.1.1.2.1.2, hk.s.nxt.2⟩
theorem ledAt_ok {d : Hrd} {w : World} (hk : d.ok w) (hg : hardOk d = true) : ∀ k, (ledAt d k).ok
  | 0 => led0_ok hk hg
  | k + 1 => (ledAt_ok hk hg k).go (by have := hk.s.si.1; omega) _
def AtPost (w : World) (z : AtR) (e : Ending) (w' : World) : Prop := ∃ (A B C : Option Addr) (c1 c2 c3 : Nat) (S1 S2 S3 : Nat → Prop),
  e = .returned (.tuple #[.agg #[.int .u64 z.si, .int .u64 z.st, .slice A z.nodes.length c1, .int .i64 z.L.lim, .int .u64 z.L.nxt, .slice B z.L.held.length c2, .slice C z.L.last.length c3], .int .i64 z.err]) ∧
  SH w w' [row (intK .i64) 3 (.slice A z.nodes.length c1) z.nodes S1, row Led.heldK 72 (.slice B z.L.held.length c2) z.L.held S2, row Led.lastK 76 (.slice C z.L.last.length c3) z.L.last S3]
theorem atPost_mk {w : World} {z : AtR} {e : Ending} {w' : World} (h : ∃ (A B C : Option Addr) (c1 c2 c3 : Nat) (S1 S2 S3 : Nat → Prop),
  e = .returned (.tuple #[.agg #[.int .u64 z.si, .int .u64 z.st, .slice A z.nodes.length c1, .int .i64 z.L.lim, .int .u64 z.L.nxt, .slice B z.L.held.length c2, .slice C z.L.last.length c3], .int .i64 z.err]) ∧
  SH w w' [row (intK .i64) 3 (.slice A z.nodes.length c1) z.nodes S1, row Led.heldK 72 (.slice B z.L.held.length c2) z.L.held S2, row Led.lastK 76 (.slice C z.L.last.length c3) z.L.last S3]) : AtPost w z e w' := h
def AtPostR (w : World) (z : AtR) (e : Ending) (w' : World) : Prop := ∃ (A B C : Option Addr) (n1 n2 n3 c1 c2 c3 : Nat) (S1 S2 S3 : Nat → Prop),
  e = .returned (.tuple #[.agg #[.int .u64 z.si, .int .u64 z.st, .slice A n1 c1, .int .i64 z.L.lim, .int .u64 z.L.nxt, .slice B n2 c2, .slice C n3 c3], .int .i64 z.err]) ∧
  SH w w' [rdI (ints .i64) 1 A n1 z.nodes S1, rdI Led.Held.enc 5 B n2 z.L.held S2, rdI Led.Last.enc 6 C n3 z.L.last S3]
theorem atPostR_mk {w : World} {z : AtR} {e : Ending} {w' : World} (h : ∃ (A B C : Option Addr) (n1 n2 n3 c1 c2 c3 : Nat) (S1 S2 S3 : Nat → Prop),
  e = .returned (.tuple #[.agg #[.int .u64 z.si, .int .u64 z.st, .slice A n1 c1, .int .i64 z.L.lim, .int .u64 z.L.nxt, .slice B n2 c2, .slice C n3 c3], .int .i64 z.err]) ∧
  SH w w' [rdI (ints .i64) 1 A n1 z.nodes S1, rdI Led.Held.enc 5 B n2 z.L.held S2, rdI Led.Last.enc 6 C n3 z.L.last S3]) : AtPostR w z e w' := h
end Go.Proofs.Ytekjihmepdhmeaa.Rlo
