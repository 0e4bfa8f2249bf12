import Derived.Test.YtekjihmepdhmeaaRlpJj
import Derived.Test.YtekjihmepdhmeaaSlXq
import Derived.Test.YtekjihmepdhmeaaRloDj
import Derived.Test.YtekjihmepdhmeaaRlc2j
import Derived.Test.YtekjihmepdhmeaaRloEj
import Derived.Test.YtekjihmepdhmeaaRloF0j
section
/- Lemmas towards the law: what of the text LeG0 it needs. -/
namespace Go.Proofs.Ytekjihmepdhmeaa.Led
open Go.RowKit Go.Proofs.YtekjihmepdhmeaaW.PrintWords Go.Proofs.Ytekjihmepdhmeaa.Sl
set_option linter.unusedVariables false
set_option linter.unusedSimpArgs false
theorem srt_pw {l : List Held} (h : srtHeld l) : l.Pairwise (fun a b => a.token < b.token) := by
  rw [List.pairwise_iff_getElem]
  intro i j hi hj hij
  have := h i j hij hj
  rwa [List.getD_eq_getElem?_getD, List.getD_eq_getElem?_getD, List.getElem?_eq_getElem hi, List.getElem?_eq_getElem hj] at this
theorem srtL_pw {l : List Last} (h : srtLast l) : l.Pairwise (fun a b => a.node < b.node) := by
  rw [List.pairwise_iff_getElem]
  intro i j hi hj hij
  have := h i j hij hj
  rwa [List.getD_eq_getElem?_getD, List.getD_eq_getElem?_getD, List.getElem?_eq_getElem hi, List.getElem?_eq_getElem hj] at this
end Go.Proofs.Ytekjihmepdhmeaa.Led

end
section
/- Lemmas towards the law: what of the text LeL it needs. -/
namespace Go.Proofs.Ytekjihmepdhmeaa.Led
open Go.RowKit Go.Proofs.YtekjihmepdhmeaaW.PrintWords Go.Proofs.Ytekjihmepdhmeaa.Sl
set_option linter.unusedVariables false
set_option linter.unusedSimpArgs false
structure LedOk (lim nxt : Int) (l : List Held) (m : List Last) : Prop where
  lim1 : 1 ≤ lim
  lim2 : lim ≤ 65535
  nxt1 : 1 ≤ nxt
  len : l.length ≤ 64
  srt : l.Pairwise (fun a b => a.token < b.token)
  held : ∀ h ∈ l, 1 ≤ h.token ∧ h.token ≤ lim ∧ 1 ≤ h.node ∧ h.node ≤ 7 ∧ 1 ≤ h.boot ∧ 1 ≤ h.stamp ∧ 1 ≤ h.serial ∧ h.serial < nxt
  ser : l.Pairwise (fun a b => a.serial ≠ b.serial)
  srtL : m.Pairwise (fun a b => a.node < b.node)
  last : ∀ x ∈ m, 1 ≤ x.node ∧ x.node ≤ 7 ∧ 1 ≤ x.boot ∧ 1 ≤ x.seq ∧ okAns lim nxt x.ans = true
theorem getD_of {α : Type} [Inhabited α] {l : List α} {i : Nat} (hi : i < l.length) : l.getD i default = l[i] := by
  rw [List.getD_eq_getElem?_getD, List.getElem?_eq_getElem hi, Option.getD_some]
theorem hOk_iff {lim nxt : Int} {l : List Held} {i : Nat} : hOk lim nxt l i = true ↔ ((0 < i → (l.getD (i - 1) default).token < (l.getD i default).token) ∧ 1 ≤ (l.getD i default).token ∧ (l.getD i default).token ≤ lim ∧ 1 ≤ (l.getD i default).node ∧ (l.getD i default).node ≤ 7 ∧ 1 ≤ (l.getD i default).boot ∧ 1 ≤ (l.getD i default).stamp ∧ 1 ≤ (l.getD i default).serial ∧ (l.getD i default).serial < nxt) ∧ ∀ g ∈ l.take i, g.serial ≠ (l.getD i default).serial := by
  unfold hOk hOk0
  simp only [Bool.and_eq_true, Bool.not_eq_true', Bool.or_eq_false_iff, Bool.and_eq_false_iff, decide_eq_false_iff_not, List.any_eq_false, beq_iff_eq]
  grind
theorem lOk_iff {lim nxt : Int} {m : List Last} {i : Nat} : lOk lim nxt m i = true ↔ ((0 < i → (m.getD (i - 1) default).node < (m.getD i default).node) ∧ 1 ≤ (m.getD i default).node ∧ (m.getD i default).node ≤ 7 ∧ 1 ≤ (m.getD i default).boot ∧ 1 ≤ (m.getD i default).seq ∧ okAns lim nxt (m.getD i default).ans = true) := by
  unfold lOk
  simp only [Bool.not_eq_true', Bool.or_eq_false_iff, Bool.and_eq_false_iff, decide_eq_false_iff_not, Bool.not_eq_false']
  grind
theorem isLed_iff {lim nxt : Int} {l : List Held} {m : List Last} : isLed lim nxt l m = true ↔ LedOk lim nxt l m := by
  constructor
  · intro h
    obtain ⟨⟨h1, h2, h3, h4⟩, hA, hL⟩ := isLed_parts h
    have hA' := of_decide_eq_true hA
    have hL' := of_decide_eq_true hL
    refine ⟨h1, h2, h3, h4, srt_pw (srt_of hA), fun h hh => ?_, ?_, srtL_pw (srtL_of hL), fun x hx => ?_⟩
    · obtain ⟨i, hi, rfl⟩ := List.getElem_of_mem hh
      have := (hOk_iff.1 (hA' i hi)).1.2
      rwa [getD_of hi] at this
    · rw [List.pairwise_iff_getElem]
      intro i j hi hj hij
      have := (hOk_iff.1 (hA' j hj)).2 l[i] (List.mem_take_iff_getElem.2 ⟨i, by omega, rfl⟩)
      rwa [getD_of hj] at this
    · obtain ⟨i, hi, rfl⟩ := List.getElem_of_mem hx
      have := (lOk_iff.1 (hL' i hi)).2
      rwa [getD_of hi] at this
  · intro h
    unfold isLed good0
    simp only [Bool.and_eq_true, decide_eq_true_eq]
    refine ⟨⟨⟨⟨⟨h.lim1, h.lim2⟩, h.nxt1⟩, h.len⟩, ?_⟩, ?_⟩
    · unfold hAll
      rw [decide_eq_true_eq]
      intro i hi
      refine hOk_iff.2 ⟨⟨fun h0 => ?_, ?_⟩, fun g hg => ?_⟩
      · rw [getD_of hi, getD_of (show i - 1 < l.length by omega)]
        exact List.pairwise_iff_getElem.1 h.srt (i - 1) i (by omega) hi (by omega)
      · rw [getD_of hi]
        exact h.held _ (List.getElem_mem hi)
      · obtain ⟨j, hj, rfl⟩ := List.mem_take_iff_getElem.1 hg
        rw [getD_of hi]
        exact List.pairwise_iff_getElem.1 h.ser j i (by omega) hi (by omega)
    · unfold lAll
      rw [decide_eq_true_eq]
      intro i hi
      refine lOk_iff.2 ⟨fun h0 => ?_, ?_⟩
      · rw [getD_of hi, getD_of (show i - 1 < m.length by omega)]
        exact List.pairwise_iff_getElem.1 h.srtL (i - 1) i (by omega) hi (by omega)
      · rw [getD_of hi]
        exact h.last _ (List.getElem_mem hi)
end Go.Proofs.Ytekjihmepdhmeaa.Led

end
section
/- Lemmas towards the law: what of the text LeM it needs. -/
namespace Go.Proofs.Ytekjihmepdhmeaa.Led
open Go.RowKit Go.Proofs.YtekjihmepdhmeaaW.PrintWords Go.Proofs.Ytekjihmepdhmeaa.Sl
set_option linter.unusedVariables false
set_option linter.unusedSimpArgs false
/-- what a node's last request came to -/
def lastOf (m : List Last) (n : Int) : Option Last := m.find? (fun y => y.node == n)
end Go.Proofs.Ytekjihmepdhmeaa.Led

end
section
/- Lemmas towards the law: what of the text LeM1 it needs. -/
namespace Go.Proofs.Ytekjihmepdhmeaa.Led
open Go.RowKit Go.Proofs.YtekjihmepdhmeaaW.PrintWords Go.Proofs.Ytekjihmepdhmeaa.Sl
set_option linter.unusedVariables false
set_option linter.unusedSimpArgs false
structure Lg where
  lim : Int
  nxt : Int
  held : List Held
  last : List Last
def Ap.lg (r : Ap) : Lg := ⟨r.lim, r.nxt, r.held, r.last⟩
def Lg.at (L : Lg) (ix : Int) (x : Rlo.Ent) : Ap := applyC L.lim L.nxt L.held L.last ix x
/-- the ledger goes on, if the command may come -/
def Lg.go (L : Lg) (ix : Int) (x : Rlo.Ent) : Lg := if (L.at ix x).err = 0 then (L.at ix x).lg else L
end Go.Proofs.Ytekjihmepdhmeaa.Led

end
section
/- Lemmas towards the law: what of the text RlpA it needs. -/
namespace Go.Proofs.Ytekjihmepdhmeaa.Rlo
open Go.RowKit Go.Proofs.YtekjihmepdhmeaaW.PrintWords Go.Proofs.Ytekjihmepdhmeaa.Sl
set_option linter.unusedVariables false
set_option linter.unusedSimpArgs false
set_option maxHeartbeats 1600000 in
set_option maxRecDepth 100000 in
theorem cpHardC_any (d : Hrd) (w : World) (hk : d.ok w) (hz : d.szd) : Calls Try.prog 18 #[.agg #[.int .u64 d.boot, .int .u64 d.term, .int .i64 d.vote, .int .u64 d.s.si, .int .u64 d.s.st, .slice d.s.nA d.s.nodes.length d.s.nc, .int .i64 d.s.lim, .int .u64 d.s.nxt, .slice d.s.hA d.s.held.length d.s.hc, .slice d.s.lA d.s.last.length d.s.lc, .slice d.gA d.log.length d.gc]] w
    (fun e w' => ∃ d' S1 S2 S3 S4 S5, e = .returned (.agg #[.int .u64 d'.boot, .int .u64 d'.term, .int .i64 d'.vote, .int .u64 d'.s.si, .int .u64 d'.s.st, .slice d'.s.nA d'.s.nodes.length d'.s.nc, .int .i64 d'.s.lim, .int .u64 d'.s.nxt, .slice d'.s.hA d'.s.held.length d'.s.hc, .slice d'.s.lA d'.s.last.length d'.s.lc, .slice d'.gA d'.log.length d'.gc]) ∧ d.same d' ∧ d'.s.held.length ≤ d'.s.hc ∧ d'.log.length ≤ d'.gc ∧ SH w w' (hrdI d' S1 S2 S3 S4 S5)) := by
  have HK := Aside0.mk hk
  have HZ := Aside0.mk hz
  clear hk hz
  have HS := Aside0.mk (SH.start w)
  go_enter Try.func18, Try.ntmps18
  go_wp2_with (first | (go_at_call 43; (with_reducible refine (cpSht_any d.s _ (HK.out.s.sh HS.out) HZ.out.s).mono ?_); rintro e w2 ⟨s', S1, S2, S3, rfl, hss, hsc, HS1⟩; have HSS := Aside0.mk (And.intro hss hsc); clear hss hsc; unfold shtI at HS1; have HS2 := HS.out.call HS1; clear HS HS1; simp only [aC, aE] at HS2; have HS := Aside0.mk HS2; clear HS2) | (go_at_call 28; (with_reducible refine (cpEnts_any d.gA d.gc d.log _ (HK.out.rg.sh HS.out) (fun e he => (HK.out.re e he).sh HS.out) HZ.out.g HZ.out.e).mono ?_); rintro e w2 ⟨A4, c4, l', S4, S5, rfl, hld, HS1⟩; have HLD := Aside0.mk hld; clear hld; have HS2 := HS.out.call HS1; clear HS HS1; simp only [aC, aE] at HS2; have HS := Aside0.mk HS2; clear HS2) | ((first | ((first | ((with_reducible refine gA rfl ?_); refine sh_alloc HS.out rfl rfl (zeT _ (by decide)) ?_) | ((with_reducible refine gB rfl ?_); refine bx HS.out rfl rfl ?_; first | refine bv (v := .agg (List.toArray _)) rfl ?_ | refine bv (v := .int _ _) rfl ?_ | refine bv (v := .slice _ _ _) rfl ?_ | refine bv (v := .bool _) rfl ?_ | refine bv (v := .pointer _) rfl ?_) | ((with_reducible refine gL rfl ?_); refine sh_lit HS.out rfl rfl (by go_simp; exact ⟨⟨rfl, rfl⟩, rfl⟩) ?_)); clear HS; intro g w1 hg HS1; (simp only [Ent.enc, Led.Held.enc, Led.Last.enc, zeF, segOf, aL, aC, aE] at HS1); have HS := Aside0.mk HS1; clear HS1) | ((with_reducible refine gLd rfl ?_); refine ld2 HS.out rfl rfl rfl (by repeat (first | exact AtI.here | apply AtI.there)) ?_; (first | refine LdK.one ((agT _ (by decide)).trans rfl) rfl ?_ | (refine LdK.agg ((agT _ (by decide)).trans rfl) (szT _ (by decide)) (lb rfl) ?_; try simp only [szL, aP, aN, aT, aZ, aS, aD, aF, aJ, aK, aM, aO]))) | ((with_reducible refine gSt rfl ?_); refine st2 HS.out rfl rfl rfl rfl (by repeat (first | exact AtI.here | apply AtI.there)) ?_; (first | refine sv (u := .agg (List.toArray _)) rfl ?_ | refine sv (u := .int _ _) rfl ?_ | refine sv (u := .slice _ _ _) rfl ?_ | refine sv (u := .bool _) rfl ?_ | refine sv (u := .pointer _) rfl ?_); refine sw (szT _ (by decide)) rfl (lb rfl) ?_; clear HS; intro w1 HS1; (simp only [Ent.enc, Led.Held.enc, Led.Last.enc, segOf, aL, aZ, aS, putSeg] at HS1); have HS := Aside0.mk HS1; clear HS1)); try simp only [aP, aN, aT, aZ, aS]))
  refine bodyPost_ret (results_cell_row rfl _ _ _ _ _ _ _ rfl (HS.out.blk 1 rfl) Try.underlying32 rfl ((szT _ (by decide)).trans rfl)) rfl ?_
  have hlen : l'.length = d.log.length := by
    have := congrArg List.length HLD.out
    rwa [List.length_map, List.length_map] at this
  refine ⟨⟨d.boot, d.term, d.vote, s', A4, c4, l'⟩, S1, S2, S3, S4, S5, ?_, ⟨rfl, rfl, rfl, HSS.out.1, HLD.out⟩, HSS.out.2, ?_, ?_⟩
  · simp only [hlen]
  · show l'.length ≤ c4
    rw [hlen]
    exact (row_hi HS.out 5 rfl).2
  · have HS1 := (HS.out.pick [2, 3, 4, 5, 6] rfl (by decide)).toRd 3 rfl
    simp only [hrdI, hlen]
    exact HS1
abbrev Lg := Led.Lg
/-- the ledger behind the first k entries -/
def ledAt (d : Hrd) : Nat → Lg
  | 0 => ⟨d.s.lim, d.s.nxt, d.s.held, d.s.last⟩
  | k + 1 => (ledAt d k).go (d.s.si + k + 1) (d.log.getD k default)
end Go.Proofs.Ytekjihmepdhmeaa.Rlo

end
