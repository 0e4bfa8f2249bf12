import Derived.Test.YtekjihmepdhmeaaRlpTj
import Derived.Deep.DeepCutAuto
import Derived.WalkMore
import Derived.Deep.CutBlock
/- Lemmas towards the law: what of the text RlpS it needs. -/
namespace Go.Proofs.Ytekjihmepdhmeaa.Rlo
open Go.RowKit Go.Proofs.YtekjihmepdhmeaaW.PrintWords Go.Proofs.Ytekjihmepdhmeaa.Sl
set_option linter.unusedVariables false
set_option linter.unusedSimpArgs false
def MergePost (w : World) (z : Int × List Rc) (e : Ending) (w' : World) : Prop := ∃ (B : Option Addr) (cb : Nat) (rs : List Rc) (S1 S2 : Nat → Prop), e = .returned (.tuple #[.int .i64 z.1, .slice B rs.length cb]) ∧ rs.map Rc.data = z.2.map Rc.data ∧ SH w w' [row recK 65 (.slice B rs.length cb) rs S1, nodesI (rs.map Rc.x) S2]
theorem merge_mk {w : World} {z : Int × List Rc} {e : Ending} {w' : World} (h : ∃ (B : Option Addr) (cb : Nat) (rs : List Rc) (S1 S2 : Nat → Prop), e = .returned (.tuple #[.int .i64 z.1, .slice B rs.length cb]) ∧ rs.map Rc.data = z.2.map Rc.data ∧ SH w w' [row recK 65 (.slice B rs.length cb) rs S1, nodesI (rs.map Rc.x) S2]) : MergePost w z e w' := h
theorem merge_nil {w0 w : World} {is : List HP} (HS : SH w0 w is) (r : Int) : MergePost w0 (r, []) (.returned (.tuple #[.int .i64 r, .slice none 0 0])) w :=
  ⟨none, 0, [], (fun _ => False), (fun _ => False), rfl, rfl, (((SH.ofBelow HS.below).nil recK 65).push (Below.refl _ _) (i := nodesI ([] : List Ent) (fun _ => False)) (fun e he => by cases he) (fun b hb => hb.elim))⟩
/-- the entries that are looked at, and behind which index -/
structure HeadOk (d : Hrd) (w : World) (ix t : Int) (l : List Ent) (A2 : Option Addr) (n2 c2 : Nat) (l2 : List Ent) (i2 : Int) : Prop where
  head : headM d ix t l = some (some (l2, i2))
  rd : Rd Ent.enc 9 w A2 n2 l2
  cap : n2 ≤ c2
  sub : ∀ e ∈ l2, e ∈ l
  lo : d.s.si ≤ i2
  hi : i2 ≤ d.s.si + d.log.length
  len : l2.length ≤ l.length
/-- in the search -/
structure LoopOk (d : Hrd) (w : World) (commit : Int) (S0 : Skp) (l : List Ent) (m : Nat) (A3 : Option Addr) (n3 c3 : Nat) (l3 : List Ent) (i3 : Int) : Prop where
  skip : skipM d commit l3 i3 = S0
  rd : Rd Ent.enc 9 w A3 n3 l3
  cap : n3 ≤ c3
  sub : ∀ e ∈ l3, e ∈ l
  lo : d.s.si ≤ i3
  hi : i3 ≤ d.s.si + d.log.length
  len : l3.length ≤ m
/-- behind it -/
structure SkipOk (d : Hrd) (w : World) (S0 : Skp) (l : List Ent) (m : Nat) (A3 : Option Addr) (n3 c3 : Nat) : Prop where
  rd : Rd Ent.enc 9 w A3 n3 S0.l
  cap : n3 ≤ c3
  sub : ∀ e ∈ S0.l, e ∈ l
  lo : d.s.si ≤ S0.i
  bad : S0.bad = false
  cut : S0.cut = true → S0.i < d.s.si + d.log.length
  add : S0.cut = false → S0.l = [] ∨ S0.i = d.s.si + d.log.length
  hi : S0.i ≤ d.s.si + d.log.length
  len : S0.l.length ≤ m
def lenV : Value → Nat
  | .slice _ n _ => n
  | _ => 0
theorem addsM_take : ∀ (l : List Ent) (i : Int) {k : Nat} {x : Ent}, k < l.length → l.getD k default = x → addsM (l.take (k + 1)) i = addsM (l.take k) i ++ [addR (i + k + 1) x]
  | [], i, k, x, h, _ => by simp at h
  | y :: l, i, 0, x, _, hx => by
    have : y = x := by simpa using hx
    subst this
    simp [addsM]
  | y :: l, i, k + 1, x, h, hx => by
    rw [List.take_succ_cons, List.take_succ_cons, addsM, addsM, addsM_take l (i + 1) (by simpa using h) (by simpa using hx), List.cons_append]
    congr 3
    rw [show i + 1 + (k : Int) + 1 = i + ((k + 1 : Nat) : Int) + 1 by omega]
theorem nodesRW_I {w : World} {l : List Ent} {S : Nat → Prop} (h : (nodesRW l S).ok w) : (nodesI l S).ok w := fun e he => ⟨(h e he).1, (h e he).2.1⟩
theorem term_past {d : Hrd} {w : World} (hk : d.ok w) (hg : hardOk d = true) {i : Int} (hi : d.s.si ≤ i) : ((termOf d (i + 1)).2 = true ↔ i < d.s.si + d.log.length) := by
  obtain ⟨hl, hl2⟩ := hardOk_last hk hg
  unfold termOf
  rw [if_neg (by omega), hl]
  by_cases h : d.s.si + d.log.length < i + 1
  · rw [if_pos (.inr h)]
    constructor
    · intro h; cases h
    · intro h; omega
  · rw [if_neg (by omega)]
    constructor
    · intro _; omega
    · intro _; rfl
set_option maxHeartbeats 6400000 in
set_option maxRecDepth 100000 in
theorem merge_any (d : Hrd) (ix t commit : Int) (A : Option Addr) (N c : Nat) (l : List Ent) (w : World) (hk : d.ok w) (hz : d.szd) (hix : ln ix) (ht : ln t) (hcm : ln commit) (hr : Rd Ent.enc 9 w A N l) (he : ∀ e ∈ l, e.ok w) (hes : ∀ e ∈ l, e.nodes.length * 8 ≤ 140737488351232) (hN : N + d.log.length ≤ 900000) (hNc : N ≤ c) :
    Calls Try.prog 29 #[.agg #[.int .u64 d.boot, .int .u64 d.term, .int .i64 d.vote, .int .u64 d.s.si, .int .u64 d.s.st, .slice d.s.nA d.s.nodes.length d.s.nc, .int .i64 d.s.lim, .int .u64 d.s.nxt, .slice d.s.hA d.s.held.length d.s.hc, .slice d.s.lA d.s.last.length d.s.lc, .slice d.gA d.log.length d.gc], .int .u64 ix, .int .u64 t, .int .u64 commit, .slice A N c] w (MergePost w (mergeG d ix t commit l)) := by
  obtain rfl := hr.len.1
  have HK := Aside0.mk hk
  have HZ := Aside0.mk hz
  have HR := Aside0.mk hr
  have HEN := Aside0.mk he
  have HES := Aside0.mk hes
  have HN9 := Aside0.mk hN
  have hl9 : l.length ≤ 900000 := by omega
  have hd9 : d.log.length ≤ 900000 := by omega
  clear hN
  have HS := Aside0.mk (SH.start w)
  cases hg : hardOk d with
  | false =>
    have HE := Aside0.mk (show mergeG d ix t commit l = (3, []) by unfold mergeG; rw [hg]; rfl)
    have HG := Aside0.mk hg
    clear hk hz hr he hes hg
    go_enter Try.func29, Try.ntmps29
    go_upto_region 1 with (first | ((fail_if_success (have _ := gh)); ((with_reducible refine gB rfl ?_); refine bx HS.out rfl rfl ?_; (first | refine bv (v := .agg (List.toArray _)) rfl ?_ | refine bv (v := .int _ _) rfl ?_ | refine bv (v := .slice _ _ _) rfl ?_ | refine bv (v := .bool _) rfl ?_ | refine bv (v := .pointer _) rfl ?_); clear HS; intro gh w1 hgh HS1; (simp only [Ent.enc, Led.Held.enc, Led.Last.enc, Rc.enc, segOf, aL, aC, aE] at HS1); have HS := Aside0.mk HS1; clear HS1; try simp only [aP, aN, aT, aZ, aS])) | ((first | ((first | ((with_reducible refine gA rfl ?_); refine sh_alloc HS.out rfl rfl (zeT _ (by decide)) ?_) | ((with_reducible refine gB rfl ?_); refine bx HS.out rfl rfl ?_; first | refine bv (v := .agg (List.toArray _)) rfl ?_ | refine bv (v := .int _ _) rfl ?_ | refine bv (v := .slice _ _ _) rfl ?_ | refine bv (v := .bool _) rfl ?_ | refine bv (v := .pointer _) rfl ?_) | ((with_reducible refine gL rfl ?_); refine sh_lit HS.out rfl rfl (by go_simp; exact ⟨⟨rfl, rfl⟩, rfl⟩) ?_)); clear HS; intro g w1 hg HS1; (simp only [Ent.enc, Led.Held.enc, Led.Last.enc, Rc.enc, zeF, segOf, aL, aC, aE] at HS1); have HS := Aside0.mk HS1; clear HS1) | ((with_reducible refine gLd rfl ?_); refine ld2 HS.out rfl rfl rfl (by repeat (first | exact AtI.here | apply AtI.there)) ?_; (first | refine LdK.one ((agT _ (by decide)).trans rfl) rfl ?_ | (refine LdK.agg ((agT _ (by decide)).trans rfl) (szT _ (by decide)) (lb rfl) ?_; try simp only [szL, aP, aN, aT, aZ, aS, aD, aF, aJ, aK, aM, aO]))) | ((with_reducible refine gSt rfl ?_); refine st2 HS.out rfl rfl rfl rfl (by repeat (first | exact AtI.here | apply AtI.there)) ?_; (first | refine sv (u := .agg (List.toArray _)) rfl ?_ | refine sv (u := .int _ _) rfl ?_ | refine sv (u := .slice _ _ _) rfl ?_ | refine sv (u := .bool _) rfl ?_ | refine sv (u := .pointer _) rfl ?_); refine sw (szT _ (by decide)) rfl (lb rfl) ?_; clear HS; intro w1 HS1; (simp only [Ent.enc, Led.Held.enc, Led.Last.enc, Rc.enc, segOf, aL, aZ, aS, putSeg] at HS1); have HS := Aside0.mk HS1; clear HS1)); try simp only [aP, aN, aT, aZ, aS]))
    go_step3
    go_wp2_with (first | (go_at_call 37; (with_reducible refine (good_any d _ (HK.out.sh HS.out)).mono ?_); rintro e w2 ⟨rfl, hb⟩; rw [HG.out]; have HS1 := HS.out.quiet hb; clear HS hb; have HS := Aside0.mk HS1; clear HS1) | ((first | ((first | ((with_reducible refine gA rfl ?_); refine sh_alloc HS.out rfl rfl (zeT _ (by decide)) ?_) | ((with_reducible refine gB rfl ?_); refine bx HS.out rfl rfl ?_; first | refine bv (v := .agg (List.toArray _)) rfl ?_ | refine bv (v := .int _ _) rfl ?_ | refine bv (v := .slice _ _ _) rfl ?_ | refine bv (v := .bool _) rfl ?_ | refine bv (v := .pointer _) rfl ?_) | ((with_reducible refine gL rfl ?_); refine sh_lit HS.out rfl rfl (by go_simp; exact ⟨⟨rfl, rfl⟩, rfl⟩) ?_)); clear HS; intro g w1 hg HS1; (simp only [Ent.enc, Led.Held.enc, Led.Last.enc, Rc.enc, zeF, segOf, aL, aC, aE] at HS1); have HS := Aside0.mk HS1; clear HS1) | ((with_reducible refine gLd rfl ?_); refine ld2 HS.out rfl rfl rfl (by repeat (first | exact AtI.here | apply AtI.there)) ?_; (first | refine LdK.one ((agT _ (by decide)).trans rfl) rfl ?_ | (refine LdK.agg ((agT _ (by decide)).trans rfl) (szT _ (by decide)) (lb rfl) ?_; try simp only [szL, aP, aN, aT, aZ, aS, aD, aF, aJ, aK, aM, aO]))) | ((with_reducible refine gSt rfl ?_); refine st2 HS.out rfl rfl rfl rfl (by repeat (first | exact AtI.here | apply AtI.there)) ?_; (first | refine sv (u := .agg (List.toArray _)) rfl ?_ | refine sv (u := .int _ _) rfl ?_ | refine sv (u := .slice _ _ _) rfl ?_ | refine sv (u := .bool _) rfl ?_ | refine sv (u := .pointer _) rfl ?_); refine sw (szT _ (by decide)) rfl (lb rfl) ?_; clear HS; intro w1 HS1; (simp only [Ent.enc, Led.Held.enc, Led.Last.enc, Rc.enc, segOf, aL, aZ, aS, putSeg] at HS1); have HS := Aside0.mk HS1; clear HS1)); try simp only [aP, aN, aT, aZ, aS]))
    go_ret2
    rw [HE.out]
    exact merge_nil HS.out 3
  | true =>
    obtain ⟨hl1, hl2⟩ := hardOk_last hk hg
    have hl3 : d.s.si + d.log.length ≤ 4611686018427387904 := by
      have hh := hg
      unfold hardOk headOk at hh
      simp only [Bool.and_eq_true, decide_eq_true_eq] at hh
      have := hh.1.1.1.1.2
      rwa [hl1] at this
    have h0 := hk.s.si.1
    have hix0 := hix.1
    have hix1 := hix.2
    have HG := Aside0.mk hg
    have HLO := Aside0.mk hl1
    obtain ⟨t1, t2, htm⟩ : ∃ t1 t2, termOf d ix = (t1, t2) := ⟨_, _, rfl⟩
    have HTO := Aside0.mk htm
    have HTM := Aside0.mk (fun w1 (h : d.ok w1) => by
      have := term_any d ix w1 h hg hix
      rw [htm] at this
      exact this)
    clear hk hz hr he hes hg htm hl1
    go_enter Try.func29, Try.ntmps29
    go_upto_region 1 with (first | ((fail_if_success (have _ := gh)); ((with_reducible refine gB rfl ?_); refine bx HS.out rfl rfl ?_; (first | refine bv (v := .agg (List.toArray _)) rfl ?_ | refine bv (v := .int _ _) rfl ?_ | refine bv (v := .slice _ _ _) rfl ?_ | refine bv (v := .bool _) rfl ?_ | refine bv (v := .pointer _) rfl ?_); clear HS; intro gh w1 hgh HS1; (simp only [Ent.enc, Led.Held.enc, Led.Last.enc, Rc.enc, segOf, aL, aC, aE] at HS1); have HS := Aside0.mk HS1; clear HS1; try simp only [aP, aN, aT, aZ, aS])) | ((first | ((first | ((with_reducible refine gA rfl ?_); refine sh_alloc HS.out rfl rfl (zeT _ (by decide)) ?_) | ((with_reducible refine gB rfl ?_); refine bx HS.out rfl rfl ?_; first | refine bv (v := .agg (List.toArray _)) rfl ?_ | refine bv (v := .int _ _) rfl ?_ | refine bv (v := .slice _ _ _) rfl ?_ | refine bv (v := .bool _) rfl ?_ | refine bv (v := .pointer _) rfl ?_) | ((with_reducible refine gL rfl ?_); refine sh_lit HS.out rfl rfl (by go_simp; exact ⟨⟨rfl, rfl⟩, rfl⟩) ?_)); clear HS; intro g w1 hg HS1; (simp only [Ent.enc, Led.Held.enc, Led.Last.enc, Rc.enc, zeF, segOf, aL, aC, aE] at HS1); have HS := Aside0.mk HS1; clear HS1) | ((with_reducible refine gLd rfl ?_); refine ld2 HS.out rfl rfl rfl (by repeat (first | exact AtI.here | apply AtI.there)) ?_; (first | refine LdK.one ((agT _ (by decide)).trans rfl) rfl ?_ | (refine LdK.agg ((agT _ (by decide)).trans rfl) (szT _ (by decide)) (lb rfl) ?_; try simp only [szL, aP, aN, aT, aZ, aS, aD, aF, aJ, aK, aM, aO]))) | ((with_reducible refine gSt rfl ?_); refine st2 HS.out rfl rfl rfl rfl (by repeat (first | exact AtI.here | apply AtI.there)) ?_; (first | refine sv (u := .agg (List.toArray _)) rfl ?_ | refine sv (u := .int _ _) rfl ?_ | refine sv (u := .slice _ _ _) rfl ?_ | refine sv (u := .bool _) rfl ?_ | refine sv (u := .pointer _) rfl ?_); refine sw (szT _ (by decide)) rfl (lb rfl) ?_; clear HS; intro w1 HS1; (simp only [Ent.enc, Led.Held.enc, Led.Last.enc, Rc.enc, segOf, aL, aZ, aS, putSeg] at HS1); have HS := Aside0.mk HS1; clear HS1)); try simp only [aP, aN, aT, aZ, aS]))
    go_step3
    go_upto_if 31 with (first | (go_at_call 37; (with_reducible refine (good_any d _ (HK.out.sh HS.out)).mono ?_); rintro e w2 ⟨rfl, hb⟩; rw [HG.out]; have HS1 := HS.out.quiet hb; clear HS hb; have HS := Aside0.mk HS1; clear HS1) | ((first | ((first | ((with_reducible refine gA rfl ?_); refine sh_alloc HS.out rfl rfl (zeT _ (by decide)) ?_) | ((with_reducible refine gB rfl ?_); refine bx HS.out rfl rfl ?_; first | refine bv (v := .agg (List.toArray _)) rfl ?_ | refine bv (v := .int _ _) rfl ?_ | refine bv (v := .slice _ _ _) rfl ?_ | refine bv (v := .bool _) rfl ?_ | refine bv (v := .pointer _) rfl ?_) | ((with_reducible refine gL rfl ?_); refine sh_lit HS.out rfl rfl (by go_simp; exact ⟨⟨rfl, rfl⟩, rfl⟩) ?_)); clear HS; intro g w1 hg HS1; (simp only [Ent.enc, Led.Held.enc, Led.Last.enc, Rc.enc, zeF, segOf, aL, aC, aE] at HS1); have HS := Aside0.mk HS1; clear HS1) | ((with_reducible refine gLd rfl ?_); refine ld2 HS.out rfl rfl rfl (by repeat (first | exact AtI.here | apply AtI.there)) ?_; (first | refine LdK.one ((agT _ (by decide)).trans rfl) rfl ?_ | (refine LdK.agg ((agT _ (by decide)).trans rfl) (szT _ (by decide)) (lb rfl) ?_; try simp only [szL, aP, aN, aT, aZ, aS, aD, aF, aJ, aK, aM, aO]))) | ((with_reducible refine gSt rfl ?_); refine st2 HS.out rfl rfl rfl rfl (by repeat (first | exact AtI.here | apply AtI.there)) ?_; (first | refine sv (u := .agg (List.toArray _)) rfl ?_ | refine sv (u := .int _ _) rfl ?_ | refine sv (u := .slice _ _ _) rfl ?_ | refine sv (u := .bool _) rfl ?_ | refine sv (u := .pointer _) rfl ?_); refine sw (szT _ (by decide)) rfl (lb rfl) ?_; clear HS; intro w1 HS1; (simp only [Ent.enc, Led.Held.enc, Led.Last.enc, Rc.enc, segOf, aL, aZ, aS, putSeg] at HS1); have HS := Aside0.mk HS1; clear HS1)); try simp only [aP, aN, aT, aZ, aS]))
    go_cut [1, 4] (fun v1 v4 wx => (∃ (A2 : Option Addr) (n2 c2 : Nat) (l2 : List Ent) (i2 : Int), v1 = .int .u64 i2 ∧ v4 = .slice A2 n2 c2 ∧ Aside0 (HeadOk d w ix t l A2 n2 c2 l2 i2) ∧ Aside0 (SH w wx [blk gh [.int .u64 d.boot, .int .u64 d.term, .int .i64 d.vote, .int .u64 d.s.si, .int .u64 d.s.st, .slice d.s.nA d.s.nodes.length d.s.nc, .int .i64 d.s.lim, .int .u64 d.s.nxt, .slice d.s.hA d.s.held.length d.s.hc, .slice d.s.lA d.s.last.length d.s.lc, .slice d.gA d.log.length d.gc] 32])))
    case first =>
      by_cases h1 : ix < d.s.si
      · have f1 : decide (ix < d.s.si) = true := by rw [decide_eq_true_eq]; exact h1
        obtain ⟨p, hp⟩ : ∃ p : Nat, d.s.si - ix = p := ⟨(d.s.si - ix).toNat, by omega⟩
        have hw1 : IntKind.u64.wrap (p : Int) = (p : Int) := IntWalk.u64_in _ (by omega)
        have hw2 : IntKind.u64.wrap (l.length : Int) = (l.length : Int) := IntWalk.u64_in _ (by omega)
        by_cases h2 : l.length ≤ p
        · have f2 : decide ((l.length : Int) ≤ (p : Int)) = true := by rw [decide_eq_true_eq]; omega
          have f3 : decide (l.length ≤ p) = true := by rw [decide_eq_true_eq]; omega
          have HE := Aside0.mk (show mergeG d ix t commit l = (1, []) by
            unfold mergeG headM
            rw [HG.out, if_neg (by decide), if_pos h1, if_pos (by omega)])
          go_wp2_with (first | ((first | ((first | ((with_reducible refine gA rfl ?_); refine sh_alloc HS.out rfl rfl (zeT _ (by decide)) ?_) | ((with_reducible refine gB rfl ?_); refine bx HS.out rfl rfl ?_; first | refine bv (v := .agg (List.toArray _)) rfl ?_ | refine bv (v := .int _ _) rfl ?_ | refine bv (v := .slice _ _ _) rfl ?_ | refine bv (v := .bool _) rfl ?_ | refine bv (v := .pointer _) rfl ?_) | ((with_reducible refine gL rfl ?_); refine sh_lit HS.out rfl rfl (by go_simp; exact ⟨⟨rfl, rfl⟩, rfl⟩) ?_)); clear HS; intro g w1 hg HS1; (simp only [Ent.enc, Led.Held.enc, Led.Last.enc, Rc.enc, zeF, segOf, aL, aC, aE] at HS1); have HS := Aside0.mk HS1; clear HS1) | ((with_reducible refine gLd rfl ?_); refine ld2 HS.out rfl rfl rfl (by repeat (first | exact AtI.here | apply AtI.there)) ?_; (first | refine LdK.one ((agT _ (by decide)).trans rfl) rfl ?_ | (refine LdK.agg ((agT _ (by decide)).trans rfl) (szT _ (by decide)) (lb rfl) ?_; try simp only [szL, aP, aN, aT, aZ, aS, aD, aF, aJ, aK, aM, aO]))) | ((with_reducible refine gSt rfl ?_); refine st2 HS.out rfl rfl rfl rfl (by repeat (first | exact AtI.here | apply AtI.there)) ?_; (first | refine sv (u := .agg (List.toArray _)) rfl ?_ | refine sv (u := .int _ _) rfl ?_ | refine sv (u := .slice _ _ _) rfl ?_ | refine sv (u := .bool _) rfl ?_ | refine sv (u := .pointer _) rfl ?_); refine sw (szT _ (by decide)) rfl (lb rfl) ?_; clear HS; intro w1 HS1; (simp only [Ent.enc, Led.Held.enc, Led.Last.enc, Rc.enc, segOf, aL, aZ, aS, putSeg] at HS1); have HS := Aside0.mk HS1; clear HS1)); try simp only [aP, aN, aT, aZ, aS]))
          go_ret2
          rw [HE.out]
          exact merge_nil HS.out 1
        · have f2 : decide ((l.length : Int) ≤ (p : Int)) = false := by rw [decide_eq_false_iff_not]; omega
          have f3 : decide (l.length ≤ p) = false := by rw [decide_eq_false_iff_not]; omega
          have hpN : p ≤ l.length := by omega
          have HHD := Aside0.mk (show headM d ix t l = some (some (l.drop p, d.s.si)) by
            unfold headM
            rw [if_pos h1, if_neg (by omega), show (d.s.si - ix).toNat = p by omega])
          go_upto_region 7 with (first | ((first | ((first | ((with_reducible refine gA rfl ?_); refine sh_alloc HS.out rfl rfl (zeT _ (by decide)) ?_) | ((with_reducible refine gB rfl ?_); refine bx HS.out rfl rfl ?_; first | refine bv (v := .agg (List.toArray _)) rfl ?_ | refine bv (v := .int _ _) rfl ?_ | refine bv (v := .slice _ _ _) rfl ?_ | refine bv (v := .bool _) rfl ?_ | refine bv (v := .pointer _) rfl ?_) | ((with_reducible refine gL rfl ?_); refine sh_lit HS.out rfl rfl (by go_simp; exact ⟨⟨rfl, rfl⟩, rfl⟩) ?_)); clear HS; intro g w1 hg HS1; (simp only [Ent.enc, Led.Held.enc, Led.Last.enc, Rc.enc, zeF, segOf, aL, aC, aE] at HS1); have HS := Aside0.mk HS1; clear HS1) | ((with_reducible refine gLd rfl ?_); refine ld2 HS.out rfl rfl rfl (by repeat (first | exact AtI.here | apply AtI.there)) ?_; (first | refine LdK.one ((agT _ (by decide)).trans rfl) rfl ?_ | (refine LdK.agg ((agT _ (by decide)).trans rfl) (szT _ (by decide)) (lb rfl) ?_; try simp only [szL, aP, aN, aT, aZ, aS, aD, aF, aJ, aK, aM, aO]))) | ((with_reducible refine gSt rfl ?_); refine st2 HS.out rfl rfl rfl rfl (by repeat (first | exact AtI.here | apply AtI.there)) ?_; (first | refine sv (u := .agg (List.toArray _)) rfl ?_ | refine sv (u := .int _ _) rfl ?_ | refine sv (u := .slice _ _ _) rfl ?_ | refine sv (u := .bool _) rfl ?_ | refine sv (u := .pointer _) rfl ?_); refine sw (szT _ (by decide)) rfl (lb rfl) ?_; clear HS; intro w1 HS1; (simp only [Ent.enc, Led.Held.enc, Led.Last.enc, Rc.enc, segOf, aL, aZ, aS, putSeg] at HS1); have HS := Aside0.mk HS1; clear HS1)); try simp only [aP, aN, aT, aZ, aS]))
          have HC := Aside0.mk (HS.out.pick [0] rfl (by decide))
          refine kheld_start [] mixed HC.out (fun HC1 => ?_)
          have HS1 := HS.out.drew
          clear HS HC
          have HS := Aside0.mk HS1
          have HC := Aside0.mk HC1
          clear HS1 HC1
          refine k_any 0 (v := _) (by simp only [aG, aH, aI]; rfl) (by kernel_rfl) (by kernel_rfl) (by kernel_rfl) (by kernel_rfl) (by exact fun _ _ _ h => h) (.inr HC.out) (by kernel_rfl) (fun w => by (repeat (rename ∀ (_ : Act) (_ : World), _ => hK9; clear hK9)); go_simp; rfl) ?_
          (try simp only [aP, aN, aT, aZ, aS])
          refine k_any 1 (v := _) (by simp only [aG, aH, aI]; rfl) (by kernel_rfl) (by kernel_rfl) (by kernel_rfl) (by kernel_rfl) (by exact fun _ _ _ h => h) (.inr HC.out) (by kernel_rfl) (fun w => by (repeat (rename ∀ (_ : Act) (_ : World), _ => hK9; clear hK9)); go_simp; rfl) ?_
          (try simp only [aP, aN, aT, aZ, aS])
          refine k_any 2 (v := .slice (cutA A c p) (l.length - p) (c - p)) (by simp only [aG, aH, aI]; rfl) (by kernel_rfl) (by kernel_rfl) (by kernel_rfl) (by kernel_rfl) (by exact fun _ _ _ h => h) (.inr HC.out) (by kernel_rfl) (fun w => run_sliceLoK rfl rfl rfl Try.underlying30 (szT _ (by decide)) hpN hNc) ?_
          (try simp only [aP, aN, aT, aZ, aS])
          refine k_any 3 (v := _) (by simp only [aG, aH, aI]; rfl) (by kernel_rfl) (by kernel_rfl) (by kernel_rfl) (by kernel_rfl) (by exact fun _ _ _ h => h) (.inr HC.out) (by kernel_rfl) (fun w => by (repeat (rename ∀ (_ : Act) (_ : World), _ => hK9; clear hK9)); go_simp; rfl) ?_
          (try simp only [aP, aN, aT, aZ, aS])
          refine k_any 4 (v := _) (by simp only [aG, aH, aI]; rfl) (by kernel_rfl) (by kernel_rfl) (by kernel_rfl) (by kernel_rfl) (by exact fun _ _ _ h => h) (.inr HC.out) (by kernel_rfl) (fun w => by (repeat (rename ∀ (_ : Act) (_ : World), _ => hK9; clear hK9)); go_simp; rfl) ?_
          (try simp only [aP, aN, aT, aZ, aS])
          refine k_load 5 (by simp only [aG, aH, aI]; rfl) (by kernel_rfl) (by kernel_rfl) (by kernel_rfl) (by kernel_rfl) (by exact fun _ _ _ h => h) HC.out (by kernel_rfl) rfl rfl 0 rfl ((agT _ (by decide)).trans rfl) rfl ?_
          (try simp only [aP, aN, aT, aZ, aS])
          refine k_any 6 (v := _) (by simp only [aG, aH, aI]; rfl) (by kernel_rfl) (by kernel_rfl) (by kernel_rfl) (by kernel_rfl) (by exact fun _ _ _ h => h) (.inr HC.out) (by kernel_rfl) (fun w => by (repeat (rename ∀ (_ : Act) (_ : World), _ => hK9; clear hK9)); go_simp; rfl) ?_
          (try simp only [aP, aN, aT, aZ, aS])
          refine k_any 7 (v := _) (by simp only [aG, aH, aI]; rfl) (by kernel_rfl) (by kernel_rfl) (by kernel_rfl) (by kernel_rfl) (by exact fun _ _ _ h => h) (.inr HC.out) (by kernel_rfl) (fun w => by (repeat (rename ∀ (_ : Act) (_ : World), _ => hK9; clear hK9)); go_simp; rfl) ?_
          (try simp only [aP, aN, aT, aZ, aS])
          refine k_done (by kernel_rfl) ?_ _
          go_wp2_with (first | ((first | ((first | ((with_reducible refine gA rfl ?_); refine sh_alloc HS.out rfl rfl (zeT _ (by decide)) ?_) | ((with_reducible refine gB rfl ?_); refine bx HS.out rfl rfl ?_; first | refine bv (v := .agg (List.toArray _)) rfl ?_ | refine bv (v := .int _ _) rfl ?_ | refine bv (v := .slice _ _ _) rfl ?_ | refine bv (v := .bool _) rfl ?_ | refine bv (v := .pointer _) rfl ?_) | ((with_reducible refine gL rfl ?_); refine sh_lit HS.out rfl rfl (by go_simp; exact ⟨⟨rfl, rfl⟩, rfl⟩) ?_)); clear HS; intro g w1 hg HS1; (simp only [Ent.enc, Led.Held.enc, Led.Last.enc, Rc.enc, zeF, segOf, aL, aC, aE] at HS1); have HS := Aside0.mk HS1; clear HS1) | ((with_reducible refine gLd rfl ?_); refine ld2 HS.out rfl rfl rfl (by repeat (first | exact AtI.here | apply AtI.there)) ?_; (first | refine LdK.one ((agT _ (by decide)).trans rfl) rfl ?_ | (refine LdK.agg ((agT _ (by decide)).trans rfl) (szT _ (by decide)) (lb rfl) ?_; try simp only [szL, aP, aN, aT, aZ, aS, aD, aF, aJ, aK, aM, aO]))) | ((with_reducible refine gSt rfl ?_); refine st2 HS.out rfl rfl rfl rfl (by repeat (first | exact AtI.here | apply AtI.there)) ?_; (first | refine sv (u := .agg (List.toArray _)) rfl ?_ | refine sv (u := .int _ _) rfl ?_ | refine sv (u := .slice _ _ _) rfl ?_ | refine sv (u := .bool _) rfl ?_ | refine sv (u := .pointer _) rfl ?_); refine sw (szT _ (by decide)) rfl (lb rfl) ?_; clear HS; intro w1 HS1; (simp only [Ent.enc, Led.Held.enc, Led.Last.enc, Rc.enc, segOf, aL, aZ, aS, putSeg] at HS1); have HS := Aside0.mk HS1; clear HS1)); try simp only [aP, aN, aT, aZ, aS]))
          go_meet
          case rel => exact ⟨_, _, _, _, _, rfl, rfl, ⟨⟨HHD.out, cutA_rd HR.out hpN hNc, by omega, fun e he => List.mem_of_mem_drop he, Int.le_refl _, by omega, (by rw [List.length_drop]; omega)⟩⟩, HS⟩
      · have f1 : decide (ix < d.s.si) = false := by rw [decide_eq_false_iff_not]; exact h1
        by_cases h2 : t2 = true ∧ t1 = t
        · obtain ⟨rfl, rfl⟩ := h2
          have f2 : (t1 != t1) = false := by simp
          have hhi : ix ≤ d.s.si + d.log.length := by
            have h := HTO.out
            unfold termOf at h
            rw [HLO.out] at h
            split at h
            · omega
            · split at h
              · cases h
              · omega
          have HHD := Aside0.mk (show headM d ix t1 l = some (some (l, ix)) by
            unfold headM
            rw [if_neg h1, HTO.out, if_pos ⟨rfl, rfl⟩])
          go_wp2_with (first | (go_at_call 38; (with_reducible refine (HTM.out _ (HK.out.sh HS.out)).mono ?_); rintro e w2 ⟨rfl, hb⟩;  have HS1 := HS.out.quiet hb; clear HS hb; have HS := Aside0.mk HS1; clear HS1) | ((first | ((first | ((with_reducible refine gA rfl ?_); refine sh_alloc HS.out rfl rfl (zeT _ (by decide)) ?_) | ((with_reducible refine gB rfl ?_); refine bx HS.out rfl rfl ?_; first | refine bv (v := .agg (List.toArray _)) rfl ?_ | refine bv (v := .int _ _) rfl ?_ | refine bv (v := .slice _ _ _) rfl ?_ | refine bv (v := .bool _) rfl ?_ | refine bv (v := .pointer _) rfl ?_) | ((with_reducible refine gL rfl ?_); refine sh_lit HS.out rfl rfl (by go_simp; exact ⟨⟨rfl, rfl⟩, rfl⟩) ?_)); clear HS; intro g w1 hg HS1; (simp only [Ent.enc, Led.Held.enc, Led.Last.enc, Rc.enc, zeF, segOf, aL, aC, aE] at HS1); have HS := Aside0.mk HS1; clear HS1) | ((with_reducible refine gLd rfl ?_); refine ld2 HS.out rfl rfl rfl (by repeat (first | exact AtI.here | apply AtI.there)) ?_; (first | refine LdK.one ((agT _ (by decide)).trans rfl) rfl ?_ | (refine LdK.agg ((agT _ (by decide)).trans rfl) (szT _ (by decide)) (lb rfl) ?_; try simp only [szL, aP, aN, aT, aZ, aS, aD, aF, aJ, aK, aM, aO]))) | ((with_reducible refine gSt rfl ?_); refine st2 HS.out rfl rfl rfl rfl (by repeat (first | exact AtI.here | apply AtI.there)) ?_; (first | refine sv (u := .agg (List.toArray _)) rfl ?_ | refine sv (u := .int _ _) rfl ?_ | refine sv (u := .slice _ _ _) rfl ?_ | refine sv (u := .bool _) rfl ?_ | refine sv (u := .pointer _) rfl ?_); refine sw (szT _ (by decide)) rfl (lb rfl) ?_; clear HS; intro w1 HS1; (simp only [Ent.enc, Led.Held.enc, Led.Last.enc, Rc.enc, segOf, aL, aZ, aS, putSeg] at HS1); have HS := Aside0.mk HS1; clear HS1)); try simp only [aP, aN, aT, aZ, aS]))
          go_meet
          case rel => exact ⟨A, l.length, c, l, ix, rfl, rfl, ⟨⟨HHD.out, HR.out, hNc, fun e he => he, by omega, hhi, Nat.le_refl _⟩⟩, HS⟩
        · have HE := Aside0.mk (show mergeG d ix t commit l = (2, []) by
            unfold mergeG headM
            rw [HG.out, if_neg (by decide), if_neg h1, HTO.out, if_neg h2])
          cases t2 with
          | false =>
            clear h2
            go_wp2_with (first | (go_at_call 38; (with_reducible refine (HTM.out _ (HK.out.sh HS.out)).mono ?_); rintro e w2 ⟨rfl, hb⟩;  have HS1 := HS.out.quiet hb; clear HS hb; have HS := Aside0.mk HS1; clear HS1) | ((first | ((first | ((with_reducible refine gA rfl ?_); refine sh_alloc HS.out rfl rfl (zeT _ (by decide)) ?_) | ((with_reducible refine gB rfl ?_); refine bx HS.out rfl rfl ?_; first | refine bv (v := .agg (List.toArray _)) rfl ?_ | refine bv (v := .int _ _) rfl ?_ | refine bv (v := .slice _ _ _) rfl ?_ | refine bv (v := .bool _) rfl ?_ | refine bv (v := .pointer _) rfl ?_) | ((with_reducible refine gL rfl ?_); refine sh_lit HS.out rfl rfl (by go_simp; exact ⟨⟨rfl, rfl⟩, rfl⟩) ?_)); clear HS; intro g w1 hg HS1; (simp only [Ent.enc, Led.Held.enc, Led.Last.enc, Rc.enc, zeF, segOf, aL, aC, aE] at HS1); have HS := Aside0.mk HS1; clear HS1) | ((with_reducible refine gLd rfl ?_); refine ld2 HS.out rfl rfl rfl (by repeat (first | exact AtI.here | apply AtI.there)) ?_; (first | refine LdK.one ((agT _ (by decide)).trans rfl) rfl ?_ | (refine LdK.agg ((agT _ (by decide)).trans rfl) (szT _ (by decide)) (lb rfl) ?_; try simp only [szL, aP, aN, aT, aZ, aS, aD, aF, aJ, aK, aM, aO]))) | ((with_reducible refine gSt rfl ?_); refine st2 HS.out rfl rfl rfl rfl (by repeat (first | exact AtI.here | apply AtI.there)) ?_; (first | refine sv (u := .agg (List.toArray _)) rfl ?_ | refine sv (u := .int _ _) rfl ?_ | refine sv (u := .slice _ _ _) rfl ?_ | refine sv (u := .bool _) rfl ?_ | refine sv (u := .pointer _) rfl ?_); refine sw (szT _ (by decide)) rfl (lb rfl) ?_; clear HS; intro w1 HS1; (simp only [Ent.enc, Led.Held.enc, Led.Last.enc, Rc.enc, segOf, aL, aZ, aS, putSeg] at HS1); have HS := Aside0.mk HS1; clear HS1)); try simp only [aP, aN, aT, aZ, aS]))
            go_ret2
            rw [HE.out]
            exact merge_nil HS.out 2
          | true =>
            have f2 : (t1 != t) = true := by rw [bne_iff_ne]; exact fun e => h2 ⟨rfl, e⟩
            clear h2
            go_wp2_with (first | (go_at_call 38; (with_reducible refine (HTM.out _ (HK.out.sh HS.out)).mono ?_); rintro e w2 ⟨rfl, hb⟩;  have HS1 := HS.out.quiet hb; clear HS hb; have HS := Aside0.mk HS1; clear HS1) | ((first | ((first | ((with_reducible refine gA rfl ?_); refine sh_alloc HS.out rfl rfl (zeT _ (by decide)) ?_) | ((with_reducible refine gB rfl ?_); refine bx HS.out rfl rfl ?_; first | refine bv (v := .agg (List.toArray _)) rfl ?_ | refine bv (v := .int _ _) rfl ?_ | refine bv (v := .slice _ _ _) rfl ?_ | refine bv (v := .bool _) rfl ?_ | refine bv (v := .pointer _) rfl ?_) | ((with_reducible refine gL rfl ?_); refine sh_lit HS.out rfl rfl (by go_simp; exact ⟨⟨rfl, rfl⟩, rfl⟩) ?_)); clear HS; intro g w1 hg HS1; (simp only [Ent.enc, Led.Held.enc, Led.Last.enc, Rc.enc, zeF, segOf, aL, aC, aE] at HS1); have HS := Aside0.mk HS1; clear HS1) | ((with_reducible refine gLd rfl ?_); refine ld2 HS.out rfl rfl rfl (by repeat (first | exact AtI.here | apply AtI.there)) ?_; (first | refine LdK.one ((agT _ (by decide)).trans rfl) rfl ?_ | (refine LdK.agg ((agT _ (by decide)).trans rfl) (szT _ (by decide)) (lb rfl) ?_; try simp only [szL, aP, aN, aT, aZ, aS, aD, aF, aJ, aK, aM, aO]))) | ((with_reducible refine gSt rfl ?_); refine st2 HS.out rfl rfl rfl rfl (by repeat (first | exact AtI.here | apply AtI.there)) ?_; (first | refine sv (u := .agg (List.toArray _)) rfl ?_ | refine sv (u := .int _ _) rfl ?_ | refine sv (u := .slice _ _ _) rfl ?_ | refine sv (u := .bool _) rfl ?_ | refine sv (u := .pointer _) rfl ?_); refine sw (szT _ (by decide)) rfl (lb rfl) ?_; clear HS; intro w1 HS1; (simp only [Ent.enc, Led.Held.enc, Led.Last.enc, Rc.enc, segOf, aL, aZ, aS, putSeg] at HS1); have HS := Aside0.mk HS1; clear HS1)); try simp only [aP, aN, aT, aZ, aS]))
            go_ret2
            rw [HE.out]
            exact merge_nil HS.out 2
    case rest =>
    clear HS
    obtain ⟨A2, n2, c2, l2, i2, rfl, rfl, HHO, HS⟩ := hcut
    have HI := Aside0.mk (And.intro HHO.out.lo HHO.out.hi)
    obtain ⟨S0, hS0⟩ : ∃ s, skipM d commit l2 i2 = s := ⟨_, rfl⟩
    have HS0 := Aside0.mk hS0
    have HMG := Aside0.mk (show mergeG d ix t commit l = ((if S0.bad then ((3 : Int), []) else match doAll d (recsM S0) with | none => ((3 : Int), []) | some _ => ((1 : Int), recsM S0)) : Int × List Rc) by
      unfold mergeG
      rw [HG.out, if_neg (by decide), HHO.out.head]
      simp only
      rw [hS0]
      first | rfl | (split <;> rfl))
    clear hS0
    go_wp2_with (first | ((first | ((first | ((with_reducible refine gA rfl ?_); refine sh_alloc HS.out rfl rfl (zeT _ (by decide)) ?_) | ((with_reducible refine gB rfl ?_); refine bx HS.out rfl rfl ?_; first | refine bv (v := .agg (List.toArray _)) rfl ?_ | refine bv (v := .int _ _) rfl ?_ | refine bv (v := .slice _ _ _) rfl ?_ | refine bv (v := .bool _) rfl ?_ | refine bv (v := .pointer _) rfl ?_) | ((with_reducible refine gL rfl ?_); refine sh_lit HS.out rfl rfl (by go_simp; exact ⟨⟨rfl, rfl⟩, rfl⟩) ?_)); clear HS; intro g w1 hg HS1; (simp only [Ent.enc, Led.Held.enc, Led.Last.enc, Rc.enc, zeF, segOf, aL, aC, aE] at HS1); have HS := Aside0.mk HS1; clear HS1) | ((with_reducible refine gLd rfl ?_); refine ld2 HS.out rfl rfl rfl (by repeat (first | exact AtI.here | apply AtI.there)) ?_; (first | refine LdK.one ((agT _ (by decide)).trans rfl) rfl ?_ | (refine LdK.agg ((agT _ (by decide)).trans rfl) (szT _ (by decide)) (lb rfl) ?_; try simp only [szL, aP, aN, aT, aZ, aS, aD, aF, aJ, aK, aM, aO]))) | ((with_reducible refine gSt rfl ?_); refine st2 HS.out rfl rfl rfl rfl (by repeat (first | exact AtI.here | apply AtI.there)) ?_; (first | refine sv (u := .agg (List.toArray _)) rfl ?_ | refine sv (u := .int _ _) rfl ?_ | refine sv (u := .slice _ _ _) rfl ?_ | refine sv (u := .bool _) rfl ?_ | refine sv (u := .pointer _) rfl ?_); refine sw (szT _ (by decide)) rfl (lb rfl) ?_; clear HS; intro w1 HS1; (simp only [Ent.enc, Led.Held.enc, Led.Last.enc, Rc.enc, segOf, aL, aZ, aS, putSeg] at HS1); have HS := Aside0.mk HS1; clear HS1)); try simp only [aP, aN, aT, aZ, aS]))
    go_step3
    go_upto_block 0 with (first | ((first | ((first | ((with_reducible refine gA rfl ?_); refine sh_alloc HS.out rfl rfl (zeT _ (by decide)) ?_) | ((with_reducible refine gB rfl ?_); refine bx HS.out rfl rfl ?_; first | refine bv (v := .agg (List.toArray _)) rfl ?_ | refine bv (v := .int _ _) rfl ?_ | refine bv (v := .slice _ _ _) rfl ?_ | refine bv (v := .bool _) rfl ?_ | refine bv (v := .pointer _) rfl ?_) | ((with_reducible refine gL rfl ?_); refine sh_lit HS.out rfl rfl (by go_simp; exact ⟨⟨rfl, rfl⟩, rfl⟩) ?_)); clear HS; intro g w1 hg HS1; (simp only [Ent.enc, Led.Held.enc, Led.Last.enc, Rc.enc, zeF, segOf, aL, aC, aE] at HS1); have HS := Aside0.mk HS1; clear HS1) | ((with_reducible refine gLd rfl ?_); refine ld2 HS.out rfl rfl rfl (by repeat (first | exact AtI.here | apply AtI.there)) ?_; (first | refine LdK.one ((agT _ (by decide)).trans rfl) rfl ?_ | (refine LdK.agg ((agT _ (by decide)).trans rfl) (szT _ (by decide)) (lb rfl) ?_; try simp only [szL, aP, aN, aT, aZ, aS, aD, aF, aJ, aK, aM, aO]))) | ((with_reducible refine gSt rfl ?_); refine st2 HS.out rfl rfl rfl rfl (by repeat (first | exact AtI.here | apply AtI.there)) ?_; (first | refine sv (u := .agg (List.toArray _)) rfl ?_ | refine sv (u := .int _ _) rfl ?_ | refine sv (u := .slice _ _ _) rfl ?_ | refine sv (u := .bool _) rfl ?_ | refine sv (u := .pointer _) rfl ?_); refine sw (szT _ (by decide)) rfl (lb rfl) ?_; clear HS; intro w1 HS1; (simp only [Ent.enc, Led.Held.enc, Led.Last.enc, Rc.enc, segOf, aL, aZ, aS, putSeg] at HS1); have HS := Aside0.mk HS1; clear HS1)); try simp only [aP, aN, aT, aZ, aS]))
    go_cut [1, 4, 15] (fun v1 v4 v15 wx => ∃ (A3 : Option Addr) (n3 c3 : Nat) (S : Nat → Prop), v1 = .int .u64 S0.i ∧ v4 = .slice A3 n3 c3 ∧ Aside0 (SkipOk d w S0 l l.length A3 n3 c3) ∧ Aside0 (SH w wx [blk gh [.int .u64 d.boot, .int .u64 d.term, .int .i64 d.vote, .int .u64 d.s.si, .int .u64 d.s.st, .slice d.s.nA d.s.nodes.length d.s.nc, .int .i64 d.s.lim, .int .u64 d.s.nxt, .slice d.s.hA d.s.held.length d.s.hc, .slice d.s.lA d.s.last.length d.s.lc, .slice d.gA d.log.length d.gc] 32, row recK 65 v15 (if S0.cut then [cutR (S0.i + 1)] else []) S]))
    case first =>
      go_wp2_with (first | ((first | ((first | ((with_reducible refine gA rfl ?_); refine sh_alloc HS.out rfl rfl (zeT _ (by decide)) ?_) | ((with_reducible refine gB rfl ?_); refine bx HS.out rfl rfl ?_; first | refine bv (v := .agg (List.toArray _)) rfl ?_ | refine bv (v := .int _ _) rfl ?_ | refine bv (v := .slice _ _ _) rfl ?_ | refine bv (v := .bool _) rfl ?_ | refine bv (v := .pointer _) rfl ?_) | ((with_reducible refine gL rfl ?_); refine sh_lit HS.out rfl rfl (by go_simp; exact ⟨⟨rfl, rfl⟩, rfl⟩) ?_)); clear HS; intro g w1 hg HS1; (simp only [Ent.enc, Led.Held.enc, Led.Last.enc, Rc.enc, zeF, segOf, aL, aC, aE] at HS1); have HS := Aside0.mk HS1; clear HS1) | ((with_reducible refine gLd rfl ?_); refine ld2 HS.out rfl rfl rfl (by repeat (first | exact AtI.here | apply AtI.there)) ?_; (first | refine LdK.one ((agT _ (by decide)).trans rfl) rfl ?_ | (refine LdK.agg ((agT _ (by decide)).trans rfl) (szT _ (by decide)) (lb rfl) ?_; try simp only [szL, aP, aN, aT, aZ, aS, aD, aF, aJ, aK, aM, aO]))) | ((with_reducible refine gSt rfl ?_); refine st2 HS.out rfl rfl rfl rfl (by repeat (first | exact AtI.here | apply AtI.there)) ?_; (first | refine sv (u := .agg (List.toArray _)) rfl ?_ | refine sv (u := .int _ _) rfl ?_ | refine sv (u := .slice _ _ _) rfl ?_ | refine sv (u := .bool _) rfl ?_ | refine sv (u := .pointer _) rfl ?_); refine sw (szT _ (by decide)) rfl (lb rfl) ?_; clear HS; intro w1 HS1; (simp only [Ent.enc, Led.Held.enc, Led.Last.enc, Rc.enc, segOf, aL, aZ, aS, putSeg] at HS1); have HS := Aside0.mk HS1; clear HS1)); try simp only [aP, aN, aT, aZ, aS]))
      go_loopw [1, 4, 15] (fun v1 v4 v15 wr => ∃ (A3 : Option Addr) (n3 c3 : Nat) (l3 : List Ent) (i3 : Int), v1 = .int .u64 i3 ∧ v4 = .slice A3 n3 c3 ∧ v15 = .slice none 0 0 ∧ Aside0 (LoopOk d w commit S0 l l.length A3 n3 c3 l3 i3) ∧ Aside0 (SH w wr [blk gh [.int .u64 d.boot, .int .u64 d.term, .int .i64 d.vote, .int .u64 d.s.si, .int .u64 d.s.st, .slice d.s.nA d.s.nodes.length d.s.nc, .int .i64 d.s.lim, .int .u64 d.s.nxt, .slice d.s.hA d.s.held.length d.s.hc, .slice d.s.lA d.s.last.length d.s.lc, .slice d.gA d.log.length d.gc] 32])) (fun _ v4 _ _ => lenV v4)
      case atStart => exact ⟨A2, n2, c2, l2, i2, rfl, rfl, rfl, ⟨⟨HS0.out, HHO.out.rd, HHO.out.cap, HHO.out.sub, HHO.out.lo, HHO.out.hi, HHO.out.len⟩⟩, HS⟩
      case round =>
        clear HS
        obtain ⟨A3, n3, c3, l3, i3, rfl, rfl, rfl, HLK, HS⟩ := hrel
        have hn3 := HLK.out.rd.len.1
        have hlo3 := HLK.out.lo
        have hhi3 := HLK.out.hi
        have hcap3 := HLK.out.cap
        cases l3 with
        | nil =>
          obtain rfl : n3 = 0 := by simpa using hn3.symm
          have hsk : S0 = ⟨[], i3, false, false⟩ := HLK.out.skip.symm
          have HSK := Aside0.mk hsk
          clear hsk
          go_wp2_with (first | ((first | ((first | ((with_reducible refine gA rfl ?_); refine sh_alloc HS.out rfl rfl (zeT _ (by decide)) ?_) | ((with_reducible refine gB rfl ?_); refine bx HS.out rfl rfl ?_; first | refine bv (v := .agg (List.toArray _)) rfl ?_ | refine bv (v := .int _ _) rfl ?_ | refine bv (v := .slice _ _ _) rfl ?_ | refine bv (v := .bool _) rfl ?_ | refine bv (v := .pointer _) rfl ?_) | ((with_reducible refine gL rfl ?_); refine sh_lit HS.out rfl rfl (by go_simp; exact ⟨⟨rfl, rfl⟩, rfl⟩) ?_)); clear HS; intro g w1 hg HS1; (simp only [Ent.enc, Led.Held.enc, Led.Last.enc, Rc.enc, zeF, segOf, aL, aC, aE] at HS1); have HS := Aside0.mk HS1; clear HS1) | ((with_reducible refine gLd rfl ?_); refine ld2 HS.out rfl rfl rfl (by repeat (first | exact AtI.here | apply AtI.there)) ?_; (first | refine LdK.one ((agT _ (by decide)).trans rfl) rfl ?_ | (refine LdK.agg ((agT _ (by decide)).trans rfl) (szT _ (by decide)) (lb rfl) ?_; try simp only [szL, aP, aN, aT, aZ, aS, aD, aF, aJ, aK, aM, aO]))) | ((with_reducible refine gSt rfl ?_); refine st2 HS.out rfl rfl rfl rfl (by repeat (first | exact AtI.here | apply AtI.there)) ?_; (first | refine sv (u := .agg (List.toArray _)) rfl ?_ | refine sv (u := .int _ _) rfl ?_ | refine sv (u := .slice _ _ _) rfl ?_ | refine sv (u := .bool _) rfl ?_ | refine sv (u := .pointer _) rfl ?_); refine sw (szT _ (by decide)) rfl (lb rfl) ?_; clear HS; intro w1 HS1; (simp only [Ent.enc, Led.Held.enc, Led.Last.enc, Rc.enc, segOf, aL, aZ, aS, putSeg] at HS1); have HS := Aside0.mk HS1; clear HS1)); try simp only [aP, aN, aT, aZ, aS]))
          go_meet
          case rel =>
            have hsk := HSK.out
            subst hsk
            exact ⟨A3, 0, c3, (fun _ => False), rfl, rfl, ⟨⟨HLK.out.rd, HLK.out.cap, HLK.out.sub, hlo3, rfl, (fun h => (by cases h)), (fun _ => .inl rfl), hhi3, HLK.out.len⟩⟩, ⟨show SH w _ [blk gh [.int .u64 d.boot, .int .u64 d.term, .int .i64 d.vote, .int .u64 d.s.si, .int .u64 d.s.st, .slice d.s.nA d.s.nodes.length d.s.nc, .int .i64 d.s.lim, .int .u64 d.s.nxt, .slice d.s.hA d.s.held.length d.s.hc, .slice d.s.lA d.s.last.length d.s.lc, .slice d.gA d.log.length d.gc] 32, row recK 65 (.slice none 0 0) [] (fun _ => False)] from HS.out.nil recK 65⟩⟩
        | cons x l4 =>
          have hn3p : 0 < n3 := by rw [← hn3]; simp
          obtain ⟨ad3, rfl⟩ := HLK.out.rd.addr hn3p
          have HX := Aside0.mk (show (x :: l4).getD 0 default = x from rfl)
          have hw1 : IntKind.u64.wrap (i3 + 1) = i3 + 1 := IntWalk.u64_in _ (by omega)
          obtain ⟨q1, q2, hq⟩ : ∃ q1 q2, termOf d (i3 + 1) = (q1, q2) := ⟨_, _, rfl⟩
          have hpast := term_past (HK.out.sh HS.out) HG.out hlo3
          rw [hq] at hpast
          have HPA := Aside0.mk hpast
          have HQ := Aside0.mk hq
          have HSK := Aside0.mk (show S0 = _ from (HLK.out.skip.symm.trans (skipM_cons d commit x l4 i3)))
          have HTR := Aside0.mk (fun w1 (h : d.ok w1) => by
            have := term_any d (i3 + 1) w1 h HG.out ⟨by omega, by omega⟩
            rw [hq] at this
            exact this)
          clear hq hpast
          cases q2 with
          | false =>
            go_wp2_with (first | (go_at_call 38; (with_reducible refine (HTR.out _ (HK.out.sh HS.out)).mono ?_); rintro e w2 ⟨rfl, hb⟩;  have HS1 := HS.out.quiet hb; clear HS hb; have HS := Aside0.mk HS1; clear HS1) | ((first | ((first | ((with_reducible refine gA rfl ?_); refine sh_alloc HS.out rfl rfl (zeT _ (by decide)) ?_) | ((with_reducible refine gB rfl ?_); refine bx HS.out rfl rfl ?_; first | refine bv (v := .agg (List.toArray _)) rfl ?_ | refine bv (v := .int _ _) rfl ?_ | refine bv (v := .slice _ _ _) rfl ?_ | refine bv (v := .bool _) rfl ?_ | refine bv (v := .pointer _) rfl ?_) | ((with_reducible refine gL rfl ?_); refine sh_lit HS.out rfl rfl (by go_simp; exact ⟨⟨rfl, rfl⟩, rfl⟩) ?_)); clear HS; intro g w1 hg HS1; (simp only [Ent.enc, Led.Held.enc, Led.Last.enc, Rc.enc, zeF, segOf, aL, aC, aE] at HS1); have HS := Aside0.mk HS1; clear HS1) | ((with_reducible refine gLd rfl ?_); refine ld2 HS.out rfl rfl rfl (by repeat (first | exact AtI.here | apply AtI.there)) ?_; (first | refine LdK.one ((agT _ (by decide)).trans rfl) rfl ?_ | (refine LdK.agg ((agT _ (by decide)).trans rfl) (szT _ (by decide)) (lb rfl) ?_; try simp only [szL, aP, aN, aT, aZ, aS, aD, aF, aJ, aK, aM, aO]))) | ((with_reducible refine gSt rfl ?_); refine st2 HS.out rfl rfl rfl rfl (by repeat (first | exact AtI.here | apply AtI.there)) ?_; (first | refine sv (u := .agg (List.toArray _)) rfl ?_ | refine sv (u := .int _ _) rfl ?_ | refine sv (u := .slice _ _ _) rfl ?_ | refine sv (u := .bool _) rfl ?_ | refine sv (u := .pointer _) rfl ?_); refine sw (szT _ (by decide)) rfl (lb rfl) ?_; clear HS; intro w1 HS1; (simp only [Ent.enc, Led.Held.enc, Led.Last.enc, Rc.enc, segOf, aL, aZ, aS, putSeg] at HS1); have HS := Aside0.mk HS1; clear HS1)); try simp only [aP, aN, aT, aZ, aS]))
            go_meet
            case rel =>
              have hsk := HSK.out
              rw [HQ.out, if_pos rfl] at hsk
              have hhi : i3 = d.s.si + d.log.length := by
                have := HPA.out
                simp at this
                omega
              subst hsk
              exact ⟨_, n3, c3, (fun _ => False), rfl, rfl, ⟨⟨HLK.out.rd, HLK.out.cap, HLK.out.sub, hlo3, rfl, (fun h => (by cases h)), (fun _ => .inr hhi), hhi3, HLK.out.len⟩⟩, ⟨show SH w _ [blk gh [.int .u64 d.boot, .int .u64 d.term, .int .i64 d.vote, .int .u64 d.s.si, .int .u64 d.s.st, .slice d.s.nA d.s.nodes.length d.s.nc, .int .i64 d.s.lim, .int .u64 d.s.nxt, .slice d.s.hA d.s.held.length d.s.hc, .slice d.s.lA d.s.last.length d.s.lc, .slice d.gA d.log.length d.gc] 32, row recK 65 (.slice none 0 0) [] (fun _ => False)] from HS.out.nil recK 65⟩⟩
          | true =>
            have hlt3 : i3 < d.s.si + d.log.length := HPA.out.1 rfl
            cases e1 : (q1 == x.term) with
            | true =>
              have hr4 : Rd Ent.enc 9 w (cutA (some ad3) c3 1) (n3 - 1) l4 := cutA_rd HLK.out.rd (k := 1) (by omega) hcap3
              have HR4 := Aside0.mk hr4
              clear hr4
              go_wp2_with (first | (go_at_call 38; (with_reducible refine (HTR.out _ (HK.out.sh HS.out)).mono ?_); rintro e w2 ⟨rfl, hb⟩;  have HS1 := HS.out.quiet hb; clear HS hb; have HS := Aside0.mk HS1; clear HS1) | ((with_reducible refine gLd rfl ?_); refine rd_loadf (Aside0.mk (HLK.out.rd.sh HS.out)).out rfl rfl (i := 0) 0 rfl hn3p default ((agT _ (by decide)).trans rfl) (fun e => .int .u64 e.term) (fun _ => rfl) ?_; intro x hx; obtain rfl := HX.out.symm.trans hx; (try simp only [aP, aN, aT, aZ, aS])) | ((with_reducible refine gSl rfl ?_); refine sl_lo rfl rfl 1 rfl rfl Try.underlying30 (szT _ (by decide)) (by omega) (by omega) ?_; (try simp only [aP, aN, aT, aZ, aS])) | ((first | ((first | ((with_reducible refine gA rfl ?_); refine sh_alloc HS.out rfl rfl (zeT _ (by decide)) ?_) | ((with_reducible refine gB rfl ?_); refine bx HS.out rfl rfl ?_; first | refine bv (v := .agg (List.toArray _)) rfl ?_ | refine bv (v := .int _ _) rfl ?_ | refine bv (v := .slice _ _ _) rfl ?_ | refine bv (v := .bool _) rfl ?_ | refine bv (v := .pointer _) rfl ?_) | ((with_reducible refine gL rfl ?_); refine sh_lit HS.out rfl rfl (by go_simp; exact ⟨⟨rfl, rfl⟩, rfl⟩) ?_)); clear HS; intro g w1 hg HS1; (simp only [Ent.enc, Led.Held.enc, Led.Last.enc, Rc.enc, zeF, segOf, aL, aC, aE] at HS1); have HS := Aside0.mk HS1; clear HS1) | ((with_reducible refine gLd rfl ?_); refine ld2 HS.out rfl rfl rfl (by repeat (first | exact AtI.here | apply AtI.there)) ?_; (first | refine LdK.one ((agT _ (by decide)).trans rfl) rfl ?_ | (refine LdK.agg ((agT _ (by decide)).trans rfl) (szT _ (by decide)) (lb rfl) ?_; try simp only [szL, aP, aN, aT, aZ, aS, aD, aF, aJ, aK, aM, aO]))) | ((with_reducible refine gSt rfl ?_); refine st2 HS.out rfl rfl rfl rfl (by repeat (first | exact AtI.here | apply AtI.there)) ?_; (first | refine sv (u := .agg (List.toArray _)) rfl ?_ | refine sv (u := .int _ _) rfl ?_ | refine sv (u := .slice _ _ _) rfl ?_ | refine sv (u := .bool _) rfl ?_ | refine sv (u := .pointer _) rfl ?_); refine sw (szT _ (by decide)) rfl (lb rfl) ?_; clear HS; intro w1 HS1; (simp only [Ent.enc, Led.Held.enc, Led.Last.enc, Rc.enc, segOf, aL, aZ, aS, putSeg] at HS1); have HS := Aside0.mk HS1; clear HS1)); try simp only [aP, aN, aT, aZ, aS]))
              go_roundw
              case rel =>
                have hsk := HSK.out
                rw [HQ.out, if_neg (by simp), if_pos (by simpa using e1)] at hsk
                exact ⟨_, _, _, l4, i3 + 1, rfl, rfl, rfl, ⟨⟨hsk.symm, HR4.out, by omega, fun e he => HLK.out.sub e (List.mem_cons_of_mem _ he), by omega, by omega, by have := HLK.out.len; simp at this; omega⟩⟩, HS⟩
              case measure => simp [lenV]; omega
            | false =>
              by_cases h3 : i3 < commit
              · go_wp2_with (first | (go_at_call 38; (with_reducible refine (HTR.out _ (HK.out.sh HS.out)).mono ?_); rintro e w2 ⟨rfl, hb⟩;  have HS1 := HS.out.quiet hb; clear HS hb; have HS := Aside0.mk HS1; clear HS1) | ((with_reducible refine gLd rfl ?_); refine rd_loadf (Aside0.mk (HLK.out.rd.sh HS.out)).out rfl rfl (i := 0) 0 rfl hn3p default ((agT _ (by decide)).trans rfl) (fun e => .int .u64 e.term) (fun _ => rfl) ?_; intro x hx; obtain rfl := HX.out.symm.trans hx; (try simp only [aP, aN, aT, aZ, aS])) | ((first | ((first | ((with_reducible refine gA rfl ?_); refine sh_alloc HS.out rfl rfl (zeT _ (by decide)) ?_) | ((with_reducible refine gB rfl ?_); refine bx HS.out rfl rfl ?_; first | refine bv (v := .agg (List.toArray _)) rfl ?_ | refine bv (v := .int _ _) rfl ?_ | refine bv (v := .slice _ _ _) rfl ?_ | refine bv (v := .bool _) rfl ?_ | refine bv (v := .pointer _) rfl ?_) | ((with_reducible refine gL rfl ?_); refine sh_lit HS.out rfl rfl (by go_simp; exact ⟨⟨rfl, rfl⟩, rfl⟩) ?_)); clear HS; intro g w1 hg HS1; (simp only [Ent.enc, Led.Held.enc, Led.Last.enc, Rc.enc, zeF, segOf, aL, aC, aE] at HS1); have HS := Aside0.mk HS1; clear HS1) | ((with_reducible refine gLd rfl ?_); refine ld2 HS.out rfl rfl rfl (by repeat (first | exact AtI.here | apply AtI.there)) ?_; (first | refine LdK.one ((agT _ (by decide)).trans rfl) rfl ?_ | (refine LdK.agg ((agT _ (by decide)).trans rfl) (szT _ (by decide)) (lb rfl) ?_; try simp only [szL, aP, aN, aT, aZ, aS, aD, aF, aJ, aK, aM, aO]))) | ((with_reducible refine gSt rfl ?_); refine st2 HS.out rfl rfl rfl rfl (by repeat (first | exact AtI.here | apply AtI.there)) ?_; (first | refine sv (u := .agg (List.toArray _)) rfl ?_ | refine sv (u := .int _ _) rfl ?_ | refine sv (u := .slice _ _ _) rfl ?_ | refine sv (u := .bool _) rfl ?_ | refine sv (u := .pointer _) rfl ?_); refine sw (szT _ (by decide)) rfl (lb rfl) ?_; clear HS; intro w1 HS1; (simp only [Ent.enc, Led.Held.enc, Led.Last.enc, Rc.enc, segOf, aL, aZ, aS, putSeg] at HS1); have HS := Aside0.mk HS1; clear HS1)); try simp only [aP, aN, aT, aZ, aS]))
                go_ret2
                have hsk := HSK.out
                rw [HQ.out, if_neg (by simp), if_neg (by simpa using e1), if_pos h3] at hsk
                have hmg := HMG.out
                subst hsk
                rw [hmg]
                exact merge_nil HS.out 3
              · go_wp2_with (first | (go_at_call 38; (with_reducible refine (HTR.out _ (HK.out.sh HS.out)).mono ?_); rintro e w2 ⟨rfl, hb⟩;  have HS1 := HS.out.quiet hb; clear HS hb; have HS := Aside0.mk HS1; clear HS1) | ((with_reducible refine gLd rfl ?_); refine rd_loadf (Aside0.mk (HLK.out.rd.sh HS.out)).out rfl rfl (i := 0) 0 rfl hn3p default ((agT _ (by decide)).trans rfl) (fun e => .int .u64 e.term) (fun _ => rfl) ?_; intro x hx; obtain rfl := HX.out.symm.trans hx; (try simp only [aP, aN, aT, aZ, aS])) | ((with_reducible refine gC (b := .append) rfl ?_); refine sh_append_nil Rc.len Rc.one HS.out rfl rfl rfl rfl (Rd.one Rc.len (cutR (i3 + 1)) (HS.out.blk 1 rfl)) Try.underlying57 infoRec rfl (by decide) (by decide) (by decide) ?_; clear HS; intro v1 w1 S1 HS1; (simp only [aC, aE] at HS1); have HS := Aside0.mk HS1; clear HS1; try simp only [aP, aN, aT, aZ, aS]; obtain ⟨B1, cb1, rfl, hcb1, _⟩ := row_rd HS.out 2 rfl) | ((first | ((first | ((with_reducible refine gA rfl ?_); refine sh_alloc HS.out rfl rfl (zeT _ (by decide)) ?_) | ((with_reducible refine gB rfl ?_); refine bx HS.out rfl rfl ?_; first | refine bv (v := .agg (List.toArray _)) rfl ?_ | refine bv (v := .int _ _) rfl ?_ | refine bv (v := .slice _ _ _) rfl ?_ | refine bv (v := .bool _) rfl ?_ | refine bv (v := .pointer _) rfl ?_) | ((with_reducible refine gL rfl ?_); refine sh_lit HS.out rfl rfl (by go_simp; exact ⟨⟨rfl, rfl⟩, rfl⟩) ?_)); clear HS; intro g w1 hg HS1; (simp only [Ent.enc, Led.Held.enc, Led.Last.enc, Rc.enc, zeF, segOf, aL, aC, aE] at HS1); have HS := Aside0.mk HS1; clear HS1) | ((with_reducible refine gLd rfl ?_); refine ld2 HS.out rfl rfl rfl (by repeat (first | exact AtI.here | apply AtI.there)) ?_; (first | refine LdK.one ((agT _ (by decide)).trans rfl) rfl ?_ | (refine LdK.agg ((agT _ (by decide)).trans rfl) (szT _ (by decide)) (lb rfl) ?_; try simp only [szL, aP, aN, aT, aZ, aS, aD, aF, aJ, aK, aM, aO]))) | ((with_reducible refine gSt rfl ?_); refine st2 HS.out rfl rfl rfl rfl (by repeat (first | exact AtI.here | apply AtI.there)) ?_; (first | refine sv (u := .agg (List.toArray _)) rfl ?_ | refine sv (u := .int _ _) rfl ?_ | refine sv (u := .slice _ _ _) rfl ?_ | refine sv (u := .bool _) rfl ?_ | refine sv (u := .pointer _) rfl ?_); refine sw (szT _ (by decide)) rfl (lb rfl) ?_; clear HS; intro w1 HS1; (simp only [Ent.enc, Led.Held.enc, Led.Last.enc, Rc.enc, segOf, aL, aZ, aS, putSeg] at HS1); have HS := Aside0.mk HS1; clear HS1)); try simp only [aP, aN, aT, aZ, aS]))
                go_meet
                case rel =>
                  have hsk := HSK.out
                  rw [HQ.out, if_neg (by simp), if_neg (by simpa using e1), if_neg (by omega)] at hsk
                  subst hsk
                  exact ⟨_, n3, c3, _, rfl, rfl, ⟨⟨HLK.out.rd, HLK.out.cap, HLK.out.sub, hlo3, rfl, (fun _ => hlt3), (fun h => (by cases h)), hhi3, HLK.out.len⟩⟩, ⟨HS.out.pick [0, 2] rfl (by decide)⟩⟩
    case rest =>
    clear HS
    obtain ⟨A3, n3, c3, Sc, rfl, rfl, HSO, HS⟩ := hcut
    obtain ⟨pre, hpre⟩ : ∃ pre, (if S0.cut then [cutR (S0.i + 1)] else []) = pre := ⟨_, rfl⟩
    rw [hpre] at HS
    have HPRE := Aside0.mk hpre
    have hprel : pre.length ≤ 1 := by rw [← hpre]; split <;> simp
    have hprez : ∀ e ∈ pre.map Rc.x, e = zeroE := by
      intro e he
      rw [← hpre] at he
      split at he
      · simpa [cutR] using he
      · simp at he
    have HS9 := HS.out.push (Below.refl _ _) (i := nodesI (pre.map Rc.x) (fun _ => False)) (fun e he => by
      obtain rfl := hprez e he
      exact ⟨zeroE_ok _, fun ad h => by cases h⟩) (fun b hb => hb.elim)
    clear HS hpre hprez
    have HS := Aside0.mk (show SH w _ [blk gh [.int .u64 d.boot, .int .u64 d.term, .int .i64 d.vote, .int .u64 d.s.si, .int .u64 d.s.st, .slice d.s.nA d.s.nodes.length d.s.nc, .int .i64 d.s.lim, .int .u64 d.s.nxt, .slice d.s.hA d.s.held.length d.s.hc, .slice d.s.lA d.s.last.length d.s.lc, .slice d.gA d.log.length d.gc] 32, row recK 65 _ pre Sc, nodesI (pre.map Rc.x) (fun _ => False)] from HS9)
    clear HS9
    have hn3 := HSO.out.rd.len.1
    have hm3 : S0.l.length ≤ 900000 := Nat.le_trans HSO.out.len hl9
    have hSlo := HSO.out.lo
    have hShi := HSO.out.hi
    go_wp2_with (first | ((first | ((first | ((with_reducible refine gA rfl ?_); refine sh_alloc HS.out rfl rfl (zeT _ (by decide)) ?_) | ((with_reducible refine gB rfl ?_); refine bx HS.out rfl rfl ?_; first | refine bv (v := .agg (List.toArray _)) rfl ?_ | refine bv (v := .int _ _) rfl ?_ | refine bv (v := .slice _ _ _) rfl ?_ | refine bv (v := .bool _) rfl ?_ | refine bv (v := .pointer _) rfl ?_) | ((with_reducible refine gL rfl ?_); refine sh_lit HS.out rfl rfl (by go_simp; exact ⟨⟨rfl, rfl⟩, rfl⟩) ?_)); clear HS; intro g w1 hg HS1; (simp only [Ent.enc, Led.Held.enc, Led.Last.enc, Rc.enc, zeF, segOf, aL, aC, aE] at HS1); have HS := Aside0.mk HS1; clear HS1) | ((with_reducible refine gLd rfl ?_); refine ld2 HS.out rfl rfl rfl (by repeat (first | exact AtI.here | apply AtI.there)) ?_; (first | refine LdK.one ((agT _ (by decide)).trans rfl) rfl ?_ | (refine LdK.agg ((agT _ (by decide)).trans rfl) (szT _ (by decide)) (lb rfl) ?_; try simp only [szL, aP, aN, aT, aZ, aS, aD, aF, aJ, aK, aM, aO]))) | ((with_reducible refine gSt rfl ?_); refine st2 HS.out rfl rfl rfl rfl (by repeat (first | exact AtI.here | apply AtI.there)) ?_; (first | refine sv (u := .agg (List.toArray _)) rfl ?_ | refine sv (u := .int _ _) rfl ?_ | refine sv (u := .slice _ _ _) rfl ?_ | refine sv (u := .bool _) rfl ?_ | refine sv (u := .pointer _) rfl ?_); refine sw (szT _ (by decide)) rfl (lb rfl) ?_; clear HS; intro w1 HS1; (simp only [Ent.enc, Led.Held.enc, Led.Last.enc, Rc.enc, segOf, aL, aZ, aS, putSeg] at HS1); have HS := Aside0.mk HS1; clear HS1)); try simp only [aP, aN, aT, aZ, aS]))
    go_loopw [1, 15, 97] (fun v1 v15 v97 wr => ∃ (k : Nat) (rs : List Rc) (S1 S2 : Nat → Prop), k ≤ n3 ∧ v97 = .int .i64 k ∧ v1 = .int .u64 (S0.i + k) ∧ Aside0 (rs.map Rc.data = (pre ++ addsM (S0.l.take k) S0.i).map Rc.data) ∧ Aside0 (SH w wr [blk gh [.int .u64 d.boot, .int .u64 d.term, .int .i64 d.vote, .int .u64 d.s.si, .int .u64 d.s.st, .slice d.s.nA d.s.nodes.length d.s.nc, .int .i64 d.s.lim, .int .u64 d.s.nxt, .slice d.s.hA d.s.held.length d.s.hc, .slice d.s.lA d.s.last.length d.s.lc, .slice d.gA d.log.length d.gc] 32, row recK 65 v15 rs S1, nodesI (rs.map Rc.x) S2])) (fun _ _ v97 _ => n3 - (intOf v97).toNat)
    case atStart => exact ⟨0, pre, _, _, Nat.zero_le _, rfl, by simp, ⟨by simp [addsM]⟩, HS⟩
    case round =>
      clear HS
      obtain ⟨k, rs, S1, S2, hk, rfl, rfl, HRS, HS⟩ := hrel
      have hrl : rs.length = pre.length + k := by
        have := congrArg List.length HRS.out
        rw [List.length_map, List.length_map, List.length_append, addsM_len, List.length_take] at this
        omega
      by_cases hlt : k < n3
      · obtain ⟨x, hx⟩ : ∃ x, S0.l.getD k default = x := ⟨_, rfl⟩
        obtain ⟨ad3, rfl⟩ := HSO.out.rd.addr (by omega)
        have hxm : x ∈ l := HSO.out.sub x (getD_in (by omega) hx)
        have HXO := Aside0.mk (HEN.out x hxm)
        have HXZ := Aside0.mk (HES.out x hxm)
        have HX := Aside0.mk hx
        have HAD := Aside0.mk (addsM_take S0.l S0.i (show k < S0.l.length by omega) hx)
        have HRR := Aside0.mk (HSO.out.rd.sh HS.out)
        have hw1 : IntKind.u64.wrap (S0.i + (k : Int) + 1) = S0.i + (k : Int) + 1 := IntWalk.u64_in _ (by omega)
        have HRL9 := Aside0.mk hrl
        have hlim : (rs.length + 1) * 232 ≤ 140737488355328 := by omega
        have HLIM := Aside0.mk hlim
        obtain ⟨B0, cb0, hv15, _, _⟩ := row_rd HS.out 1 rfl
        subst hv15
        clear hx hxm hrl hlim
        go_wp2_with (first | ((with_reducible refine gLd rfl ?_); refine rd_load HRR.out rfl rfl (i := k) rfl hlt default Ent.len ((agT _ (by decide)).trans rfl) (szT _ (by decide)) ?_; intro x hx; obtain rfl := HX.out.symm.trans hx; (try simp only [Ent.enc, Led.Held.enc, Led.Last.enc, Rc.enc, aP, aN, aT, aZ, aS])) | (go_at_call 45; (with_reducible refine (own_any x _ (HXO.out.sh HS.out) HXZ.out).mono ?_); rintro e w2 ⟨A9, c9, T9, rfl, HS1⟩;  have HS2 := HS.out.call HS1; clear HS HS1; simp only [aC, aE] at HS2; have HS := Aside0.mk HS2; clear HS2) | ((with_reducible refine gC (b := .append) rfl ?_); refine sh_append HS.out rfl rfl rfl 1 rfl rfl (Rd.one Rc.len (addR (S0.i + k + 1) (x.at A9 c9)) (HS.out.blk 5 rfl)) Try.underlying57 infoRec rfl (by decide) (by decide) HLIM.out ?_; clear HS; intro v1 w1 S1 HS1; (simp only [aZ, aS] at HS1); have HS := Aside0.mk HS1; clear HS1; try simp only [aP, aN, aT, aZ, aS]) | ((first | ((first | ((with_reducible refine gA rfl ?_); refine sh_alloc HS.out rfl rfl (zeT _ (by decide)) ?_) | ((with_reducible refine gB rfl ?_); refine bx HS.out rfl rfl ?_; first | refine bv (v := .agg (List.toArray _)) rfl ?_ | refine bv (v := .int _ _) rfl ?_ | refine bv (v := .slice _ _ _) rfl ?_ | refine bv (v := .bool _) rfl ?_ | refine bv (v := .pointer _) rfl ?_) | ((with_reducible refine gL rfl ?_); refine sh_lit HS.out rfl rfl (by go_simp; exact ⟨⟨rfl, rfl⟩, rfl⟩) ?_)); clear HS; intro g w1 hg HS1; (simp only [Ent.enc, Led.Held.enc, Led.Last.enc, Rc.enc, zeF, segOf, aL, aC, aE] at HS1); have HS := Aside0.mk HS1; clear HS1) | ((with_reducible refine gLd rfl ?_); refine ld2 HS.out rfl rfl rfl (by repeat (first | exact AtI.here | apply AtI.there)) ?_; (first | refine LdK.one ((agT _ (by decide)).trans rfl) rfl ?_ | (refine LdK.agg ((agT _ (by decide)).trans rfl) (szT _ (by decide)) (lb rfl) ?_; try simp only [szL, aP, aN, aT, aZ, aS, aD, aF, aJ, aK, aM, aO]))) | ((with_reducible refine gSt rfl ?_); refine st2 HS.out rfl rfl rfl rfl (by repeat (first | exact AtI.here | apply AtI.there)) ?_; (first | refine sv (u := .agg (List.toArray _)) rfl ?_ | refine sv (u := .int _ _) rfl ?_ | refine sv (u := .slice _ _ _) rfl ?_ | refine sv (u := .bool _) rfl ?_ | refine sv (u := .pointer _) rfl ?_); refine sw (szT _ (by decide)) rfl (lb rfl) ?_; clear HS; intro w1 HS1; (simp only [Ent.enc, Led.Held.enc, Led.Last.enc, Rc.enc, segOf, aL, aZ, aS, putSeg] at HS1); have HS := Aside0.mk HS1; clear HS1)); try simp only [aP, aN, aT, aZ, aS]))
        have HS9 := (HS.out.say 4 (i' := nodesI [x.at A9 c9] T9) rfl nodesRW_I (fun b hb => hb)).merge 2 4 (by decide) (i' := nodesI ((rs ++ [addR (S0.i + k + 1) (x.at A9 c9)]).map Rc.x) (fun b => S2 b ∨ T9 b)) rfl rfl (fun k1 k2 e he => by
          rw [List.map_append] at he
          rcases List.mem_append.1 he with h1 | h1
          · exact ⟨(k1 e h1).1, (k1 e h1).2.mono (fun b hb => .inl hb)⟩
          · exact ⟨(k2 e h1).1, (k2 e h1).2.mono (fun b hb => .inr hb)⟩) (fun b hb => hb)
        go_roundw
        case rel =>
          refine ⟨k + 1, rs ++ [addR (S0.i + k + 1) (x.at A9 c9)], _, _, by omega, by go_num, by first | rfl | (show Value.int .u64 _ = Value.int .u64 _; congr 1; omega), ⟨?_⟩, ⟨HS9.pick [0, 1, 2] rfl (by decide)⟩⟩
          rw [List.map_append, HRS.out, HAD.out]
          simp only [List.map_append, List.append_assoc]
          rfl
        case measure => simp [intOf]; omega
      · obtain rfl : k = n3 := by omega
        obtain ⟨B0, cb0, hv15, _, _⟩ := row_rd HS.out 1 rfl
        subst hv15
        have hfull : rs.map Rc.data = (recsM S0).map Rc.data := by
          rw [HRS.out, ← HPRE.out, List.take_of_length_le (by omega)]
          rfl
        have HFULL := Aside0.mk hfull
        have hlenR : rs.length = (recsM S0).length := by
          have := congrArg List.length hfull
          rwa [List.length_map, List.length_map] at this
        have HLR := Aside0.mk hlenR
        have HCH := Aside0.mk (chain_recs d S0 hSlo HSO.out.cut HSO.out.add)
        have hrl9 : d.log.length + rs.length ≤ 900001 := by
          have h1 := HN9.out
          have h2 := HSO.out.len
          omega
        have HBAD := Aside0.mk HSO.out.bad
        clear hfull hlenR hrl
        have HSA := HS.out.push (Below.refl _ _) (i := noI) trivial (fun b hb => hb.elim)
        clear HS
        have HS := Aside0.mk (show SH w _ [blk gh [.int .u64 d.boot, .int .u64 d.term, .int .i64 d.vote, .int .u64 d.s.si, .int .u64 d.s.st, .slice d.s.nA d.s.nodes.length d.s.nc, .int .i64 d.s.lim, .int .u64 d.s.nxt, .slice d.s.hA d.s.held.length d.s.hc, .slice d.s.lA d.s.last.length d.s.lc, .slice d.gA d.log.length d.gc] 32, row recK 65 _ rs S1, nodesI (rs.map Rc.x) S2, noI] from HSA)
        clear HSA
        go_wp2_with (first | ((first | ((first | ((with_reducible refine gA rfl ?_); refine sh_alloc HS.out rfl rfl (zeT _ (by decide)) ?_) | ((with_reducible refine gB rfl ?_); refine bx HS.out rfl rfl ?_; first | refine bv (v := .agg (List.toArray _)) rfl ?_ | refine bv (v := .int _ _) rfl ?_ | refine bv (v := .slice _ _ _) rfl ?_ | refine bv (v := .bool _) rfl ?_ | refine bv (v := .pointer _) rfl ?_) | ((with_reducible refine gL rfl ?_); refine sh_lit HS.out rfl rfl (by go_simp; exact ⟨⟨rfl, rfl⟩, rfl⟩) ?_)); clear HS; intro g w1 hg HS1; (simp only [Ent.enc, Led.Held.enc, Led.Last.enc, Rc.enc, zeF, segOf, aL, aC, aE] at HS1); have HS := Aside0.mk HS1; clear HS1) | ((with_reducible refine gLd rfl ?_); refine ld2 HS.out rfl rfl rfl (by repeat (first | exact AtI.here | apply AtI.there)) ?_; (first | refine LdK.one ((agT _ (by decide)).trans rfl) rfl ?_ | (refine LdK.agg ((agT _ (by decide)).trans rfl) (szT _ (by decide)) (lb rfl) ?_; try simp only [szL, aP, aN, aT, aZ, aS, aD, aF, aJ, aK, aM, aO]))) | ((with_reducible refine gSt rfl ?_); refine st2 HS.out rfl rfl rfl rfl (by repeat (first | exact AtI.here | apply AtI.there)) ?_; (first | refine sv (u := .agg (List.toArray _)) rfl ?_ | refine sv (u := .int _ _) rfl ?_ | refine sv (u := .slice _ _ _) rfl ?_ | refine sv (u := .bool _) rfl ?_ | refine sv (u := .pointer _) rfl ?_); refine sw (szT _ (by decide)) rfl (lb rfl) ?_; clear HS; intro w1 HS1; (simp only [Ent.enc, Led.Held.enc, Led.Last.enc, Rc.enc, segOf, aL, aZ, aS, putSeg] at HS1); have HS := Aside0.mk HS1; clear HS1)); try simp only [aP, aN, aT, aZ, aS]))
        go_loopw [113] (fun v113 wr => ∃ (j : Nat) (dx dy : Hrd) (I : HP), j ≤ rs.length ∧ v113 = .int .i64 j ∧ Aside0 (TryOk d dx dy l (recsM S0) j w I) ∧ Aside0 (SH w wr [blk gh [.int .u64 dx.boot, .int .u64 dx.term, .int .i64 dx.vote, .int .u64 dx.s.si, .int .u64 dx.s.st, .slice dx.s.nA dx.s.nodes.length dx.s.nc, .int .i64 dx.s.lim, .int .u64 dx.s.nxt, .slice dx.s.hA dx.s.held.length dx.s.hc, .slice dx.s.lA dx.s.last.length dx.s.lc, .slice dx.gA dx.log.length dx.gc] 32, row recK 65 (.slice B0 rs.length cb0) rs S1, nodesI (rs.map Rc.x) S2, I])) (fun v113 _ => rs.length - (intOf v113).toNat)
        case atStart => exact ⟨0, d, d, noI, Nat.zero_le _, rfl, ⟨⟨same_refl d, ⟨rfl, HG.out, fun e he => .inl he⟩, by rw [List.drop_zero]; exact HCH.out, rfl, by omega, fun wz isz hs _ => HK.out.sh hs⟩⟩, HS⟩
        case round =>
          clear HS
          obtain ⟨j, dx, dy, I, hj, rfl, HTY, HS⟩ := hrel
          by_cases hlt : j < rs.length
          · obtain ⟨r, hr⟩ : ∃ r, rs.getD j default = r := ⟨_, rfl⟩
            have HRD := Aside0.mk (row_rds (hl := Rc.len) (h1 := Rc.one) 1 rfl _ HS.out)
            obtain ⟨adr, had⟩ := HRD.out.addr (by omega)
            subst had
            have hjR : j < (recsM S0).length := by rw [← HLR.out]; exact hlt
            obtain ⟨q, hq⟩ : ∃ q, (recsM S0).getD j default = q := ⟨_, rfl⟩
            have hrm : r.x ∈ rs.map Rc.x := List.mem_map.2 ⟨r, getD_in hlt hr, rfl⟩
            have hqm : q ∈ recsM S0 := getD_in hjR hq
            have hrq : r.data = q.data := by
              have h1 := congrArg (fun l => l[j]?) HFULL.out
              simp only [List.getElem?_map] at h1
              rw [List.getD_eq_getElem?_getD, List.getElem?_eq_getElem hlt, Option.getD_some] at hr
              rw [List.getD_eq_getElem?_getD, List.getElem?_eq_getElem hjR, Option.getD_some] at hq
              rw [List.getElem?_eq_getElem hlt, List.getElem?_eq_getElem hjR, hr, hq] at h1
              simpa using h1
            have hdrop : (recsM S0).drop j = q :: (recsM S0).drop (j + 1) := drop_consP hjR hq
            have hch := HTY.out.chain
            rw [hdrop] at hch
            have hall := HTY.out.all
            rw [hdrop, doAll] at hall
            have HALL := Aside0.mk hall
            have hch := HTY.out.chain
            rw [hdrop] at hch
            have HCHN := Aside0.mk hch.2
            have HDX := Aside0.mk (fun wz isz hs h3 => HTY.out.mem wz isz hs h3)
            have HKX := Aside0.mk (HDX.out _ _ HS.out rfl)
            have hlx := HTY.out.len
            have hdl : dx.log.length ≤ 999999 := by rw [same_len HTY.out.same]; omega
            have hcase := try_case HTY.out HKX.out (TryOk.szd HTY.out HZ.out HES.out (by omega)) hdl HES.out (fun ix x h => HSO.out.sub _ (recsM_mem h)) hdrop hqm hrq
            have HRX := Aside0.mk hr
            have HRM := Aside0.mk hrm
            clear hr hrm hq hqm hrq hdrop hch hall hlx hdl
            rcases hcase with ⟨dyn, L, hst, hD⟩ | ⟨hno, hD⟩
            · have HST := Aside0.mk hst
              have HD := Aside0.mk hD
              clear hst hD
              go_wp2_with (first | ((with_reducible refine gLd rfl ?_); refine rd_load HRD.out rfl rfl (i := j) rfl hlt default Rc.len ((agT _ (by decide)).trans rfl) (szT _ (by decide)) ?_; intro x hx; obtain rfl := HRX.out.symm.trans hx; (try simp only [Ent.enc, Led.Held.enc, Led.Last.enc, Rc.enc, aP, aN, aT, aZ, aS])) | (go_at_call 33; have HW8 := HDX.out _ _ HS.out rfl; have HW9 := (HS.out.at 2 rfl r.x HRM.out).1; (go_at_call 33; (with_reducible refine (HD.out _ HW8 HW9).mono ?_); rintro e w2 ⟨d2, T1, T2, T3, T4, T5, rfl, hb2, ht2, hv2, hs2, hl2', hc2, hg2, HS1⟩; have HD2 := Aside0.mk (And.intro hb2 (And.intro ht2 (And.intro hv2 (And.intro hs2 (And.intro hl2' (And.intro hc2 hg2)))))); clear hb2 ht2 hv2 hs2 hl2' hc2 hg2; unfold hrdI at HS1; clear HW8 HW9; have HS2 := HS.out.call HS1; clear HS HS1; simp only [aC, aE] at HS2; have HS := Aside0.mk HS2; clear HS2)) | ((first | ((first | ((with_reducible refine gA rfl ?_); refine sh_alloc HS.out rfl rfl (zeT _ (by decide)) ?_) | ((with_reducible refine gB rfl ?_); refine bx HS.out rfl rfl ?_; first | refine bv (v := .agg (List.toArray _)) rfl ?_ | refine bv (v := .int _ _) rfl ?_ | refine bv (v := .slice _ _ _) rfl ?_ | refine bv (v := .bool _) rfl ?_ | refine bv (v := .pointer _) rfl ?_) | ((with_reducible refine gL rfl ?_); refine sh_lit HS.out rfl rfl (by go_simp; exact ⟨⟨rfl, rfl⟩, rfl⟩) ?_)); clear HS; intro g w1 hg HS1; (simp only [Ent.enc, Led.Held.enc, Led.Last.enc, Rc.enc, zeF, segOf, aL, aC, aE] at HS1); have HS := Aside0.mk HS1; clear HS1) | ((with_reducible refine gLd rfl ?_); refine ld2 HS.out rfl rfl rfl (by repeat (first | exact AtI.here | apply AtI.there)) ?_; (first | refine LdK.one ((agT _ (by decide)).trans rfl) rfl ?_ | (refine LdK.agg ((agT _ (by decide)).trans rfl) (szT _ (by decide)) (lb rfl) ?_; try simp only [szL, aP, aN, aT, aZ, aS, aD, aF, aJ, aK, aM, aO]))) | ((with_reducible refine gSt rfl ?_); refine st2 HS.out rfl rfl rfl rfl (by repeat (first | exact AtI.here | apply AtI.there)) ?_; (first | refine sv (u := .agg (List.toArray _)) rfl ?_ | refine sv (u := .int _ _) rfl ?_ | refine sv (u := .slice _ _ _) rfl ?_ | refine sv (u := .bool _) rfl ?_ | refine sv (u := .pointer _) rfl ?_); refine sw (szT _ (by decide)) rfl (lb rfl) ?_; clear HS; intro w1 HS1; (simp only [Ent.enc, Led.Held.enc, Led.Last.enc, Rc.enc, segOf, aL, aZ, aS, putSeg] at HS1); have HS := Aside0.mk HS1; clear HS1)); try simp only [aP, aN, aT, aZ, aS]))
              go_roundw
              case rel =>
                obtain ⟨hb2, ht2, hv2, hs2, hl2', hc2, hg2⟩ := HD2.out
                have hsm := HTY.out.same
                refine ⟨j + 1, d2, dyn, allI (hrdI d2 T1 T2 T3 T4 T5), by omega, by go_num, ⟨⟨⟨by rw [hb2, hsm.boot, HST.out.boot], by rw [ht2, hsm.term, HST.out.term], by rw [hv2, hsm.vote, HST.out.vote], ?_, by rw [hl2', HST.out.log]⟩, HST.out.dyok, HCHN.out _ HST.out.doR, by rw [HALL.out, HST.out.doR]; rfl, by have h1 := HST.out.len; have h2 := HTY.out.len; omega, fun wz isz hs h3 => okI (hs.at 3 h3) HKX.out hb2 ht2 hs2 hc2⟩⟩, ⟨SH.pack (is := [_, _, _]) [_, _, _, _, _] (HS.out.pick [0, 1, 2, 5, 6, 7, 8, 9] rfl (by decide))⟩⟩
                rw [HST.out.s]
                exact ⟨hs2.si.trans hsm.s.si, hs2.st.trans hsm.s.st, hs2.nodes.trans hsm.s.nodes, hs2.lim.trans hsm.s.lim, hs2.nxt.trans hsm.s.nxt, hs2.held.trans hsm.s.held, hs2.last.trans hsm.s.last⟩
              case measure => simp [intOf]; omega
            · have HMF := Aside0.mk (show mergeG d ix t commit l = (3, []) by
                rw [HMG.out, HBAD.out, if_neg (by decide), HALL.out, hno]
                rfl)
              have HD := Aside0.mk hD
              clear hno hD
              go_wp2_with (first | ((with_reducible refine gLd rfl ?_); refine rd_load HRD.out rfl rfl (i := j) rfl hlt default Rc.len ((agT _ (by decide)).trans rfl) (szT _ (by decide)) ?_; intro x hx; obtain rfl := HRX.out.symm.trans hx; (try simp only [Ent.enc, Led.Held.enc, Led.Last.enc, Rc.enc, aP, aN, aT, aZ, aS])) | (go_at_call 33; have HW8 := HDX.out _ _ HS.out rfl; have HW9 := (HS.out.at 2 rfl r.x HRM.out).1; (go_at_call 33; (with_reducible refine (HD.out _ HW8 HW9).mono ?_); rintro e w2 ⟨rfl, hb⟩;  have HS1 := HS.out.quiet hb; clear HS hb; have HS := Aside0.mk HS1; clear HS1); clear HW8 HW9) | ((first | ((first | ((with_reducible refine gA rfl ?_); refine sh_alloc HS.out rfl rfl (zeT _ (by decide)) ?_) | ((with_reducible refine gB rfl ?_); refine bx HS.out rfl rfl ?_; first | refine bv (v := .agg (List.toArray _)) rfl ?_ | refine bv (v := .int _ _) rfl ?_ | refine bv (v := .slice _ _ _) rfl ?_ | refine bv (v := .bool _) rfl ?_ | refine bv (v := .pointer _) rfl ?_) | ((with_reducible refine gL rfl ?_); refine sh_lit HS.out rfl rfl (by go_simp; exact ⟨⟨rfl, rfl⟩, rfl⟩) ?_)); clear HS; intro g w1 hg HS1; (simp only [Ent.enc, Led.Held.enc, Led.Last.enc, Rc.enc, zeF, segOf, aL, aC, aE] at HS1); have HS := Aside0.mk HS1; clear HS1) | ((with_reducible refine gLd rfl ?_); refine ld2 HS.out rfl rfl rfl (by repeat (first | exact AtI.here | apply AtI.there)) ?_; (first | refine LdK.one ((agT _ (by decide)).trans rfl) rfl ?_ | (refine LdK.agg ((agT _ (by decide)).trans rfl) (szT _ (by decide)) (lb rfl) ?_; try simp only [szL, aP, aN, aT, aZ, aS, aD, aF, aJ, aK, aM, aO]))) | ((with_reducible refine gSt rfl ?_); refine st2 HS.out rfl rfl rfl rfl (by repeat (first | exact AtI.here | apply AtI.there)) ?_; (first | refine sv (u := .agg (List.toArray _)) rfl ?_ | refine sv (u := .int _ _) rfl ?_ | refine sv (u := .slice _ _ _) rfl ?_ | refine sv (u := .bool _) rfl ?_ | refine sv (u := .pointer _) rfl ?_); refine sw (szT _ (by decide)) rfl (lb rfl) ?_; clear HS; intro w1 HS1; (simp only [Ent.enc, Led.Held.enc, Led.Last.enc, Rc.enc, segOf, aL, aZ, aS, putSeg] at HS1); have HS := Aside0.mk HS1; clear HS1)); try simp only [aP, aN, aT, aZ, aS]))
              go_ret2
              rw [HMF.out]
              exact merge_nil HS.out 3
          · obtain rfl : j = rs.length := by omega
            have hall := HTY.out.all
            rw [List.drop_of_length_le (by rw [HLR.out]; exact Nat.le_refl _)] at hall
            have HMF := Aside0.mk (show mergeG d ix t commit l = (1, recsM S0) by
              rw [HMG.out, HBAD.out, if_neg (by decide), hall]
              rfl)
            clear hall
            go_wp2_with (first | ((first | ((first | ((with_reducible refine gA rfl ?_); refine sh_alloc HS.out rfl rfl (zeT _ (by decide)) ?_) | ((with_reducible refine gB rfl ?_); refine bx HS.out rfl rfl ?_; first | refine bv (v := .agg (List.toArray _)) rfl ?_ | refine bv (v := .int _ _) rfl ?_ | refine bv (v := .slice _ _ _) rfl ?_ | refine bv (v := .bool _) rfl ?_ | refine bv (v := .pointer _) rfl ?_) | ((with_reducible refine gL rfl ?_); refine sh_lit HS.out rfl rfl (by go_simp; exact ⟨⟨rfl, rfl⟩, rfl⟩) ?_)); clear HS; intro g w1 hg HS1; (simp only [Ent.enc, Led.Held.enc, Led.Last.enc, Rc.enc, zeF, segOf, aL, aC, aE] at HS1); have HS := Aside0.mk HS1; clear HS1) | ((with_reducible refine gLd rfl ?_); refine ld2 HS.out rfl rfl rfl (by repeat (first | exact AtI.here | apply AtI.there)) ?_; (first | refine LdK.one ((agT _ (by decide)).trans rfl) rfl ?_ | (refine LdK.agg ((agT _ (by decide)).trans rfl) (szT _ (by decide)) (lb rfl) ?_; try simp only [szL, aP, aN, aT, aZ, aS, aD, aF, aJ, aK, aM, aO]))) | ((with_reducible refine gSt rfl ?_); refine st2 HS.out rfl rfl rfl rfl (by repeat (first | exact AtI.here | apply AtI.there)) ?_; (first | refine sv (u := .agg (List.toArray _)) rfl ?_ | refine sv (u := .int _ _) rfl ?_ | refine sv (u := .slice _ _ _) rfl ?_ | refine sv (u := .bool _) rfl ?_ | refine sv (u := .pointer _) rfl ?_); refine sw (szT _ (by decide)) rfl (lb rfl) ?_; clear HS; intro w1 HS1; (simp only [Ent.enc, Led.Held.enc, Led.Last.enc, Rc.enc, segOf, aL, aZ, aS, putSeg] at HS1); have HS := Aside0.mk HS1; clear HS1)); try simp only [aP, aN, aT, aZ, aS]))
            go_ret2
            rw [HMF.out]
            exact merge_mk ⟨B0, cb0, rs, S1, S2, rfl, HFULL.out, HS.out.pick [1, 2] rfl (by decide)⟩
end Go.Proofs.Ytekjihmepdhmeaa.Rlo

