import Derived.Test.YtekjihmepdhmeaaRlqBj
import Derived.Deep.DeepCutAuto
/- Lemmas towards the law: what of the text RlqC it needs. -/
namespace Go.Proofs.Ytekjihmepdhmeaa.Rlo
open Go.RowKit Go.Proofs.YtekjihmepdhmeaaW.PrintWords Go.Proofs.Ytekjihmepdhmeaa.Sl
set_option linter.unusedVariables false
set_option linter.unusedSimpArgs false
theorem skip_chain {d : Hrd} {w : World} {ix t commit : Int} {l l2 : List Ent} {i2 : Int} {S : Skp} (hk : d.ok w) (hg : hardOk d = true) (hh : headM d ix t l = some (some (l2, i2))) (hs : skipM d commit l2 i2 = S) (hb : S.bad = false) : Chain d (recsM S) := by
  have hLd := (hardOk_last hk hg).1
  obtain ⟨h1, h2, h3⟩ := skip_facts hk hg hh hs hb
  obtain ⟨pre, e1, e2, e3, e4, e5⟩ := skipM_spec l2 i2 hs hb
  refine chain_recs d _ h2 (fun hc => ?_) (fun hc => ?_)
  · have := (e4 hc).2
    rw [termOf_eq hLd] at this
    split at this
    · omega
    · split at this
      · cases this
      · omega
  · rcases e5 hc with h | h
    · exact .inl h
    · rw [termOf_eq hLd] at h
      split at h
      · cases h
      · split at h
        · exact .inr (by omega)
        · cases h
/-- the document's one loop: nothing told yet; or q entries told -/
def RelM (d : Hrd) (commit : Int) (S0 : Skp) (l2 : List Ent) (i2 : Int) (k : Nat) (rs : List Rc) : Prop :=
  (rs = [] ∧ skipM d commit (l2.drop k) (i2 + k) = S0) ∨ (rs ≠ [] ∧ S0.bad = false ∧ ∃ p q : Nat, k = p + q ∧ S0.l = l2.drop p ∧ S0.i = i2 + p ∧ rs.map Rc.data = ((if S0.cut then [cutR (S0.i + 1)] else []) ++ addsM (S0.l.take q) S0.i).map Rc.data)
theorem RelM.len {d : Hrd} {commit : Int} {S0 : Skp} {l2 : List Ent} {i2 : Int} {k : Nat} {rs : List Rc} (h : RelM d commit S0 l2 i2 k rs) : rs.length ≤ k + 1 := by
  rcases h with ⟨rfl, _⟩ | ⟨_, _, p, q, rfl, _, _, h⟩
  · simp
  · have := congrArg List.length h
    rw [List.length_map, List.length_map, List.length_append, addsM_len, List.length_take] at this
    have h2 : (if S0.cut = true then [cutR (S0.i + 1)] else []).length ≤ 1 := by split <;> simp
    omega
theorem RelM.full {d : Hrd} {commit : Int} {S0 : Skp} {l2 : List Ent} {i2 : Int} {rs : List Rc} (h : RelM d commit S0 l2 i2 l2.length rs) : rs.map Rc.data = (recsM S0).map Rc.data ∧ S0.bad = false := by
  rcases h with ⟨rfl, h⟩ | ⟨_, hb, p, q, hpq, h1, h2, h⟩
  · rw [List.drop_of_length_le (Nat.le_refl _)] at h
    subst h
    exact ⟨rfl, rfl⟩
  · refine ⟨?_, hb⟩
    rw [h, List.take_of_length_le (by rw [h1, List.length_drop]; omega)]
    rfl
set_option maxHeartbeats 12800000 in
set_option maxRecDepth 100000 in
theorem refMerge_any (d : Hrd) (ix t commit : Int) (A : Option Addr) (N c : Nat) (l : List Ent) (w : World) (hk : d.ok w) (hz : d.szd) (hix : ln ix) (ht : ln t) (hcm : ln commit) (hr : Rd Ent.enc 9 w A N l) (he : ∀ e ∈ l, e.ok w) (hes : ∀ e ∈ l, e.nodes.length * 8 ≤ 140737488351232) (hN : N + d.log.length ≤ 900000) (hNc : N ≤ c) :
    Calls Try.prog 30 #[.agg #[.int .u64 d.boot, .int .u64 d.term, .int .i64 d.vote, .int .u64 d.s.si, .int .u64 d.s.st, .slice d.s.nA d.s.nodes.length d.s.nc, .int .i64 d.s.lim, .int .u64 d.s.nxt, .slice d.s.hA d.s.held.length d.s.hc, .slice d.s.lA d.s.last.length d.s.lc, .slice d.gA d.log.length d.gc], .int .u64 ix, .int .u64 t, .int .u64 commit, .slice A N c] w (MergePost w (mergeG d ix t commit l)) := by
  obtain rfl := hr.len.1
  have HK := Aside0.mk hk
  have HZ := Aside0.mk hz
  have HR := Aside0.mk hr
  have HEN := Aside0.mk he
  have HES := Aside0.mk hes
  have HN9 := Aside0.mk hN
  have hl9 : l.length ≤ 900000 := by omega
  have hd9 : d.log.length ≤ 900000 := by omega
  clear hN
  have HS := Aside0.mk (SH.start w)
  cases hg : hardOk d with
  | false =>
    have HE := Aside0.mk (show mergeG d ix t commit l = (3, []) by unfold mergeG; rw [hg]; rfl)
    have HG := Aside0.mk hg
    clear hk hz hr he hes hg
    go_enter Try.func30, Try.ntmps30
    go_upto_region 1 with (first | ((fail_if_success (have _ := bh)); ((with_reducible refine gB rfl ?_); refine bx HS.out rfl rfl ?_; (first | refine bv (v := .agg (List.toArray _)) rfl ?_ | refine bv (v := .int _ _) rfl ?_ | refine bv (v := .slice _ _ _) rfl ?_ | refine bv (v := .bool _) rfl ?_ | refine bv (v := .pointer _) rfl ?_); clear HS; intro bh w1 hbh HS1; (simp only [Ent.enc, Led.Held.enc, Led.Last.enc, Rc.enc, segOf, aL, aC, aE] at HS1); have HS := Aside0.mk HS1; clear HS1; try simp only [aP, aN, aT, aZ, aS])) | ((first | ((first | ((with_reducible refine gA rfl ?_); refine sh_alloc HS.out rfl rfl (zeT _ (by decide)) ?_) | ((with_reducible refine gB rfl ?_); refine bx HS.out rfl rfl ?_; first | refine bv (v := .agg (List.toArray _)) rfl ?_ | refine bv (v := .int _ _) rfl ?_ | refine bv (v := .slice _ _ _) rfl ?_ | refine bv (v := .bool _) rfl ?_ | refine bv (v := .pointer _) rfl ?_) | ((with_reducible refine gL rfl ?_); refine sh_lit HS.out rfl rfl (by go_simp; exact ⟨⟨rfl, rfl⟩, rfl⟩) ?_)); clear HS; intro g w1 hg HS1; (simp only [Ent.enc, Led.Held.enc, Led.Last.enc, Rc.enc, zeF, segOf, aL, aC, aE] at HS1); have HS := Aside0.mk HS1; clear HS1) | ((with_reducible refine gLd rfl ?_); refine ld2 HS.out rfl rfl rfl (by repeat (first | exact AtI.here | apply AtI.there)) ?_; (first | refine LdK.one ((agT _ (by decide)).trans rfl) rfl ?_ | (refine LdK.agg ((agT _ (by decide)).trans rfl) (szT _ (by decide)) (lb rfl) ?_; try simp only [szL, aP, aN, aT, aZ, aS, aD, aF, aJ, aK, aM, aO]))) | ((with_reducible refine gSt rfl ?_); refine st2 HS.out rfl rfl rfl rfl (by repeat (first | exact AtI.here | apply AtI.there)) ?_; (first | refine sv (u := .agg (List.toArray _)) rfl ?_ | refine sv (u := .int _ _) rfl ?_ | refine sv (u := .slice _ _ _) rfl ?_ | refine sv (u := .bool _) rfl ?_ | refine sv (u := .pointer _) rfl ?_); refine sw (szT _ (by decide)) rfl (lb rfl) ?_; clear HS; intro w1 HS1; (simp only [Ent.enc, Led.Held.enc, Led.Last.enc, Rc.enc, segOf, aL, aZ, aS, putSeg] at HS1); have HS := Aside0.mk HS1; clear HS1)); try simp only [aP, aN, aT, aZ, aS]))
    go_wp2_with (first | (go_at_call 39; (with_reducible refine (refGood_any d _ (HK.out.sh HS.out)).mono ?_); rintro e w2 ⟨rfl, hb⟩; rw [HG.out]; have HS1 := HS.out.quiet hb; clear HS hb; have HS := Aside0.mk HS1; clear HS1) | ((first | ((first | ((with_reducible refine gA rfl ?_); refine sh_alloc HS.out rfl rfl (zeT _ (by decide)) ?_) | ((with_reducible refine gB rfl ?_); refine bx HS.out rfl rfl ?_; first | refine bv (v := .agg (List.toArray _)) rfl ?_ | refine bv (v := .int _ _) rfl ?_ | refine bv (v := .slice _ _ _) rfl ?_ | refine bv (v := .bool _) rfl ?_ | refine bv (v := .pointer _) rfl ?_) | ((with_reducible refine gL rfl ?_); refine sh_lit HS.out rfl rfl (by go_simp; exact ⟨⟨rfl, rfl⟩, rfl⟩) ?_)); clear HS; intro g w1 hg HS1; (simp only [Ent.enc, Led.Held.enc, Led.Last.enc, Rc.enc, zeF, segOf, aL, aC, aE] at HS1); have HS := Aside0.mk HS1; clear HS1) | ((with_reducible refine gLd rfl ?_); refine ld2 HS.out rfl rfl rfl (by repeat (first | exact AtI.here | apply AtI.there)) ?_; (first | refine LdK.one ((agT _ (by decide)).trans rfl) rfl ?_ | (refine LdK.agg ((agT _ (by decide)).trans rfl) (szT _ (by decide)) (lb rfl) ?_; try simp only [szL, aP, aN, aT, aZ, aS, aD, aF, aJ, aK, aM, aO]))) | ((with_reducible refine gSt rfl ?_); refine st2 HS.out rfl rfl rfl rfl (by repeat (first | exact AtI.here | apply AtI.there)) ?_; (first | refine sv (u := .agg (List.toArray _)) rfl ?_ | refine sv (u := .int _ _) rfl ?_ | refine sv (u := .slice _ _ _) rfl ?_ | refine sv (u := .bool _) rfl ?_ | refine sv (u := .pointer _) rfl ?_); refine sw (szT _ (by decide)) rfl (lb rfl) ?_; clear HS; intro w1 HS1; (simp only [Ent.enc, Led.Held.enc, Led.Last.enc, Rc.enc, segOf, aL, aZ, aS, putSeg] at HS1); have HS := Aside0.mk HS1; clear HS1)); try simp only [aP, aN, aT, aZ, aS]))
    go_ret2
    rw [HE.out]
    exact merge_nil HS.out 3
  | true =>
    obtain ⟨hl1, hl2⟩ := hardOk_last hk hg
    have hl3 : d.s.si + d.log.length ≤ 4611686018427387904 := by
      have hh := hg
      unfold hardOk headOk at hh
      simp only [Bool.and_eq_true, decide_eq_true_eq] at hh
      have := hh.1.1.1.1.2
      rwa [hl1] at this
    have h0 := hk.s.si.1
    have hix0 := hix.1
    have hix1 := hix.2
    have HG := Aside0.mk hg
    have HLO := Aside0.mk hl1
    obtain ⟨t1, t2, htm⟩ : ∃ t1 t2, termOf d ix = (t1, t2) := ⟨_, _, rfl⟩
    have HTO := Aside0.mk htm
    have HTM := Aside0.mk (fun w1 (h : d.ok w1) => by
      have := termAt_any d ix w1 h hg hix
      rw [htm] at this
      exact this)
    have HLA := Aside0.mk (fun w1 (h : d.ok w1) => by
      have := refLast' d w1 h
      rw [hl1] at this
      exact this)
    clear hk hz hr he hes hg htm hl1
    go_enter Try.func30, Try.ntmps30
    go_upto_region 1 with (first | ((fail_if_success (have _ := bh)); ((with_reducible refine gB rfl ?_); refine bx HS.out rfl rfl ?_; (first | refine bv (v := .agg (List.toArray _)) rfl ?_ | refine bv (v := .int _ _) rfl ?_ | refine bv (v := .slice _ _ _) rfl ?_ | refine bv (v := .bool _) rfl ?_ | refine bv (v := .pointer _) rfl ?_); clear HS; intro bh w1 hbh HS1; (simp only [Ent.enc, Led.Held.enc, Led.Last.enc, Rc.enc, segOf, aL, aC, aE] at HS1); have HS := Aside0.mk HS1; clear HS1; try simp only [aP, aN, aT, aZ, aS])) | ((first | ((first | ((with_reducible refine gA rfl ?_); refine sh_alloc HS.out rfl rfl (zeT _ (by decide)) ?_) | ((with_reducible refine gB rfl ?_); refine bx HS.out rfl rfl ?_; first | refine bv (v := .agg (List.toArray _)) rfl ?_ | refine bv (v := .int _ _) rfl ?_ | refine bv (v := .slice _ _ _) rfl ?_ | refine bv (v := .bool _) rfl ?_ | refine bv (v := .pointer _) rfl ?_) | ((with_reducible refine gL rfl ?_); refine sh_lit HS.out rfl rfl (by go_simp; exact ⟨⟨rfl, rfl⟩, rfl⟩) ?_)); clear HS; intro g w1 hg HS1; (simp only [Ent.enc, Led.Held.enc, Led.Last.enc, Rc.enc, zeF, segOf, aL, aC, aE] at HS1); have HS := Aside0.mk HS1; clear HS1) | ((with_reducible refine gLd rfl ?_); refine ld2 HS.out rfl rfl rfl (by repeat (first | exact AtI.here | apply AtI.there)) ?_; (first | refine LdK.one ((agT _ (by decide)).trans rfl) rfl ?_ | (refine LdK.agg ((agT _ (by decide)).trans rfl) (szT _ (by decide)) (lb rfl) ?_; try simp only [szL, aP, aN, aT, aZ, aS, aD, aF, aJ, aK, aM, aO]))) | ((with_reducible refine gSt rfl ?_); refine st2 HS.out rfl rfl rfl rfl (by repeat (first | exact AtI.here | apply AtI.there)) ?_; (first | refine sv (u := .agg (List.toArray _)) rfl ?_ | refine sv (u := .int _ _) rfl ?_ | refine sv (u := .slice _ _ _) rfl ?_ | refine sv (u := .bool _) rfl ?_ | refine sv (u := .pointer _) rfl ?_); refine sw (szT _ (by decide)) rfl (lb rfl) ?_; clear HS; intro w1 HS1; (simp only [Ent.enc, Led.Held.enc, Led.Last.enc, Rc.enc, segOf, aL, aZ, aS, putSeg] at HS1); have HS := Aside0.mk HS1; clear HS1)); try simp only [aP, aN, aT, aZ, aS]))
    go_upto_if 34 with (first | (go_at_call 39; (with_reducible refine (refGood_any d _ (HK.out.sh HS.out)).mono ?_); rintro e w2 ⟨rfl, hb⟩; rw [HG.out]; have HS1 := HS.out.quiet hb; clear HS hb; have HS := Aside0.mk HS1; clear HS1) | ((first | ((first | ((with_reducible refine gA rfl ?_); refine sh_alloc HS.out rfl rfl (zeT _ (by decide)) ?_) | ((with_reducible refine gB rfl ?_); refine bx HS.out rfl rfl ?_; first | refine bv (v := .agg (List.toArray _)) rfl ?_ | refine bv (v := .int _ _) rfl ?_ | refine bv (v := .slice _ _ _) rfl ?_ | refine bv (v := .bool _) rfl ?_ | refine bv (v := .pointer _) rfl ?_) | ((with_reducible refine gL rfl ?_); refine sh_lit HS.out rfl rfl (by go_simp; exact ⟨⟨rfl, rfl⟩, rfl⟩) ?_)); clear HS; intro g w1 hg HS1; (simp only [Ent.enc, Led.Held.enc, Led.Last.enc, Rc.enc, zeF, segOf, aL, aC, aE] at HS1); have HS := Aside0.mk HS1; clear HS1) | ((with_reducible refine gLd rfl ?_); refine ld2 HS.out rfl rfl rfl (by repeat (first | exact AtI.here | apply AtI.there)) ?_; (first | refine LdK.one ((agT _ (by decide)).trans rfl) rfl ?_ | (refine LdK.agg ((agT _ (by decide)).trans rfl) (szT _ (by decide)) (lb rfl) ?_; try simp only [szL, aP, aN, aT, aZ, aS, aD, aF, aJ, aK, aM, aO]))) | ((with_reducible refine gSt rfl ?_); refine st2 HS.out rfl rfl rfl rfl (by repeat (first | exact AtI.here | apply AtI.there)) ?_; (first | refine sv (u := .agg (List.toArray _)) rfl ?_ | refine sv (u := .int _ _) rfl ?_ | refine sv (u := .slice _ _ _) rfl ?_ | refine sv (u := .bool _) rfl ?_ | refine sv (u := .pointer _) rfl ?_); refine sw (szT _ (by decide)) rfl (lb rfl) ?_; clear HS; intro w1 HS1; (simp only [Ent.enc, Led.Held.enc, Led.Last.enc, Rc.enc, segOf, aL, aZ, aS, putSeg] at HS1); have HS := Aside0.mk HS1; clear HS1)); try simp only [aP, aN, aT, aZ, aS]))
    go_cut [1, 4] (fun v1 v4 wx => (∃ (A2 : Option Addr) (n2 c2 : Nat) (l2 : List Ent) (i2 : Int), v1 = .int .u64 i2 ∧ v4 = .slice A2 n2 c2 ∧ Aside0 (HeadOk d w ix t l A2 n2 c2 l2 i2) ∧ Aside0 (SH w wx [blk bh [.int .u64 d.boot, .int .u64 d.term, .int .i64 d.vote, .int .u64 d.s.si, .int .u64 d.s.st, .slice d.s.nA d.s.nodes.length d.s.nc, .int .i64 d.s.lim, .int .u64 d.s.nxt, .slice d.s.hA d.s.held.length d.s.hc, .slice d.s.lA d.s.last.length d.s.lc, .slice d.gA d.log.length d.gc] 32])))
    case first =>
      by_cases h1 : ix < d.s.si
      · have f1 : decide (ix < d.s.si) = true := by rw [decide_eq_true_eq]; exact h1
        obtain ⟨p, hp⟩ : ∃ p : Nat, d.s.si - ix = p := ⟨(d.s.si - ix).toNat, by omega⟩
        have hw1 : IntKind.u64.wrap (p : Int) = (p : Int) := IntWalk.u64_in _ (by omega)
        have hw2 : IntKind.u64.wrap (l.length : Int) = (l.length : Int) := IntWalk.u64_in _ (by omega)
        by_cases h2 : l.length ≤ p
        · have f2 : decide ((l.length : Int) ≤ (p : Int)) = true := by rw [decide_eq_true_eq]; omega
          have f3 : decide (l.length ≤ p) = true := by rw [decide_eq_true_eq]; omega
          have HE := Aside0.mk (show mergeG d ix t commit l = (1, []) by
            unfold mergeG headM
            rw [HG.out, if_neg (by decide), if_pos h1, if_pos (by omega)])
          go_wp2_with (first | ((first | ((first | ((with_reducible refine gA rfl ?_); refine sh_alloc HS.out rfl rfl (zeT _ (by decide)) ?_) | ((with_reducible refine gB rfl ?_); refine bx HS.out rfl rfl ?_; first | refine bv (v := .agg (List.toArray _)) rfl ?_ | refine bv (v := .int _ _) rfl ?_ | refine bv (v := .slice _ _ _) rfl ?_ | refine bv (v := .bool _) rfl ?_ | refine bv (v := .pointer _) rfl ?_) | ((with_reducible refine gL rfl ?_); refine sh_lit HS.out rfl rfl (by go_simp; exact ⟨⟨rfl, rfl⟩, rfl⟩) ?_)); clear HS; intro g w1 hg HS1; (simp only [Ent.enc, Led.Held.enc, Led.Last.enc, Rc.enc, zeF, segOf, aL, aC, aE] at HS1); have HS := Aside0.mk HS1; clear HS1) | ((with_reducible refine gLd rfl ?_); refine ld2 HS.out rfl rfl rfl (by repeat (first | exact AtI.here | apply AtI.there)) ?_; (first | refine LdK.one ((agT _ (by decide)).trans rfl) rfl ?_ | (refine LdK.agg ((agT _ (by decide)).trans rfl) (szT _ (by decide)) (lb rfl) ?_; try simp only [szL, aP, aN, aT, aZ, aS, aD, aF, aJ, aK, aM, aO]))) | ((with_reducible refine gSt rfl ?_); refine st2 HS.out rfl rfl rfl rfl (by repeat (first | exact AtI.here | apply AtI.there)) ?_; (first | refine sv (u := .agg (List.toArray _)) rfl ?_ | refine sv (u := .int _ _) rfl ?_ | refine sv (u := .slice _ _ _) rfl ?_ | refine sv (u := .bool _) rfl ?_ | refine sv (u := .pointer _) rfl ?_); refine sw (szT _ (by decide)) rfl (lb rfl) ?_; clear HS; intro w1 HS1; (simp only [Ent.enc, Led.Held.enc, Led.Last.enc, Rc.enc, segOf, aL, aZ, aS, putSeg] at HS1); have HS := Aside0.mk HS1; clear HS1)); try simp only [aP, aN, aT, aZ, aS]))
          go_ret2
          rw [HE.out]
          exact merge_nil HS.out 1
        · have f2 : decide ((l.length : Int) ≤ (p : Int)) = false := by rw [decide_eq_false_iff_not]; omega
          have f3 : decide (l.length ≤ p) = false := by rw [decide_eq_false_iff_not]; omega
          have hpN : p ≤ l.length := by omega
          have HHD := Aside0.mk (show headM d ix t l = some (some (l.drop p, d.s.si)) by
            unfold headM
            rw [if_pos h1, if_neg (by omega), show (d.s.si - ix).toNat = p by omega])
          go_wp2_with (first | ((with_reducible refine gSl rfl ?_); refine sl_lo rfl rfl p rfl rfl Try.underlying30 (szT _ (by decide)) hpN hNc ?_; (try simp only [aP, aN, aT, aZ, aS])) | ((first | ((first | ((with_reducible refine gA rfl ?_); refine sh_alloc HS.out rfl rfl (zeT _ (by decide)) ?_) | ((with_reducible refine gB rfl ?_); refine bx HS.out rfl rfl ?_; first | refine bv (v := .agg (List.toArray _)) rfl ?_ | refine bv (v := .int _ _) rfl ?_ | refine bv (v := .slice _ _ _) rfl ?_ | refine bv (v := .bool _) rfl ?_ | refine bv (v := .pointer _) rfl ?_) | ((with_reducible refine gL rfl ?_); refine sh_lit HS.out rfl rfl (by go_simp; exact ⟨⟨rfl, rfl⟩, rfl⟩) ?_)); clear HS; intro g w1 hg HS1; (simp only [Ent.enc, Led.Held.enc, Led.Last.enc, Rc.enc, zeF, segOf, aL, aC, aE] at HS1); have HS := Aside0.mk HS1; clear HS1) | ((with_reducible refine gLd rfl ?_); refine ld2 HS.out rfl rfl rfl (by repeat (first | exact AtI.here | apply AtI.there)) ?_; (first | refine LdK.one ((agT _ (by decide)).trans rfl) rfl ?_ | (refine LdK.agg ((agT _ (by decide)).trans rfl) (szT _ (by decide)) (lb rfl) ?_; try simp only [szL, aP, aN, aT, aZ, aS, aD, aF, aJ, aK, aM, aO]))) | ((with_reducible refine gSt rfl ?_); refine st2 HS.out rfl rfl rfl rfl (by repeat (first | exact AtI.here | apply AtI.there)) ?_; (first | refine sv (u := .agg (List.toArray _)) rfl ?_ | refine sv (u := .int _ _) rfl ?_ | refine sv (u := .slice _ _ _) rfl ?_ | refine sv (u := .bool _) rfl ?_ | refine sv (u := .pointer _) rfl ?_); refine sw (szT _ (by decide)) rfl (lb rfl) ?_; clear HS; intro w1 HS1; (simp only [Ent.enc, Led.Held.enc, Led.Last.enc, Rc.enc, segOf, aL, aZ, aS, putSeg] at HS1); have HS := Aside0.mk HS1; clear HS1)); try simp only [aP, aN, aT, aZ, aS]))
          go_meet
          case rel => exact ⟨_, _, _, _, _, rfl, rfl, ⟨⟨HHD.out, cutA_rd HR.out hpN hNc, by omega, fun e he => List.mem_of_mem_drop he, Int.le_refl _, by omega, (by rw [List.length_drop]; omega)⟩⟩, HS⟩
      · have f1 : decide (ix < d.s.si) = false := by rw [decide_eq_false_iff_not]; exact h1
        by_cases h2 : t2 = true ∧ t1 = t
        · obtain ⟨rfl, rfl⟩ := h2
          have f2 : (t1 != t1) = false := by simp
          have hhi : ix ≤ d.s.si + d.log.length := by
            have h := HTO.out
            unfold termOf at h
            rw [HLO.out] at h
            split at h
            · omega
            · split at h
              · cases h
              · omega
          have HHD := Aside0.mk (show headM d ix t1 l = some (some (l, ix)) by
            unfold headM
            rw [if_neg h1, HTO.out, if_pos ⟨rfl, rfl⟩])
          go_wp2_with (first | (go_at_call 40; (with_reducible refine (HTM.out _ (HK.out.sh HS.out)).mono ?_); rintro e w2 ⟨rfl, hb⟩;  have HS1 := HS.out.quiet hb; clear HS hb; have HS := Aside0.mk HS1; clear HS1) | ((first | ((first | ((with_reducible refine gA rfl ?_); refine sh_alloc HS.out rfl rfl (zeT _ (by decide)) ?_) | ((with_reducible refine gB rfl ?_); refine bx HS.out rfl rfl ?_; first | refine bv (v := .agg (List.toArray _)) rfl ?_ | refine bv (v := .int _ _) rfl ?_ | refine bv (v := .slice _ _ _) rfl ?_ | refine bv (v := .bool _) rfl ?_ | refine bv (v := .pointer _) rfl ?_) | ((with_reducible refine gL rfl ?_); refine sh_lit HS.out rfl rfl (by go_simp; exact ⟨⟨rfl, rfl⟩, rfl⟩) ?_)); clear HS; intro g w1 hg HS1; (simp only [Ent.enc, Led.Held.enc, Led.Last.enc, Rc.enc, zeF, segOf, aL, aC, aE] at HS1); have HS := Aside0.mk HS1; clear HS1) | ((with_reducible refine gLd rfl ?_); refine ld2 HS.out rfl rfl rfl (by repeat (first | exact AtI.here | apply AtI.there)) ?_; (first | refine LdK.one ((agT _ (by decide)).trans rfl) rfl ?_ | (refine LdK.agg ((agT _ (by decide)).trans rfl) (szT _ (by decide)) (lb rfl) ?_; try simp only [szL, aP, aN, aT, aZ, aS, aD, aF, aJ, aK, aM, aO]))) | ((with_reducible refine gSt rfl ?_); refine st2 HS.out rfl rfl rfl rfl (by repeat (first | exact AtI.here | apply AtI.there)) ?_; (first | refine sv (u := .agg (List.toArray _)) rfl ?_ | refine sv (u := .int _ _) rfl ?_ | refine sv (u := .slice _ _ _) rfl ?_ | refine sv (u := .bool _) rfl ?_ | refine sv (u := .pointer _) rfl ?_); refine sw (szT _ (by decide)) rfl (lb rfl) ?_; clear HS; intro w1 HS1; (simp only [Ent.enc, Led.Held.enc, Led.Last.enc, Rc.enc, segOf, aL, aZ, aS, putSeg] at HS1); have HS := Aside0.mk HS1; clear HS1)); try simp only [aP, aN, aT, aZ, aS]))
          go_meet
          case rel => exact ⟨A, l.length, c, l, ix, rfl, rfl, ⟨⟨HHD.out, HR.out, hNc, fun e he => he, by omega, hhi, Nat.le_refl _⟩⟩, HS⟩
        · have HE := Aside0.mk (show mergeG d ix t commit l = (2, []) by
            unfold mergeG headM
            rw [HG.out, if_neg (by decide), if_neg h1, HTO.out, if_neg h2])
          cases t2 with
          | false =>
            clear h2
            go_wp2_with (first | (go_at_call 40; (with_reducible refine (HTM.out _ (HK.out.sh HS.out)).mono ?_); rintro e w2 ⟨rfl, hb⟩;  have HS1 := HS.out.quiet hb; clear HS hb; have HS := Aside0.mk HS1; clear HS1) | ((first | ((first | ((with_reducible refine gA rfl ?_); refine sh_alloc HS.out rfl rfl (zeT _ (by decide)) ?_) | ((with_reducible refine gB rfl ?_); refine bx HS.out rfl rfl ?_; first | refine bv (v := .agg (List.toArray _)) rfl ?_ | refine bv (v := .int _ _) rfl ?_ | refine bv (v := .slice _ _ _) rfl ?_ | refine bv (v := .bool _) rfl ?_ | refine bv (v := .pointer _) rfl ?_) | ((with_reducible refine gL rfl ?_); refine sh_lit HS.out rfl rfl (by go_simp; exact ⟨⟨rfl, rfl⟩, rfl⟩) ?_)); clear HS; intro g w1 hg HS1; (simp only [Ent.enc, Led.Held.enc, Led.Last.enc, Rc.enc, zeF, segOf, aL, aC, aE] at HS1); have HS := Aside0.mk HS1; clear HS1) | ((with_reducible refine gLd rfl ?_); refine ld2 HS.out rfl rfl rfl (by repeat (first | exact AtI.here | apply AtI.there)) ?_; (first | refine LdK.one ((agT _ (by decide)).trans rfl) rfl ?_ | (refine LdK.agg ((agT _ (by decide)).trans rfl) (szT _ (by decide)) (lb rfl) ?_; try simp only [szL, aP, aN, aT, aZ, aS, aD, aF, aJ, aK, aM, aO]))) | ((with_reducible refine gSt rfl ?_); refine st2 HS.out rfl rfl rfl rfl (by repeat (first | exact AtI.here | apply AtI.there)) ?_; (first | refine sv (u := .agg (List.toArray _)) rfl ?_ | refine sv (u := .int _ _) rfl ?_ | refine sv (u := .slice _ _ _) rfl ?_ | refine sv (u := .bool _) rfl ?_ | refine sv (u := .pointer _) rfl ?_); refine sw (szT _ (by decide)) rfl (lb rfl) ?_; clear HS; intro w1 HS1; (simp only [Ent.enc, Led.Held.enc, Led.Last.enc, Rc.enc, segOf, aL, aZ, aS, putSeg] at HS1); have HS := Aside0.mk HS1; clear HS1)); try simp only [aP, aN, aT, aZ, aS]))
            go_ret2
            rw [HE.out]
            exact merge_nil HS.out 2
          | true =>
            have f2 : (t1 != t) = true := by rw [bne_iff_ne]; exact fun e => h2 ⟨rfl, e⟩
            clear h2
            go_wp2_with (first | (go_at_call 40; (with_reducible refine (HTM.out _ (HK.out.sh HS.out)).mono ?_); rintro e w2 ⟨rfl, hb⟩;  have HS1 := HS.out.quiet hb; clear HS hb; have HS := Aside0.mk HS1; clear HS1) | ((first | ((first | ((with_reducible refine gA rfl ?_); refine sh_alloc HS.out rfl rfl (zeT _ (by decide)) ?_) | ((with_reducible refine gB rfl ?_); refine bx HS.out rfl rfl ?_; first | refine bv (v := .agg (List.toArray _)) rfl ?_ | refine bv (v := .int _ _) rfl ?_ | refine bv (v := .slice _ _ _) rfl ?_ | refine bv (v := .bool _) rfl ?_ | refine bv (v := .pointer _) rfl ?_) | ((with_reducible refine gL rfl ?_); refine sh_lit HS.out rfl rfl (by go_simp; exact ⟨⟨rfl, rfl⟩, rfl⟩) ?_)); clear HS; intro g w1 hg HS1; (simp only [Ent.enc, Led.Held.enc, Led.Last.enc, Rc.enc, zeF, segOf, aL, aC, aE] at HS1); have HS := Aside0.mk HS1; clear HS1) | ((with_reducible refine gLd rfl ?_); refine ld2 HS.out rfl rfl rfl (by repeat (first | exact AtI.here | apply AtI.there)) ?_; (first | refine LdK.one ((agT _ (by decide)).trans rfl) rfl ?_ | (refine LdK.agg ((agT _ (by decide)).trans rfl) (szT _ (by decide)) (lb rfl) ?_; try simp only [szL, aP, aN, aT, aZ, aS, aD, aF, aJ, aK, aM, aO]))) | ((with_reducible refine gSt rfl ?_); refine st2 HS.out rfl rfl rfl rfl (by repeat (first | exact AtI.here | apply AtI.there)) ?_; (first | refine sv (u := .agg (List.toArray _)) rfl ?_ | refine sv (u := .int _ _) rfl ?_ | refine sv (u := .slice _ _ _) rfl ?_ | refine sv (u := .bool _) rfl ?_ | refine sv (u := .pointer _) rfl ?_); refine sw (szT _ (by decide)) rfl (lb rfl) ?_; clear HS; intro w1 HS1; (simp only [Ent.enc, Led.Held.enc, Led.Last.enc, Rc.enc, segOf, aL, aZ, aS, putSeg] at HS1); have HS := Aside0.mk HS1; clear HS1)); try simp only [aP, aN, aT, aZ, aS]))
            go_ret2
            rw [HE.out]
            exact merge_nil HS.out 2
    case rest =>
    clear HS
    obtain ⟨A2, n2, c2, l2, i2, rfl, rfl, HHO, HS⟩ := hcut
    have HI := Aside0.mk (And.intro HHO.out.lo HHO.out.hi)
    obtain ⟨S0, hS0⟩ : ∃ s, skipM d commit l2 i2 = s := ⟨_, rfl⟩
    have HS0 := Aside0.mk hS0
    have HMG := Aside0.mk (show mergeG d ix t commit l = ((if S0.bad then ((3 : Int), []) else match doAll d (recsM S0) with | none => ((3 : Int), []) | some _ => ((1 : Int), recsM S0)) : Int × List Rc) by
      unfold mergeG
      rw [HG.out, if_neg (by decide), HHO.out.head]
      simp only
      rw [hS0]
      first | rfl | (split <;> rfl))
    clear hS0
    have hn2 := HHO.out.rd.len.1
    have hc2 := HHO.out.cap
    have hi2a := HHO.out.lo
    have hi2b := HHO.out.hi
    have hl2n : l2.length ≤ 900000 := Nat.le_trans HHO.out.len hl9
    have HS9 := ((HS.out.nil recK 65).push (Below.refl _ _) (i := nodesI ([] : List Ent) (fun _ => False)) (fun e he => by cases he) (fun b hb => hb.elim))
    clear HS
    have HS := Aside0.mk (show SH w _ [blk bh [.int .u64 d.boot, .int .u64 d.term, .int .i64 d.vote, .int .u64 d.s.si, .int .u64 d.s.st, .slice d.s.nA d.s.nodes.length d.s.nc, .int .i64 d.s.lim, .int .u64 d.s.nxt, .slice d.s.hA d.s.held.length d.s.hc, .slice d.s.lA d.s.last.length d.s.lc, .slice d.gA d.log.length d.gc] 32, row recK 65 (.slice none 0 0) [] (fun _ => False), nodesI (([] : List Rc).map Rc.x) (fun _ => False)] from HS9)
    clear HS9
    go_wp2_with (first | (go_at_call 42; (with_reducible refine (HLA.out _ (HK.out.sh HS.out)).mono ?_); rintro e w2 ⟨rfl, hb⟩;  have HS1 := HS.out.quiet hb; clear HS hb; have HS := Aside0.mk HS1; clear HS1) | ((first | ((first | ((with_reducible refine gA rfl ?_); refine sh_alloc HS.out rfl rfl (zeT _ (by decide)) ?_) | ((with_reducible refine gB rfl ?_); refine bx HS.out rfl rfl ?_; first | refine bv (v := .agg (List.toArray _)) rfl ?_ | refine bv (v := .int _ _) rfl ?_ | refine bv (v := .slice _ _ _) rfl ?_ | refine bv (v := .bool _) rfl ?_ | refine bv (v := .pointer _) rfl ?_) | ((with_reducible refine gL rfl ?_); refine sh_lit HS.out rfl rfl (by go_simp; exact ⟨⟨rfl, rfl⟩, rfl⟩) ?_)); clear HS; intro g w1 hg HS1; (simp only [Ent.enc, Led.Held.enc, Led.Last.enc, Rc.enc, zeF, segOf, aL, aC, aE] at HS1); have HS := Aside0.mk HS1; clear HS1) | ((with_reducible refine gLd rfl ?_); refine ld2 HS.out rfl rfl rfl (by repeat (first | exact AtI.here | apply AtI.there)) ?_; (first | refine LdK.one ((agT _ (by decide)).trans rfl) rfl ?_ | (refine LdK.agg ((agT _ (by decide)).trans rfl) (szT _ (by decide)) (lb rfl) ?_; try simp only [szL, aP, aN, aT, aZ, aS, aD, aF, aJ, aK, aM, aO]))) | ((with_reducible refine gSt rfl ?_); refine st2 HS.out rfl rfl rfl rfl (by repeat (first | exact AtI.here | apply AtI.there)) ?_; (first | refine sv (u := .agg (List.toArray _)) rfl ?_ | refine sv (u := .int _ _) rfl ?_ | refine sv (u := .slice _ _ _) rfl ?_ | refine sv (u := .bool _) rfl ?_ | refine sv (u := .pointer _) rfl ?_); refine sw (szT _ (by decide)) rfl (lb rfl) ?_; clear HS; intro w1 HS1; (simp only [Ent.enc, Led.Held.enc, Led.Last.enc, Rc.enc, segOf, aL, aZ, aS, putSeg] at HS1); have HS := Aside0.mk HS1; clear HS1)); try simp only [aP, aN, aT, aZ, aS]))
    go_loopw [15, 68] (fun v15 v68 wr => ∃ (k : Nat) (rs : List Rc) (S1 S2 : Nat → Prop), k ≤ n2 ∧ v68 = .int .i64 k ∧ Aside0 (RelM d commit S0 l2 i2 k rs) ∧ Aside0 (SH w wr [blk bh [.int .u64 d.boot, .int .u64 d.term, .int .i64 d.vote, .int .u64 d.s.si, .int .u64 d.s.st, .slice d.s.nA d.s.nodes.length d.s.nc, .int .i64 d.s.lim, .int .u64 d.s.nxt, .slice d.s.hA d.s.held.length d.s.hc, .slice d.s.lA d.s.last.length d.s.lc, .slice d.gA d.log.length d.gc] 32, row recK 65 v15 rs S1, nodesI (rs.map Rc.x) S2])) (fun _ v68 _ => n2 - (intOf v68).toNat)
    case atStart => exact ⟨0, [], _, _, Nat.zero_le _, rfl, ⟨.inl ⟨rfl, by rw [List.drop_zero]; show skipM d commit l2 (i2 + 0) = S0; rw [Int.add_zero]; exact HS0.out⟩⟩, HS⟩
    case round =>
      clear HS
      obtain ⟨k, rs, S1, S2, hk, rfl, HRM, HS⟩ := hrel
      obtain ⟨B0, cb0, hv15, _, _⟩ := row_rd HS.out 1 rfl
      subst hv15
      by_cases hlt : k < n2
      · obtain ⟨x, hx⟩ : ∃ x, l2.getD k default = x := ⟨_, rfl⟩
        obtain ⟨ad2, rfl⟩ := HHO.out.rd.addr (by omega)
        have hkl : k < l2.length := by omega
        have hxm : x ∈ l := HHO.out.sub x (getD_in hkl hx)
        have HXO := Aside0.mk (HEN.out x hxm)
        have HXZ := Aside0.mk (HES.out x hxm)
        have HX := Aside0.mk hx
        have HDR := Aside0.mk (drop_consP hkl hx)
        have hrl := HRM.out.len
        have hw0 : IntKind.u64.wrap (k : Int) = (k : Int) := IntWalk.u64_in _ (by omega)
        have hw1 : IntKind.u64.wrap (i2 + (k : Int)) = i2 + (k : Int) := IntWalk.u64_in _ (by omega)
        have hw2 : IntKind.u64.wrap (i2 + (k : Int) + 1) = i2 + (k : Int) + 1 := IntWalk.u64_in _ (by omega)
        have hlim : (rs.length + 1) * 232 ≤ 140737488355328 := by omega
        have HLIM := Aside0.mk hlim
        clear hx hxm hrl hlim
        rcases HRM.out with ⟨hrs, hsk⟩ | ⟨hrs, hbad, p, q, hpq, hSl, hSi, hdata⟩
        · subst hrs
          rw [HDR.out] at hsk
          have HSK := Aside0.mk (hsk.symm.trans (skipM_cons d commit x (l2.drop (k + 1)) (i2 + k)))
          obtain ⟨q1, q2, hq⟩ : ∃ q1 q2, termOf d (i2 + (k : Int) + 1) = (q1, q2) := ⟨_, _, rfl⟩
          have hpast := term_past (HK.out.sh HS.out) HG.out (show d.s.si ≤ i2 + (k : Int) by omega)
          rw [hq] at hpast
          have HPA := Aside0.mk hpast
          have HQ := Aside0.mk hq
          have HTR := Aside0.mk (fun w1 (h : d.ok w1) => by
            have := termAt_any d (i2 + (k : Int) + 1) w1 h HG.out ⟨by omega, by omega⟩
            rw [hq] at this
            exact this)
          clear hq hpast hsk
          cases q2 with
          | false =>
            have f9 : decide (i2 + (k : Int) + 1 ≤ d.s.si + (d.log.length : Int)) = false := by
              rw [decide_eq_false_iff_not]
              intro h
              have := HPA.out.2 (by omega)
              cases this
            go_wp2_with (first | ((with_reducible refine gLd rfl ?_); refine rd_load (Aside0.mk (HHO.out.rd.sh HS.out)).out rfl rfl (i := k) rfl hlt default Ent.len ((agT _ (by decide)).trans rfl) (szT _ (by decide)) ?_; intro x hx; obtain rfl := HX.out.symm.trans hx; (try simp only [Ent.enc, Led.Held.enc, Led.Last.enc, Rc.enc, aP, aN, aT, aZ, aS])) | (go_at_call 40; (with_reducible refine (HTR.out _ (HK.out.sh HS.out)).mono ?_); rintro e w2 ⟨rfl, hb⟩;  have HS1 := HS.out.quiet hb; clear HS hb; have HS := Aside0.mk HS1; clear HS1) | (go_at_call 48; (with_reducible refine (cpRec_add (i2 + (k : Int) + 1) x _ (HXO.out.sh HS.out) HXZ.out).mono ?_); rintro e w2 ⟨A9, c9, T9, rfl, HS1⟩;  have HS2 := HS.out.call HS1; clear HS HS1; simp only [aC, aE] at HS2; have HS := Aside0.mk HS2; clear HS2) | ((with_reducible refine gC (b := .append) rfl ?_); refine sh_append HS.out rfl rfl rfl 1 rfl rfl (Rd.one Rc.len (addR (i2 + (k : Int) + 1) (x.at A9 c9)) (HS.out.blk 5 rfl)) Try.underlying57 infoRec rfl (by decide) (by decide) (by simp) ?_; clear HS; intro v1 w1 S1 HS1; (simp only [aZ, aS] at HS1); have HS := Aside0.mk HS1; clear HS1; try simp only [aP, aN, aT, aZ, aS]) | ((first | ((first | ((with_reducible refine gA rfl ?_); refine sh_alloc HS.out rfl rfl (zeT _ (by decide)) ?_) | ((with_reducible refine gB rfl ?_); refine bx HS.out rfl rfl ?_; first | refine bv (v := .agg (List.toArray _)) rfl ?_ | refine bv (v := .int _ _) rfl ?_ | refine bv (v := .slice _ _ _) rfl ?_ | refine bv (v := .bool _) rfl ?_ | refine bv (v := .pointer _) rfl ?_) | ((with_reducible refine gL rfl ?_); refine sh_lit HS.out rfl rfl (by go_simp; exact ⟨⟨rfl, rfl⟩, rfl⟩) ?_)); clear HS; intro g w1 hg HS1; (simp only [Ent.enc, Led.Held.enc, Led.Last.enc, Rc.enc, zeF, segOf, aL, aC, aE] at HS1); have HS := Aside0.mk HS1; clear HS1) | ((with_reducible refine gLd rfl ?_); refine ld2 HS.out rfl rfl rfl (by repeat (first | exact AtI.here | apply AtI.there)) ?_; (first | refine LdK.one ((agT _ (by decide)).trans rfl) rfl ?_ | (refine LdK.agg ((agT _ (by decide)).trans rfl) (szT _ (by decide)) (lb rfl) ?_; try simp only [szL, aP, aN, aT, aZ, aS, aD, aF, aJ, aK, aM, aO]))) | ((with_reducible refine gSt rfl ?_); refine st2 HS.out rfl rfl rfl rfl (by repeat (first | exact AtI.here | apply AtI.there)) ?_; (first | refine sv (u := .agg (List.toArray _)) rfl ?_ | refine sv (u := .int _ _) rfl ?_ | refine sv (u := .slice _ _ _) rfl ?_ | refine sv (u := .bool _) rfl ?_ | refine sv (u := .pointer _) rfl ?_); refine sw (szT _ (by decide)) rfl (lb rfl) ?_; clear HS; intro w1 HS1; (simp only [Ent.enc, Led.Held.enc, Led.Last.enc, Rc.enc, segOf, aL, aZ, aS, putSeg] at HS1); have HS := Aside0.mk HS1; clear HS1)); try simp only [aP, aN, aT, aZ, aS]))
            have HS9 := HS.out.merge 2 4 (by decide) (i' := nodesI (([] ++ [addR (i2 + (k : Int) + 1) (x.at A9 c9)]).map Rc.x) (fun b => S2 b ∨ T9 b)) rfl rfl (fun k1 k2 e he => by
                  simp only [List.map_append, List.map_cons, List.map_nil, aE, List.append_assoc, List.mem_append, List.mem_cons, List.not_mem_nil, or_false, aC] at he
                  obtain rfl := he
                  exact ⟨{ (HXO.out.sh HS.out) with rd := k2.1 }, k2.2.mono (fun b hb => .inr hb)⟩) (fun b hb => hb)
            go_roundw
            case rel =>
              have hsk := HSK.out
              rw [HQ.out, if_pos rfl] at hsk
              refine ⟨k + 1, [] ++ [addR (i2 + (k : Int) + 1) (x.at A9 c9)], _, _, by omega, by go_num, ⟨.inr ⟨by simp, by rw [hsk], k, 1, rfl, by rw [hsk, HDR.out], by rw [hsk], ?_⟩⟩, ⟨HS9.pick [0, 1, 2] rfl (by decide)⟩⟩
              rw [hsk]
              rfl
            case measure => simp [intOf]; omega
          | true =>
            have hlt3 : i2 + (k : Int) < d.s.si + d.log.length := HPA.out.1 rfl
            cases e1 : (q1 == x.term) with
            | true =>
              go_wp2_with (first | ((with_reducible refine gLd rfl ?_); refine rd_load (Aside0.mk (HHO.out.rd.sh HS.out)).out rfl rfl (i := k) rfl hlt default Ent.len ((agT _ (by decide)).trans rfl) (szT _ (by decide)) ?_; intro x hx; obtain rfl := HX.out.symm.trans hx; (try simp only [Ent.enc, Led.Held.enc, Led.Last.enc, Rc.enc, aP, aN, aT, aZ, aS])) | (go_at_call 40; (with_reducible refine (HTR.out _ (HK.out.sh HS.out)).mono ?_); rintro e w2 ⟨rfl, hb⟩;  have HS1 := HS.out.quiet hb; clear HS hb; have HS := Aside0.mk HS1; clear HS1) | ((first | ((first | ((with_reducible refine gA rfl ?_); refine sh_alloc HS.out rfl rfl (zeT _ (by decide)) ?_) | ((with_reducible refine gB rfl ?_); refine bx HS.out rfl rfl ?_; first | refine bv (v := .agg (List.toArray _)) rfl ?_ | refine bv (v := .int _ _) rfl ?_ | refine bv (v := .slice _ _ _) rfl ?_ | refine bv (v := .bool _) rfl ?_ | refine bv (v := .pointer _) rfl ?_) | ((with_reducible refine gL rfl ?_); refine sh_lit HS.out rfl rfl (by go_simp; exact ⟨⟨rfl, rfl⟩, rfl⟩) ?_)); clear HS; intro g w1 hg HS1; (simp only [Ent.enc, Led.Held.enc, Led.Last.enc, Rc.enc, zeF, segOf, aL, aC, aE] at HS1); have HS := Aside0.mk HS1; clear HS1) | ((with_reducible refine gLd rfl ?_); refine ld2 HS.out rfl rfl rfl (by repeat (first | exact AtI.here | apply AtI.there)) ?_; (first | refine LdK.one ((agT _ (by decide)).trans rfl) rfl ?_ | (refine LdK.agg ((agT _ (by decide)).trans rfl) (szT _ (by decide)) (lb rfl) ?_; try simp only [szL, aP, aN, aT, aZ, aS, aD, aF, aJ, aK, aM, aO]))) | ((with_reducible refine gSt rfl ?_); refine st2 HS.out rfl rfl rfl rfl (by repeat (first | exact AtI.here | apply AtI.there)) ?_; (first | refine sv (u := .agg (List.toArray _)) rfl ?_ | refine sv (u := .int _ _) rfl ?_ | refine sv (u := .slice _ _ _) rfl ?_ | refine sv (u := .bool _) rfl ?_ | refine sv (u := .pointer _) rfl ?_); refine sw (szT _ (by decide)) rfl (lb rfl) ?_; clear HS; intro w1 HS1; (simp only [Ent.enc, Led.Held.enc, Led.Last.enc, Rc.enc, segOf, aL, aZ, aS, putSeg] at HS1); have HS := Aside0.mk HS1; clear HS1)); try simp only [aP, aN, aT, aZ, aS]))
              go_roundw
              case rel =>
                have hsk := HSK.out
                rw [HQ.out, if_neg (by simp), if_pos (by simpa using e1)] at hsk
                exact ⟨k + 1, [], _, _, by omega, by go_num, ⟨.inl ⟨rfl, by rw [hsk]; congr 1; omega⟩⟩, ⟨HS.out.pick [0, 1, 2] rfl (by decide)⟩⟩
              case measure => simp [intOf]; omega
            | false =>
              by_cases h3 : i2 + (k : Int) + 1 ≤ commit
              · have f8 : decide (i2 + (k : Int) + 1 ≤ commit) = true := by rw [decide_eq_true_eq]; exact h3
                go_wp2_with (first | ((with_reducible refine gLd rfl ?_); refine rd_load (Aside0.mk (HHO.out.rd.sh HS.out)).out rfl rfl (i := k) rfl hlt default Ent.len ((agT _ (by decide)).trans rfl) (szT _ (by decide)) ?_; intro x hx; obtain rfl := HX.out.symm.trans hx; (try simp only [Ent.enc, Led.Held.enc, Led.Last.enc, Rc.enc, aP, aN, aT, aZ, aS])) | (go_at_call 40; (with_reducible refine (HTR.out _ (HK.out.sh HS.out)).mono ?_); rintro e w2 ⟨rfl, hb⟩;  have HS1 := HS.out.quiet hb; clear HS hb; have HS := Aside0.mk HS1; clear HS1) | ((first | ((first | ((with_reducible refine gA rfl ?_); refine sh_alloc HS.out rfl rfl (zeT _ (by decide)) ?_) | ((with_reducible refine gB rfl ?_); refine bx HS.out rfl rfl ?_; first | refine bv (v := .agg (List.toArray _)) rfl ?_ | refine bv (v := .int _ _) rfl ?_ | refine bv (v := .slice _ _ _) rfl ?_ | refine bv (v := .bool _) rfl ?_ | refine bv (v := .pointer _) rfl ?_) | ((with_reducible refine gL rfl ?_); refine sh_lit HS.out rfl rfl (by go_simp; exact ⟨⟨rfl, rfl⟩, rfl⟩) ?_)); clear HS; intro g w1 hg HS1; (simp only [Ent.enc, Led.Held.enc, Led.Last.enc, Rc.enc, zeF, segOf, aL, aC, aE] at HS1); have HS := Aside0.mk HS1; clear HS1) | ((with_reducible refine gLd rfl ?_); refine ld2 HS.out rfl rfl rfl (by repeat (first | exact AtI.here | apply AtI.there)) ?_; (first | refine LdK.one ((agT _ (by decide)).trans rfl) rfl ?_ | (refine LdK.agg ((agT _ (by decide)).trans rfl) (szT _ (by decide)) (lb rfl) ?_; try simp only [szL, aP, aN, aT, aZ, aS, aD, aF, aJ, aK, aM, aO]))) | ((with_reducible refine gSt rfl ?_); refine st2 HS.out rfl rfl rfl rfl (by repeat (first | exact AtI.here | apply AtI.there)) ?_; (first | refine sv (u := .agg (List.toArray _)) rfl ?_ | refine sv (u := .int _ _) rfl ?_ | refine sv (u := .slice _ _ _) rfl ?_ | refine sv (u := .bool _) rfl ?_ | refine sv (u := .pointer _) rfl ?_); refine sw (szT _ (by decide)) rfl (lb rfl) ?_; clear HS; intro w1 HS1; (simp only [Ent.enc, Led.Held.enc, Led.Last.enc, Rc.enc, segOf, aL, aZ, aS, putSeg] at HS1); have HS := Aside0.mk HS1; clear HS1)); try simp only [aP, aN, aT, aZ, aS]))
                go_ret2
                have hsk := HSK.out
                rw [HQ.out, if_neg (by simp), if_neg (by simpa using e1), if_pos (by omega)] at hsk
                have hmg := HMG.out
                rw [hsk] at hmg
                rw [hmg]
                exact merge_nil HS.out 3
              · have f8 : decide (i2 + (k : Int) + 1 ≤ commit) = false := by rw [decide_eq_false_iff_not]; exact h3
                have f9 : decide (i2 + (k : Int) + 1 ≤ d.s.si + (d.log.length : Int)) = true := by rw [decide_eq_true_eq]; omega
                go_wp2_with (first | ((with_reducible refine gLd rfl ?_); refine rd_load (Aside0.mk (HHO.out.rd.sh HS.out)).out rfl rfl (i := k) rfl hlt default Ent.len ((agT _ (by decide)).trans rfl) (szT _ (by decide)) ?_; intro x hx; obtain rfl := HX.out.symm.trans hx; (try simp only [Ent.enc, Led.Held.enc, Led.Last.enc, Rc.enc, aP, aN, aT, aZ, aS])) | (go_at_call 40; (with_reducible refine (HTR.out _ (HK.out.sh HS.out)).mono ?_); rintro e w2 ⟨rfl, hb⟩;  have HS1 := HS.out.quiet hb; clear HS hb; have HS := Aside0.mk HS1; clear HS1) | ((with_reducible refine gC (b := .append) rfl ?_); refine sh_append HS.out rfl rfl rfl 1 rfl rfl (Rd.one Rc.len (cutR (i2 + (k : Int) + 1)) (HS.out.blk 4 rfl)) Try.underlying57 infoRec rfl (by decide) (by decide) (by simp) ?_; clear HS; intro v1 w1 S1 HS1; (simp only [aZ, aS] at HS1); have HS := Aside0.mk HS1; clear HS1; try simp only [aP, aN, aT, aZ, aS]) | (go_at_call 48; (with_reducible refine (cpRec_add (i2 + (k : Int) + 1) x _ (HXO.out.sh HS.out) HXZ.out).mono ?_); rintro e w2 ⟨A9, c9, T9, rfl, HS1⟩;  have HS2 := HS.out.call HS1; clear HS HS1; simp only [aC, aE] at HS2; have HS := Aside0.mk HS2; clear HS2) | ((with_reducible refine gC (b := .append) rfl ?_); refine sh_append HS.out rfl rfl rfl 1 rfl rfl (Rd.one Rc.len (addR (i2 + (k : Int) + 1) (x.at A9 c9)) (HS.out.blk 6 rfl)) Try.underlying57 infoRec rfl (by decide) (by decide) (by simp) ?_; clear HS; intro v1 w1 S1 HS1; (simp only [aZ, aS] at HS1); have HS := Aside0.mk HS1; clear HS1; try simp only [aP, aN, aT, aZ, aS]) | ((first | ((first | ((with_reducible refine gA rfl ?_); refine sh_alloc HS.out rfl rfl (zeT _ (by decide)) ?_) | ((with_reducible refine gB rfl ?_); refine bx HS.out rfl rfl ?_; first | refine bv (v := .agg (List.toArray _)) rfl ?_ | refine bv (v := .int _ _) rfl ?_ | refine bv (v := .slice _ _ _) rfl ?_ | refine bv (v := .bool _) rfl ?_ | refine bv (v := .pointer _) rfl ?_) | ((with_reducible refine gL rfl ?_); refine sh_lit HS.out rfl rfl (by go_simp; exact ⟨⟨rfl, rfl⟩, rfl⟩) ?_)); clear HS; intro g w1 hg HS1; (simp only [Ent.enc, Led.Held.enc, Led.Last.enc, Rc.enc, zeF, segOf, aL, aC, aE] at HS1); have HS := Aside0.mk HS1; clear HS1) | ((with_reducible refine gLd rfl ?_); refine ld2 HS.out rfl rfl rfl (by repeat (first | exact AtI.here | apply AtI.there)) ?_; (first | refine LdK.one ((agT _ (by decide)).trans rfl) rfl ?_ | (refine LdK.agg ((agT _ (by decide)).trans rfl) (szT _ (by decide)) (lb rfl) ?_; try simp only [szL, aP, aN, aT, aZ, aS, aD, aF, aJ, aK, aM, aO]))) | ((with_reducible refine gSt rfl ?_); refine st2 HS.out rfl rfl rfl rfl (by repeat (first | exact AtI.here | apply AtI.there)) ?_; (first | refine sv (u := .agg (List.toArray _)) rfl ?_ | refine sv (u := .int _ _) rfl ?_ | refine sv (u := .slice _ _ _) rfl ?_ | refine sv (u := .bool _) rfl ?_ | refine sv (u := .pointer _) rfl ?_); refine sw (szT _ (by decide)) rfl (lb rfl) ?_; clear HS; intro w1 HS1; (simp only [Ent.enc, Led.Held.enc, Led.Last.enc, Rc.enc, segOf, aL, aZ, aS, putSeg] at HS1); have HS := Aside0.mk HS1; clear HS1)); try simp only [aP, aN, aT, aZ, aS]))
                have HS9 := HS.out.merge 2 5 (by decide) (i' := nodesI (([cutR (i2 + (k : Int) + 1)] ++ [addR (i2 + (k : Int) + 1) (x.at A9 c9)]).map Rc.x) (fun b => S2 b ∨ T9 b)) rfl rfl (fun k1 k2 e he => by
                  simp only [List.map_append, List.map_cons, List.map_nil, aE, List.append_assoc, List.mem_append, List.mem_cons, List.not_mem_nil, or_false, aC] at he
                  rcases he with rfl | rfl
                  · exact ⟨zeroE_ok _, fun ad h => by cases h⟩
                  · exact ⟨{ (HXO.out.sh HS.out) with rd := k2.1 }, k2.2.mono (fun b hb => .inr hb)⟩) (fun b hb => hb)
                go_roundw
                case rel =>
                  have hsk := HSK.out
                  rw [HQ.out, if_neg (by simp), if_neg (by simpa using e1), if_neg (by omega)] at hsk
                  refine ⟨k + 1, [cutR (i2 + (k : Int) + 1)] ++ [addR (i2 + (k : Int) + 1) (x.at A9 c9)], _, _, by omega, by go_num, ⟨.inr ⟨by simp, by rw [hsk], k, 1, rfl, by rw [hsk, HDR.out], by rw [hsk], ?_⟩⟩, ⟨HS9.pick [0, 1, 2] rfl (by decide)⟩⟩
                  rw [hsk]
                  rfl
                case measure => simp [intOf]; omega
        · obtain ⟨y0, rs0, hrs0⟩ : ∃ y0 rs0, rs = y0 :: rs0 := List.exists_cons_of_ne_nil hrs
          have hne : decide ((rs.length : Int) = 0) = false := by rw [decide_eq_false_iff_not]; rw [hrs0]; simp; omega
          have hne2 : ((rs.length : Int) == 0) = false := by rw [beq_eq_false_iff_ne]; rw [hrs0]; simp; omega
          have hrs2 : rs.length ≠ 0 := by rw [hrs0]; simp
          clear hrs0
          have HD9 := Aside0.mk (And.intro hbad (And.intro hSl (And.intro hSi hdata)))
          have HPQ := Aside0.mk hpq
          clear hbad hSl hSi hdata hpq
          go_wp2_with (first | ((with_reducible refine gLd rfl ?_); refine rd_load (Aside0.mk (HHO.out.rd.sh HS.out)).out rfl rfl (i := k) rfl hlt default Ent.len ((agT _ (by decide)).trans rfl) (szT _ (by decide)) ?_; intro x hx; obtain rfl := HX.out.symm.trans hx; (try simp only [Ent.enc, Led.Held.enc, Led.Last.enc, Rc.enc, aP, aN, aT, aZ, aS])) | (go_at_call 40; (with_reducible refine (HTR.out _ (HK.out.sh HS.out)).mono ?_); rintro e w2 ⟨rfl, hb⟩;  have HS1 := HS.out.quiet hb; clear HS hb; have HS := Aside0.mk HS1; clear HS1) | (go_at_call 48; (with_reducible refine (cpRec_add (i2 + (k : Int) + 1) x _ (HXO.out.sh HS.out) HXZ.out).mono ?_); rintro e w2 ⟨A9, c9, T9, rfl, HS1⟩;  have HS2 := HS.out.call HS1; clear HS HS1; simp only [aC, aE] at HS2; have HS := Aside0.mk HS2; clear HS2) | ((with_reducible refine gC (b := .append) rfl ?_); refine sh_append HS.out rfl rfl rfl 1 rfl rfl (Rd.one Rc.len (addR (i2 + (k : Int) + 1) (x.at A9 c9)) (HS.out.blk 5 rfl)) Try.underlying57 infoRec rfl (by decide) (by decide) HLIM.out ?_; clear HS; intro v1 w1 S1 HS1; (simp only [aZ, aS] at HS1); have HS := Aside0.mk HS1; clear HS1; try simp only [aP, aN, aT, aZ, aS]) | ((first | ((first | ((with_reducible refine gA rfl ?_); refine sh_alloc HS.out rfl rfl (zeT _ (by decide)) ?_) | ((with_reducible refine gB rfl ?_); refine bx HS.out rfl rfl ?_; first | refine bv (v := .agg (List.toArray _)) rfl ?_ | refine bv (v := .int _ _) rfl ?_ | refine bv (v := .slice _ _ _) rfl ?_ | refine bv (v := .bool _) rfl ?_ | refine bv (v := .pointer _) rfl ?_) | ((with_reducible refine gL rfl ?_); refine sh_lit HS.out rfl rfl (by go_simp; exact ⟨⟨rfl, rfl⟩, rfl⟩) ?_)); clear HS; intro g w1 hg HS1; (simp only [Ent.enc, Led.Held.enc, Led.Last.enc, Rc.enc, zeF, segOf, aL, aC, aE] at HS1); have HS := Aside0.mk HS1; clear HS1) | ((with_reducible refine gLd rfl ?_); refine ld2 HS.out rfl rfl rfl (by repeat (first | exact AtI.here | apply AtI.there)) ?_; (first | refine LdK.one ((agT _ (by decide)).trans rfl) rfl ?_ | (refine LdK.agg ((agT _ (by decide)).trans rfl) (szT _ (by decide)) (lb rfl) ?_; try simp only [szL, aP, aN, aT, aZ, aS, aD, aF, aJ, aK, aM, aO]))) | ((with_reducible refine gSt rfl ?_); refine st2 HS.out rfl rfl rfl rfl (by repeat (first | exact AtI.here | apply AtI.there)) ?_; (first | refine sv (u := .agg (List.toArray _)) rfl ?_ | refine sv (u := .int _ _) rfl ?_ | refine sv (u := .slice _ _ _) rfl ?_ | refine sv (u := .bool _) rfl ?_ | refine sv (u := .pointer _) rfl ?_); refine sw (szT _ (by decide)) rfl (lb rfl) ?_; clear HS; intro w1 HS1; (simp only [Ent.enc, Led.Held.enc, Led.Last.enc, Rc.enc, segOf, aL, aZ, aS, putSeg] at HS1); have HS := Aside0.mk HS1; clear HS1)); try simp only [aP, aN, aT, aZ, aS]))
          have HS9 := HS.out.merge 2 4 (by decide) (i' := nodesI ((rs ++ [addR (i2 + (k : Int) + 1) (x.at A9 c9)]).map Rc.x) (fun b => S2 b ∨ T9 b)) rfl rfl (fun k1 k2 e he => by
                  simp only [List.map_append, List.map_cons, List.map_nil, aE, List.append_assoc, List.mem_append, List.mem_cons, List.not_mem_nil, or_false, aC] at he
                  rcases he with h1 | rfl
                  · exact ⟨(k1 e h1).1, (k1 e h1).2.mono (fun b hb => .inl hb)⟩
                  · exact ⟨{ (HXO.out.sh HS.out) with rd := k2.1 }, k2.2.mono (fun b hb => .inr hb)⟩) (fun b hb => hb)
          go_roundw
          case rel =>
            obtain ⟨hbad, hSl, hSi, hdata⟩ := HD9.out
            have hpq := HPQ.out
            refine ⟨k + 1, rs ++ [addR (i2 + (k : Int) + 1) (x.at A9 c9)], _, _, by omega, by go_num, ⟨.inr ⟨by simp, hbad, p, q + 1, by omega, hSl, hSi, ?_⟩⟩, ⟨HS9.pick [0, 1, 2] rfl (by decide)⟩⟩
            have hxq : S0.l.getD q default = x := by
              rw [hSl, List.getD_eq_getElem?_getD, List.getElem?_drop, ← List.getD_eq_getElem?_getD, ← hpq]
              exact HX.out
            rw [addsM_take S0.l S0.i (show q < S0.l.length by rw [hSl, List.length_drop]; omega) hxq, List.map_append, hdata, show S0.i + (q : Int) + 1 = i2 + (k : Int) + 1 by omega]
            simp only [List.map_append, List.append_assoc]
            rfl
          case measure => simp [intOf]; omega
      · obtain rfl : k = n2 := by omega
        have hkl2 : k = l2.length := by omega
        have hrm := HRM.out
        have hrl := hrm.len
        rw [hkl2] at hrm
        obtain ⟨hfull, hbad⟩ := hrm.full
        have HFULL := Aside0.mk hfull
        have HBAD := Aside0.mk hbad
        have hlenR : rs.length = (recsM S0).length := by
          have := congrArg List.length hfull
          rwa [List.length_map, List.length_map] at this
        have HLR := Aside0.mk hlenR
        have HCH := Aside0.mk (skip_chain HK.out HG.out HHO.out.head HS0.out hbad)
        have HRM9 := Aside0.mk (show ∀ ix x, addR ix x ∈ recsM S0 → x ∈ l from fun ix x h => HHO.out.sub _ (by
          have h9 := skipM_sub d commit l2 i2 x
          rw [HS0.out] at h9
          exact h9 (recsM_mem h)))
        have hrl9 : d.log.length + rs.length ≤ 900001 := by
          have h1 := HN9.out
          have h2 := HHO.out.len
          omega
        clear hfull hbad hlenR hrm hrl hkl2
        go_upto_region 28 with (first | ((fail_if_success (have _ := b22)); ((with_reducible refine gA rfl ?_); refine sh_alloc HS.out rfl rfl (zeT _ (by decide)) ?_; clear HS; intro b22 w1 hb22 HS1; (simp only [Ent.enc, Led.Held.enc, Led.Last.enc, Rc.enc, zeF, segOf, aL, aC, aE] at HS1); have HS := Aside0.mk HS1; clear HS1; try simp only [aP, aN, aT, aZ, aS])) | ((first | ((first | ((with_reducible refine gA rfl ?_); refine sh_alloc HS.out rfl rfl (zeT _ (by decide)) ?_) | ((with_reducible refine gB rfl ?_); refine bx HS.out rfl rfl ?_; first | refine bv (v := .agg (List.toArray _)) rfl ?_ | refine bv (v := .int _ _) rfl ?_ | refine bv (v := .slice _ _ _) rfl ?_ | refine bv (v := .bool _) rfl ?_ | refine bv (v := .pointer _) rfl ?_) | ((with_reducible refine gL rfl ?_); refine sh_lit HS.out rfl rfl (by go_simp; exact ⟨⟨rfl, rfl⟩, rfl⟩) ?_)); clear HS; intro g w1 hg HS1; (simp only [Ent.enc, Led.Held.enc, Led.Last.enc, Rc.enc, zeF, segOf, aL, aC, aE] at HS1); have HS := Aside0.mk HS1; clear HS1) | ((with_reducible refine gLd rfl ?_); refine ld2 HS.out rfl rfl rfl (by repeat (first | exact AtI.here | apply AtI.there)) ?_; (first | refine LdK.one ((agT _ (by decide)).trans rfl) rfl ?_ | (refine LdK.agg ((agT _ (by decide)).trans rfl) (szT _ (by decide)) (lb rfl) ?_; try simp only [szL, aP, aN, aT, aZ, aS, aD, aF, aJ, aK, aM, aO]))) | ((with_reducible refine gSt rfl ?_); refine st2 HS.out rfl rfl rfl rfl (by repeat (first | exact AtI.here | apply AtI.there)) ?_; (first | refine sv (u := .agg (List.toArray _)) rfl ?_ | refine sv (u := .int _ _) rfl ?_ | refine sv (u := .slice _ _ _) rfl ?_ | refine sv (u := .bool _) rfl ?_ | refine sv (u := .pointer _) rfl ?_); refine sw (szT _ (by decide)) rfl (lb rfl) ?_; clear HS; intro w1 HS1; (simp only [Ent.enc, Led.Held.enc, Led.Last.enc, Rc.enc, segOf, aL, aZ, aS, putSeg] at HS1); have HS := Aside0.mk HS1; clear HS1)); try simp only [aP, aN, aT, aZ, aS]))
        have HSA := (HS.out.pick [3, 1, 2, 0] rfl (by decide)).push (Below.refl _ _) (i := noI) trivial (fun b hb => hb.elim)
        have HSB := SH.pick HSA [0, 1, 2, 4, 3] rfl (by decide)
        clear HS HSA
        have HS := Aside0.mk HSB
        clear HSB
        go_wp2_with (first | ((first | ((first | ((with_reducible refine gA rfl ?_); refine sh_alloc HS.out rfl rfl (zeT _ (by decide)) ?_) | ((with_reducible refine gB rfl ?_); refine bx HS.out rfl rfl ?_; first | refine bv (v := .agg (List.toArray _)) rfl ?_ | refine bv (v := .int _ _) rfl ?_ | refine bv (v := .slice _ _ _) rfl ?_ | refine bv (v := .bool _) rfl ?_ | refine bv (v := .pointer _) rfl ?_) | ((with_reducible refine gL rfl ?_); refine sh_lit HS.out rfl rfl (by go_simp; exact ⟨⟨rfl, rfl⟩, rfl⟩) ?_)); clear HS; intro g w1 hg HS1; (simp only [Ent.enc, Led.Held.enc, Led.Last.enc, Rc.enc, zeF, segOf, aL, aC, aE] at HS1); have HS := Aside0.mk HS1; clear HS1) | ((with_reducible refine gLd rfl ?_); refine ld2 HS.out rfl rfl rfl (by repeat (first | exact AtI.here | apply AtI.there)) ?_; (first | refine LdK.one ((agT _ (by decide)).trans rfl) rfl ?_ | (refine LdK.agg ((agT _ (by decide)).trans rfl) (szT _ (by decide)) (lb rfl) ?_; try simp only [szL, aP, aN, aT, aZ, aS, aD, aF, aJ, aK, aM, aO]))) | ((with_reducible refine gSt rfl ?_); refine st2 HS.out rfl rfl rfl rfl (by repeat (first | exact AtI.here | apply AtI.there)) ?_; (first | refine sv (u := .agg (List.toArray _)) rfl ?_ | refine sv (u := .int _ _) rfl ?_ | refine sv (u := .slice _ _ _) rfl ?_ | refine sv (u := .bool _) rfl ?_ | refine sv (u := .pointer _) rfl ?_); refine sw (szT _ (by decide)) rfl (lb rfl) ?_; clear HS; intro w1 HS1; (simp only [Ent.enc, Led.Held.enc, Led.Last.enc, Rc.enc, segOf, aL, aZ, aS, putSeg] at HS1); have HS := Aside0.mk HS1; clear HS1)); try simp only [aP, aN, aT, aZ, aS]))
        go_loopw [119] (fun v119 wr => ∃ (j : Nat) (dx dy : Hrd) (I : HP), j ≤ rs.length ∧ v119 = .int .i64 j ∧ Aside0 (TryOk d dx dy l (recsM S0) j w I) ∧ Aside0 (SH w wr [blk b22 [.int .u64 dx.boot, .int .u64 dx.term, .int .i64 dx.vote, .int .u64 dx.s.si, .int .u64 dx.s.st, .slice dx.s.nA dx.s.nodes.length dx.s.nc, .int .i64 dx.s.lim, .int .u64 dx.s.nxt, .slice dx.s.hA dx.s.held.length dx.s.hc, .slice dx.s.lA dx.s.last.length dx.s.lc, .slice dx.gA dx.log.length dx.gc] 32, row recK 65 (.slice B0 rs.length cb0) rs S1, nodesI (rs.map Rc.x) S2, I, blk bh [.int .u64 d.boot, .int .u64 d.term, .int .i64 d.vote, .int .u64 d.s.si, .int .u64 d.s.st, .slice d.s.nA d.s.nodes.length d.s.nc, .int .i64 d.s.lim, .int .u64 d.s.nxt, .slice d.s.hA d.s.held.length d.s.hc, .slice d.s.lA d.s.last.length d.s.lc, .slice d.gA d.log.length d.gc] 32])) (fun v119 _ => rs.length - (intOf v119).toNat)
        case atStart => exact ⟨0, d, d, noI, Nat.zero_le _, rfl, ⟨⟨same_refl d, ⟨rfl, HG.out, fun e he => .inl he⟩, by rw [List.drop_zero]; exact HCH.out, rfl, by omega, fun wz isz hs _ => HK.out.sh hs⟩⟩, HS⟩
        case round =>
          clear HS
          obtain ⟨j, dx, dy, I, hj, rfl, HTY, HS⟩ := hrel
          by_cases hlt : j < rs.length
          · obtain ⟨r, hr⟩ : ∃ r, rs.getD j default = r := ⟨_, rfl⟩
            have HRD := Aside0.mk (row_rds (hl := Rc.len) (h1 := Rc.one) 1 rfl _ HS.out)
            obtain ⟨adr, had⟩ := HRD.out.addr (by omega)
            subst had
            have hjR : j < (recsM S0).length := by rw [← HLR.out]; exact hlt
            obtain ⟨q, hq⟩ : ∃ q, (recsM S0).getD j default = q := ⟨_, rfl⟩
            have hrm : r.x ∈ rs.map Rc.x := List.mem_map.2 ⟨r, getD_in hlt hr, rfl⟩
            have hqm : q ∈ recsM S0 := getD_in hjR hq
            have hrq : r.data = q.data := by
              have h1 := congrArg (fun l => l[j]?) HFULL.out
              simp only [List.getElem?_map] at h1
              rw [List.getD_eq_getElem?_getD, List.getElem?_eq_getElem hlt, Option.getD_some] at hr
              rw [List.getD_eq_getElem?_getD, List.getElem?_eq_getElem hjR, Option.getD_some] at hq
              rw [List.getElem?_eq_getElem hlt, List.getElem?_eq_getElem hjR, hr, hq] at h1
              simpa using h1
            have hdrop : (recsM S0).drop j = q :: (recsM S0).drop (j + 1) := drop_consP hjR hq
            have hall := HTY.out.all
            rw [hdrop, doAll] at hall
            have HALL := Aside0.mk hall
            have hch := HTY.out.chain
            rw [hdrop] at hch
            have HCHN := Aside0.mk hch.2
            have HDX := Aside0.mk (fun wz isz hs h3 => HTY.out.mem wz isz hs h3)
            have HKX := Aside0.mk (HDX.out _ _ HS.out rfl)
            have hlx := HTY.out.len
            have hdl : dx.log.length ≤ 999999 := by rw [same_len HTY.out.same]; omega
            have hcase := try_caseR HTY.out HKX.out (TryOk.szd HTY.out HZ.out HES.out (by omega)) hdl HES.out HRM9.out hdrop hqm hrq
            have HRX := Aside0.mk hr
            have HRM := Aside0.mk hrm
            clear hr hrm hq hqm hrq hdrop hch hall hlx hdl
            rcases hcase with ⟨dyn, L, hst, hD⟩ | ⟨hno, hD⟩
            · have HST := Aside0.mk hst
              have HD := Aside0.mk hD
              clear hst hD
              go_wp2_with (first | ((with_reducible refine gLd rfl ?_); refine rd_load HRD.out rfl rfl (i := j) rfl hlt default Rc.len ((agT _ (by decide)).trans rfl) (szT _ (by decide)) ?_; intro x hx; obtain rfl := HRX.out.symm.trans hx; (try simp only [Ent.enc, Led.Held.enc, Led.Last.enc, Rc.enc, aP, aN, aT, aZ, aS])) | (go_at_call 49; have HW8 := HDX.out _ _ HS.out rfl; have HW9 := (HS.out.at 2 rfl r.x HRM.out).1; (go_at_call 49; (with_reducible refine (HD.out _ HW8 HW9).mono ?_); rintro e w2 ⟨d2, T1, T2, T3, T4, T5, rfl, hb2, ht2, hv2, hs2, hl2', hc2, hg2, HS1⟩; have HD2 := Aside0.mk (And.intro hb2 (And.intro ht2 (And.intro hv2 (And.intro hs2 (And.intro hl2' (And.intro hc2 hg2)))))); clear hb2 ht2 hv2 hs2 hl2' hc2 hg2; unfold hrdI at HS1; clear HW8 HW9; have HS2 := HS.out.call HS1; clear HS HS1; simp only [aC, aE] at HS2; have HS := Aside0.mk HS2; clear HS2)) | ((first | ((first | ((with_reducible refine gA rfl ?_); refine sh_alloc HS.out rfl rfl (zeT _ (by decide)) ?_) | ((with_reducible refine gB rfl ?_); refine bx HS.out rfl rfl ?_; first | refine bv (v := .agg (List.toArray _)) rfl ?_ | refine bv (v := .int _ _) rfl ?_ | refine bv (v := .slice _ _ _) rfl ?_ | refine bv (v := .bool _) rfl ?_ | refine bv (v := .pointer _) rfl ?_) | ((with_reducible refine gL rfl ?_); refine sh_lit HS.out rfl rfl (by go_simp; exact ⟨⟨rfl, rfl⟩, rfl⟩) ?_)); clear HS; intro g w1 hg HS1; (simp only [Ent.enc, Led.Held.enc, Led.Last.enc, Rc.enc, zeF, segOf, aL, aC, aE] at HS1); have HS := Aside0.mk HS1; clear HS1) | ((with_reducible refine gLd rfl ?_); refine ld2 HS.out rfl rfl rfl (by repeat (first | exact AtI.here | apply AtI.there)) ?_; (first | refine LdK.one ((agT _ (by decide)).trans rfl) rfl ?_ | (refine LdK.agg ((agT _ (by decide)).trans rfl) (szT _ (by decide)) (lb rfl) ?_; try simp only [szL, aP, aN, aT, aZ, aS, aD, aF, aJ, aK, aM, aO]))) | ((with_reducible refine gSt rfl ?_); refine st2 HS.out rfl rfl rfl rfl (by repeat (first | exact AtI.here | apply AtI.there)) ?_; (first | refine sv (u := .agg (List.toArray _)) rfl ?_ | refine sv (u := .int _ _) rfl ?_ | refine sv (u := .slice _ _ _) rfl ?_ | refine sv (u := .bool _) rfl ?_ | refine sv (u := .pointer _) rfl ?_); refine sw (szT _ (by decide)) rfl (lb rfl) ?_; clear HS; intro w1 HS1; (simp only [Ent.enc, Led.Held.enc, Led.Last.enc, Rc.enc, segOf, aL, aZ, aS, putSeg] at HS1); have HS := Aside0.mk HS1; clear HS1)); try simp only [aP, aN, aT, aZ, aS]))
              go_roundw
              case rel =>
                obtain ⟨hb2, ht2, hv2, hs2, hl2', hc2, hg2⟩ := HD2.out
                have hsm := HTY.out.same
                have HSP := SH.pack (is := [_, _, _, _]) [_, _, _, _, _] (HS.out.pick [0, 1, 2, 4, 6, 7, 8, 9, 10] rfl (by decide))
                refine ⟨j + 1, d2, dyn, allI (hrdI d2 T1 T2 T3 T4 T5), by omega, by go_num, ⟨⟨⟨by rw [hb2, hsm.boot, HST.out.boot], by rw [ht2, hsm.term, HST.out.term], by rw [hv2, hsm.vote, HST.out.vote], ?_, by rw [hl2', HST.out.log]⟩, HST.out.dyok, HCHN.out _ HST.out.doR, by rw [HALL.out, HST.out.doR]; rfl, by have h1 := HST.out.len; have h2 := HTY.out.len; omega, fun wz isz hs h3 => okI (hs.at 3 h3) HKX.out hb2 ht2 hs2 hc2⟩⟩, ⟨HSP.pick [0, 1, 2, 4, 3] rfl (by decide)⟩⟩
                rw [HST.out.s]
                exact ⟨hs2.si.trans hsm.s.si, hs2.st.trans hsm.s.st, hs2.nodes.trans hsm.s.nodes, hs2.lim.trans hsm.s.lim, hs2.nxt.trans hsm.s.nxt, hs2.held.trans hsm.s.held, hs2.last.trans hsm.s.last⟩
              case measure => simp [intOf]; omega
            · have HMF := Aside0.mk (show mergeG d ix t commit l = (3, []) by
                rw [HMG.out, HBAD.out, if_neg (by decide), HALL.out, hno]
                rfl)
              have HD := Aside0.mk hD
              clear hno hD
              go_wp2_with (first | ((with_reducible refine gLd rfl ?_); refine rd_load HRD.out rfl rfl (i := j) rfl hlt default Rc.len ((agT _ (by decide)).trans rfl) (szT _ (by decide)) ?_; intro x hx; obtain rfl := HRX.out.symm.trans hx; (try simp only [Ent.enc, Led.Held.enc, Led.Last.enc, Rc.enc, aP, aN, aT, aZ, aS])) | (go_at_call 49; have HW8 := HDX.out _ _ HS.out rfl; have HW9 := (HS.out.at 2 rfl r.x HRM.out).1; (go_at_call 49; (with_reducible refine (HD.out _ HW8 HW9).mono ?_); rintro e w2 ⟨rfl, hb⟩;  have HS1 := HS.out.quiet hb; clear HS hb; have HS := Aside0.mk HS1; clear HS1); clear HW8 HW9) | ((first | ((first | ((with_reducible refine gA rfl ?_); refine sh_alloc HS.out rfl rfl (zeT _ (by decide)) ?_) | ((with_reducible refine gB rfl ?_); refine bx HS.out rfl rfl ?_; first | refine bv (v := .agg (List.toArray _)) rfl ?_ | refine bv (v := .int _ _) rfl ?_ | refine bv (v := .slice _ _ _) rfl ?_ | refine bv (v := .bool _) rfl ?_ | refine bv (v := .pointer _) rfl ?_) | ((with_reducible refine gL rfl ?_); refine sh_lit HS.out rfl rfl (by go_simp; exact ⟨⟨rfl, rfl⟩, rfl⟩) ?_)); clear HS; intro g w1 hg HS1; (simp only [Ent.enc, Led.Held.enc, Led.Last.enc, Rc.enc, zeF, segOf, aL, aC, aE] at HS1); have HS := Aside0.mk HS1; clear HS1) | ((with_reducible refine gLd rfl ?_); refine ld2 HS.out rfl rfl rfl (by repeat (first | exact AtI.here | apply AtI.there)) ?_; (first | refine LdK.one ((agT _ (by decide)).trans rfl) rfl ?_ | (refine LdK.agg ((agT _ (by decide)).trans rfl) (szT _ (by decide)) (lb rfl) ?_; try simp only [szL, aP, aN, aT, aZ, aS, aD, aF, aJ, aK, aM, aO]))) | ((with_reducible refine gSt rfl ?_); refine st2 HS.out rfl rfl rfl rfl (by repeat (first | exact AtI.here | apply AtI.there)) ?_; (first | refine sv (u := .agg (List.toArray _)) rfl ?_ | refine sv (u := .int _ _) rfl ?_ | refine sv (u := .slice _ _ _) rfl ?_ | refine sv (u := .bool _) rfl ?_ | refine sv (u := .pointer _) rfl ?_); refine sw (szT _ (by decide)) rfl (lb rfl) ?_; clear HS; intro w1 HS1; (simp only [Ent.enc, Led.Held.enc, Led.Last.enc, Rc.enc, segOf, aL, aZ, aS, putSeg] at HS1); have HS := Aside0.mk HS1; clear HS1)); try simp only [aP, aN, aT, aZ, aS]))
              go_ret2
              rw [HMF.out]
              exact merge_nil HS.out 3
          · obtain rfl : j = rs.length := by omega
            have hall := HTY.out.all
            rw [List.drop_of_length_le (by rw [HLR.out]; exact Nat.le_refl _)] at hall
            have HMF := Aside0.mk (show mergeG d ix t commit l = (1, recsM S0) by
              rw [HMG.out, HBAD.out, if_neg (by decide), hall]
              rfl)
            clear hall
            go_wp2_with (first | ((first | ((first | ((with_reducible refine gA rfl ?_); refine sh_alloc HS.out rfl rfl (zeT _ (by decide)) ?_) | ((with_reducible refine gB rfl ?_); refine bx HS.out rfl rfl ?_; first | refine bv (v := .agg (List.toArray _)) rfl ?_ | refine bv (v := .int _ _) rfl ?_ | refine bv (v := .slice _ _ _) rfl ?_ | refine bv (v := .bool _) rfl ?_ | refine bv (v := .pointer _) rfl ?_) | ((with_reducible refine gL rfl ?_); refine sh_lit HS.out rfl rfl (by go_simp; exact ⟨⟨rfl, rfl⟩, rfl⟩) ?_)); clear HS; intro g w1 hg HS1; (simp only [Ent.enc, Led.Held.enc, Led.Last.enc, Rc.enc, zeF, segOf, aL, aC, aE] at HS1); have HS := Aside0.mk HS1; clear HS1) | ((with_reducible refine gLd rfl ?_); refine ld2 HS.out rfl rfl rfl (by repeat (first | exact AtI.here | apply AtI.there)) ?_; (first | refine LdK.one ((agT _ (by decide)).trans rfl) rfl ?_ | (refine LdK.agg ((agT _ (by decide)).trans rfl) (szT _ (by decide)) (lb rfl) ?_; try simp only [szL, aP, aN, aT, aZ, aS, aD, aF, aJ, aK, aM, aO]))) | ((with_reducible refine gSt rfl ?_); refine st2 HS.out rfl rfl rfl rfl (by repeat (first | exact AtI.here | apply AtI.there)) ?_; (first | refine sv (u := .agg (List.toArray _)) rfl ?_ | refine sv (u := .int _ _) rfl ?_ | refine sv (u := .slice _ _ _) rfl ?_ | refine sv (u := .bool _) rfl ?_ | refine sv (u := .pointer _) rfl ?_); refine sw (szT _ (by decide)) rfl (lb rfl) ?_; clear HS; intro w1 HS1; (simp only [Ent.enc, Led.Held.enc, Led.Last.enc, Rc.enc, segOf, aL, aZ, aS, putSeg] at HS1); have HS := Aside0.mk HS1; clear HS1)); try simp only [aP, aN, aT, aZ, aS]))
            go_ret2
            rw [HMF.out]
            exact merge_mk ⟨B0, cb0, rs, S1, S2, rfl, HFULL.out, HS.out.pick [1, 2] rfl (by decide)⟩
end Go.Proofs.Ytekjihmepdhmeaa.Rlo

