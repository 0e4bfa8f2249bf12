/- Lemmas towards the law: what of the text RlpM it needs. -/
import Derived.Test.YtekjihmepdhmeaaRlpLq
import Derived.Test.YtekjihmepdhmeaaRlo9q
namespace Go.Proofs.Ytekjihmepdhmeaa.Rlo
open Go.RowKit Go.Proofs.YtekjihmepdhmeaaW.PrintWords Go.Proofs.Ytekjihmepdhmeaa.Sl
set_option linter.unusedVariables false
set_option linter.unusedSimpArgs false
theorem Behind.at' {d d2 : Hrd} {k : Nat} {w w2 : World} (h : Behind d d2 k) (hk : d.ok w) (hk2 : d2.ok w2) {p : Int} (hp : d.s.si + k ≤ p) : atG d2 p = atG d p := by
  have hl := (hardOk_last hk h.g).1
  have hkk := h.hk
  have hla := h.last hk hk2 h.g
  unfold atG
  simp only [h.ok, h.g, Bool.true_eq_false, if_false]
  rw [hla, h.si]
  by_cases hlt : lastOf d < p
  · rw [if_pos (.inr hlt), if_pos (.inr hlt)]
  · rw [if_neg (by omega), if_neg (by omega)]
    rw [hl] at hlt
    have h1 := h.term hk hk2 h.g hp
    have h2 : (confG d2 p).2 = (confG d p).2 := by
      unfold confG
      rw [if_pos h.ok, if_pos h.g]
      have := confB_behind h p hp d2.log.length (by rw [h.len]; omega)
      rw [this, h.len, show k + (d.log.length - k) = d.log.length by omega]
    have h3 : Rlo.ledAt d2 (p - (d.s.si + (k : Int))).toNat = Rlo.ledAt d (p - d.s.si).toNat := by
      rw [h.ledAt _ (by omega), show k + (p - (d.s.si + (k : Int))).toNat = (p - d.s.si).toNat by omega]
    rw [h1, h2, h3]
theorem Behind.lastG {d d2 : Hrd} {k : Nat} {w w2 : World} (h : Behind d d2 k) (hk : d.ok w) (hk2 : d2.ok w2) : lastG d2 = Rlo.lastG d := by
  have hl := (hardOk_last hk h.g).1
  have hkk := h.hk
  unfold Rlo.lastG
  rw [if_pos h.ok, if_pos h.g, h.last hk hk2 h.g, h.term hk hk2 h.g (by rw [hl]; omega)]
theorem term_ln {d : Hrd} {w : World} (hk : d.ok w) (i : Int) : ln (termOf d i).1 := by
  unfold termOf
  split
  · exact hk.s.st
  · split
    · exact ⟨Int.le_refl _, by decide⟩
    · rename_i h1 h2
      rcases Nat.lt_or_ge (i - d.s.si - 1).toNat d.log.length with h | h
      · exact (hk.re _ (getD_in h rfl)).term
      · rw [List.getD_eq_getElem?_getD, List.getElem?_eq_none h]
        exact ⟨Int.le_refl _, by decide⟩
theorem okTo_ge {l : List Int} {k : Nat} (h : Nod.okTo l k) : ∀ i, i < k → (i : Int) + 1 ≤ l.getD i 0
  | 0, hi => by have := (h 0 hi).1; simpa using this
  | i + 1, hi => by
    have h1 := okTo_ge h i (by omega)
    have h2 := (h (i + 1) hi).2.2 (by omega)
    rw [show i + 1 - 1 = i from rfl] at h2
    omega
theorem good_len {l : List Int} (h : Nod.good l = true) : l.length ≤ 7 := by
  unfold Nod.good Nod.isSet at h
  rw [Bool.and_eq_true, decide_eq_true_eq, decide_eq_true_eq] at h
  have h1 := okTo_ge h.1 (l.length - 1) (by omega)
  have h2 := (h.1 (l.length - 1) (by omega)).2.1
  omega
/-- the snapshot at an index, as an argument -/
theorem at_sht {d : Hrd} {wx w w0 : World} {is : List HP} (hk : d.ok wx) (hg : hardOk d = true) {k : Nat} (hkn : k ≤ d.log.length) {z : AtR} (hz : z = ⟨d.s.si + k, (termOf d (d.s.si + k)).1, (confG d (d.s.si + k)).2, ledAt d k, 0⟩) {A1 B1 C1 : Option Addr} {c1 c2 c3 : Nat} {S1 S2 S3 : Nat → Prop} (HS : SH w0 w is) (n : Nat) (i1 : is[n]? = some (row (intK .i64) 3 (.slice A1 z.nodes.length c1) z.nodes S1)) (i2 : is[n + 1]? = some (row Led.heldK 72 (.slice B1 z.L.held.length c2) z.L.held S2)) (i3 : is[n + 2]? = some (row Led.lastK 76 (.slice C1 z.L.last.length c3) z.L.last S3)) :
    Sht.ok w ⟨z.si, z.st, A1, c1, z.nodes, z.L.lim, z.L.nxt, B1, c2, z.L.held, C1, c3, z.L.last⟩ ∧ Sht.szd ⟨z.si, z.st, A1, c1, z.nodes, z.L.lim, z.L.nxt, B1, c2, z.L.held, C1, c3, z.L.last⟩ ∧ shotOk ⟨z.si, z.st, A1, c1, z.nodes, z.L.lim, z.L.nxt, B1, c2, z.L.held, C1, c3, z.L.last⟩ = true ∧ z.si = d.s.si + k ∧ termOf d z.si = (z.st, true) := by
  have hl := hardOk_last hk hg
  have hL := ledAt_ok hk hg k
  have h0 := hk.s.si.1
  have e1 := row_rds (hl := ints_len .i64) (h1 := ints_one .i64) n i1 w HS
  have e2 := row_rds (hl := Led.Held.len) (h1 := Led.Held.one) (n + 1) i2 w HS
  have e3 := row_rds (hl := Led.Last.len) (h1 := Led.Last.one) (n + 2) i3 w HS
  have e4 := (row_hi (hl := Led.Held.len) (h1 := Led.Held.one) HS (n + 1) i2).2
  subst hz
  have hgd := good_len (conf_good hg (d.s.si + k))
  have hhl : (ledAt d k).held.length ≤ 64 := hL.led.len
  have hll : (ledAt d k).last.length ≤ 7 := lastLen hL.led
  refine ⟨⟨e1, e2, e3, e4, ⟨by show 0 ≤ d.s.si + (k : Int); omega, by show d.s.si + (k : Int) < _; omega⟩, term_ln hk _, ⟨by have := hL.led.nxt1; show 0 ≤ (ledAt d k).nxt; omega, hL.hi⟩, hL.ser⟩, ⟨by show (confG d (d.s.si + k)).2.length * 8 ≤ _; omega, by show (ledAt d k).held.length * 40 ≤ _; omega, by show (ledAt d k).last.length * 48 ≤ _; omega⟩, at_shotOk hk hg hkn _ _ _ _ _ _, rfl, Prod.ext rfl (term_is hk hg hkn)⟩
theorem d2ok' {d d2 : Hrd} {s : Sht} {w wx wy w0 : World} {is : List HP} {S1 S2 S3 S4 S5 : Nat → Prop} (hk : d.ok wx) (hs : s.ok wy) (hb : d2.boot = d.boot) (ht : d2.term = d.term) (h : s.same d2.s) (hc : d2.s.held.length ≤ d2.s.hc) (HS : SH w0 w is) (n : Nat) (hi : (List.range 5).map (fun j => is[n + j]?) = (hrdI d2 S1 S2 S3 S4 S5).map some) : d2.ok w := by
  have hi' : [is[n]?, is[n + 1]?, is[n + 2]?, is[n + 3]?, is[n + 4]?] = (hrdI d2 S1 S2 S3 S4 S5).map some := hi
  simp only [hrdI, List.map_cons, List.map_nil, List.cons.injEq] at hi'
  obtain ⟨i1, i2, i3, i4, i5, _⟩ := hi'
  exact { s := { rn := (HS.at n i1).1, rh := (HS.at _ i2).1, rl := (HS.at _ i3).1, hc := hc, si := by rw [h.si]; exact hs.si, st := by rw [h.st]; exact hs.st, nxt := by rw [h.nxt]; exact hs.nxt, ser := by rw [h.last]; exact hs.ser }, rg := (HS.at _ i4).1, re := fun e he => (HS.at _ i5 e he).1, boot := by rw [hb]; exact hk.boot, term := by rw [ht]; exact hk.term }
theorem d2szd {d d2 : Hrd} {s : Sht} {k : Nat} (hz : d.szd) (hs : s.szd) (h : s.same d2.s) (hl : d2.log.map Ent.data = (d.log.drop k).map Ent.data) : d2.szd where
  s := ⟨by rw [h.nodes]; exact hs.n, by rw [h.held]; exact hs.h, by rw [h.last]; exact hs.l⟩
  g := by
    have := congrArg List.length hl
    rw [List.length_map, List.length_map, List.length_drop] at this
    have h2 := hz.g
    omega
  e := fun e he => by
    have h1 : e.data ∈ d2.log.map Ent.data := List.mem_map.2 ⟨e, he, rfl⟩
    rw [hl] at h1
    obtain ⟨e0, he0, h2⟩ := List.mem_map.1 h1
    have h3 := hz.e e0 (List.mem_of_mem_drop he0)
    have h4 : e0.nodes = e.nodes := by have := congrArg Ent.nodes h2; exact this
    rwa [h4] at h3
theorem at_err {d : Hrd} {w : World} (hk : d.ok w) {i : Int} {z : AtR} (hz : atG d i = z) (he : z.err = 0) : hardOk d = true ∧ ∃ k : Nat, k ≤ d.log.length ∧ i = d.s.si + k ∧ z = ⟨d.s.si + k, (termOf d (d.s.si + k)).1, (confG d (d.s.si + k)).2, ledAt d k, 0⟩ := by
  unfold atG at hz
  split at hz
  · subst hz; cases he
  · rename_i hg
    have hg' : hardOk d = true := by simpa using hg
    split at hz
    · subst hz; cases he
    · rename_i hb
      rw [(hardOk_last hk hg').1] at hb
      obtain ⟨k, hkl, rfl⟩ : ∃ k : Nat, k ≤ d.log.length ∧ i = d.s.si + k := ⟨(i - d.s.si).toNat, by omega, by omega⟩
      refine ⟨hg', k, hkl, rfl, ?_⟩
      rw [show (d.s.si + (k : Int) - d.s.si).toNat = k by omega] at hz
      exact hz.symm
set_option maxHeartbeats 12800000 in
set_option maxRecDepth 100000 in
theorem lawShots_any (d : Hrd) (i p : Int) (w : World) (hk : d.ok w) (hz : d.szd) (hcap : d.log.length ≤ d.gc) (hi : ln i) (hp : ln p) : Calls Try.prog 11 #[.agg #[.int .u64 d.boot, .int .u64 d.term, .int .i64 d.vote, .int .u64 d.s.si, .int .u64 d.s.st, .slice d.s.nA d.s.nodes.length d.s.nc, .int .i64 d.s.lim, .int .u64 d.s.nxt, .slice d.s.hA d.s.held.length d.s.hc, .slice d.s.lA d.s.last.length d.s.lc, .slice d.gA d.log.length d.gc], .int .u64 i, .int .u64 p] w (fun e w' => e = .returned (.bool true) ∧ Below w.heap.size w w') := by
  obtain ⟨z, hzr⟩ : ∃ z, atG d i = z := ⟨_, rfl⟩
  have HK := Aside0.mk hk
  have HZ := Aside0.mk hz
  have HAT := Aside0.mk (fun w1 (h : d.ok w1) => by
    have := at_any d i w1 h hz hcap hi
    rw [hzr] at this
    exact this)
  have HS := Aside0.mk (SH.start w)
  by_cases he : z.err = 0
  · obtain ⟨hg, k, hkn, rfl, hzz⟩ := at_err hk hzr he
    have hq : (z.err != 0) = false := by rw [he]; rfl
    have HG := Aside0.mk hg
    have HKN := Aside0.mk hkn
    have HZZ := Aside0.mk hzz
    obtain ⟨p2, hp2⟩ : ∃ p2, (if p < d.s.si + k then d.s.si + (k : Int) else p) = p2 := ⟨_, rfl⟩
    have HP2 := Aside0.mk hp2
    have hpl : ln p2 := by rw [← hp2]; split <;> assumption
    have hpk : d.s.si + k ≤ p2 := by rw [← hp2]; split <;> omega
    have HPK := Aside0.mk hpk
    have HPL := Aside0.mk hpl
    have HPP := Aside0.mk hp
    have HII := Aside0.mk hi
    obtain ⟨z2, hz2⟩ : ∃ z2, atG d p2 = z2 := ⟨_, rfl⟩
    have HZ2 := Aside0.mk hz2
    have HA2 := Aside0.mk (fun w1 (h : d.ok w1) => by
      have := at_any d p2 w1 h hz hcap hpl
      rw [hz2] at this
      exact this)
    obtain ⟨la, le, hlg⟩ : ∃ la le, lastG d = (la, le) := ⟨_, _, rfl⟩
    have HLG := Aside0.mk hlg
    have HLA := Aside0.mk (fun w1 (h : d.ok w1) => by
      have := Last_any d w1 h
      rw [hlg] at this
      exact this)
    have hl1 : (la != la) = false := by simp
    have hl2 : (le != le) = false := by simp
    have hez : (z2.err == z2.err) = true := beq_self_eq_true _
    clear hk hz hcap hi hp hzr he hg hkn hzz hp2 hpl hpk hz2 hlg
    go_enter Try.func11, Try.ntmps11
    go_upto_region 5 with (first | (go_at_call 17; (with_reducible refine (live_any _).mono ?_); rintro e w2 ⟨rfl, hb⟩;  have HS1 := HS.out.quiet hb; clear HS hb; have HS := Aside0.mk HS1; clear HS1) | (go_at_call 34; (with_reducible refine (HAT.out _ (HK.out.sh HS.out)).mono ?_); rintro e w2 ⟨A1, B1, C1, c1, c2, c3, S1, S2, S3, rfl, HS1⟩;  have HS2 := HS.out.call HS1; clear HS HS1; simp only [aC, aE] at HS2; have HS := Aside0.mk HS2; clear HS2) | ((fail_if_success (have _ := bh)); ((with_reducible refine gB rfl ?_); refine bx HS.out rfl rfl ?_; (first | refine bv (v := .agg (List.toArray _)) rfl ?_ | refine bv (v := .int _ _) rfl ?_ | refine bv (v := .slice _ _ _) rfl ?_ | refine bv (v := .bool _) rfl ?_ | refine bv (v := .pointer _) rfl ?_); clear HS; intro bh w1 hbh HS1; (simp only [Ent.enc, Led.Held.enc, Led.Last.enc, segOf, aL, aC, aE] at HS1); have HS := Aside0.mk HS1; clear HS1; try simp only [aP, aN, aT, aZ, aS])) | ((fail_if_success (have _ := b8)); ((with_reducible refine gA rfl ?_); refine sh_alloc HS.out rfl rfl (zeT _ (by decide)) ?_; clear HS; intro b8 w1 hb8 HS1; (simp only [Ent.enc, Led.Held.enc, Led.Last.enc, zeF, segOf, aL, aC, aE] at HS1); have HS := Aside0.mk HS1; clear HS1; try simp only [aP, aN, aT, aZ, aS])) | ((first | ((first | ((with_reducible refine gA rfl ?_); refine sh_alloc HS.out rfl rfl (zeT _ (by decide)) ?_) | ((with_reducible refine gB rfl ?_); refine bx HS.out rfl rfl ?_; first | refine bv (v := .agg (List.toArray _)) rfl ?_ | refine bv (v := .int _ _) rfl ?_ | refine bv (v := .slice _ _ _) rfl ?_ | refine bv (v := .bool _) rfl ?_ | refine bv (v := .pointer _) rfl ?_) | ((with_reducible refine gL rfl ?_); refine sh_lit HS.out rfl rfl (by go_simp; exact ⟨⟨rfl, rfl⟩, rfl⟩) ?_)); clear HS; intro g w1 hg HS1; (simp only [Ent.enc, Led.Held.enc, Led.Last.enc, zeF, segOf, aL, aC, aE] at HS1); have HS := Aside0.mk HS1; clear HS1) | ((with_reducible refine gLd rfl ?_); refine ld2 HS.out rfl rfl rfl (by repeat (first | exact AtI.here | apply AtI.there)) ?_; (first | refine LdK.one ((agT _ (by decide)).trans rfl) rfl ?_ | (refine LdK.agg ((agT _ (by decide)).trans rfl) (szT _ (by decide)) (lb rfl) ?_; try simp only [szL, aP, aN, aT, aZ, aS, aD, aF, aJ, aK, aM, aO]))) | ((with_reducible refine gSt rfl ?_); refine st2 HS.out rfl rfl rfl rfl (by repeat (first | exact AtI.here | apply AtI.there)) ?_; (first | refine sv (u := .agg (List.toArray _)) rfl ?_ | refine sv (u := .int _ _) rfl ?_ | refine sv (u := .slice _ _ _) rfl ?_ | refine sv (u := .bool _) rfl ?_ | refine sv (u := .pointer _) rfl ?_); refine sw (szT _ (by decide)) rfl (lb rfl) ?_; clear HS; intro w1 HS1; (simp only [Ent.enc, Led.Held.enc, Led.Last.enc, segOf, aL, aZ, aS, putSeg] at HS1); have HS := Aside0.mk HS1; clear HS1)); try simp only [aP, aN, aT, aZ, aS]))
    have HSQ := Aside0.mk (at_sht HK.out HG.out HKN.out HZZ.out HS.out 1 rfl rfl rfl)
    have HDO := Aside0.mk (do_shots d ⟨z.si, z.st, A1, c1, z.nodes, z.L.lim, z.L.nxt, B1, c2, z.L.held, C1, c3, z.L.last⟩ k _ (HK.out.sh HS.out) HZ.out HG.out HSQ.out.1 HSQ.out.2.1 HSQ.out.2.2.1 HSQ.out.2.2.2.1 HKN.out HSQ.out.2.2.2.2)
    go_upto_region 8 with (first | (go_at_call 33; (with_reducible refine (HDO.out).mono ?_); rintro e w2 ⟨d2, T1, T2, T3, T4, T5, rfl, hb2, ht2, hv2, hsm2, hlg2, hhc2, hgc2, HS1⟩; have HBT := Aside0.mk (And.intro hb2 (And.intro ht2 (And.intro hv2 (And.intro hsm2 (And.intro hlg2 (And.intro hhc2 hgc2)))))); clear hb2 ht2 hv2 hsm2 hlg2 hhc2 hgc2; unfold hrdI at HS1; have HS2 := HS.out.call HS1; clear HS HS1; simp only [aC, aE] at HS2; have HS := Aside0.mk HS2; clear HS2) | ((fail_if_success (have _ := b10)); ((with_reducible refine gA rfl ?_); refine sh_alloc HS.out rfl rfl (zeT _ (by decide)) ?_; clear HS; intro b10 w1 hb10 HS1; (simp only [Ent.enc, Led.Held.enc, Led.Last.enc, zeF, segOf, aL, aC, aE] at HS1); have HS := Aside0.mk HS1; clear HS1; try simp only [aP, aN, aT, aZ, aS])) | ((first | ((first | ((with_reducible refine gA rfl ?_); refine sh_alloc HS.out rfl rfl (zeT _ (by decide)) ?_) | ((with_reducible refine gB rfl ?_); refine bx HS.out rfl rfl ?_; first | refine bv (v := .agg (List.toArray _)) rfl ?_ | refine bv (v := .int _ _) rfl ?_ | refine bv (v := .slice _ _ _) rfl ?_ | refine bv (v := .bool _) rfl ?_ | refine bv (v := .pointer _) rfl ?_) | ((with_reducible refine gL rfl ?_); refine sh_lit HS.out rfl rfl (by go_simp; exact ⟨⟨rfl, rfl⟩, rfl⟩) ?_)); clear HS; intro g w1 hg HS1; (simp only [Ent.enc, Led.Held.enc, Led.Last.enc, zeF, segOf, aL, aC, aE] at HS1); have HS := Aside0.mk HS1; clear HS1) | ((with_reducible refine gLd rfl ?_); refine ld2 HS.out rfl rfl rfl (by repeat (first | exact AtI.here | apply AtI.there)) ?_; (first | refine LdK.one ((agT _ (by decide)).trans rfl) rfl ?_ | (refine LdK.agg ((agT _ (by decide)).trans rfl) (szT _ (by decide)) (lb rfl) ?_; try simp only [szL, aP, aN, aT, aZ, aS, aD, aF, aJ, aK, aM, aO]))) | ((with_reducible refine gSt rfl ?_); refine st2 HS.out rfl rfl rfl rfl (by repeat (first | exact AtI.here | apply AtI.there)) ?_; (first | refine sv (u := .agg (List.toArray _)) rfl ?_ | refine sv (u := .int _ _) rfl ?_ | refine sv (u := .slice _ _ _) rfl ?_ | refine sv (u := .bool _) rfl ?_ | refine sv (u := .pointer _) rfl ?_); refine sw (szT _ (by decide)) rfl (lb rfl) ?_; clear HS; intro w1 HS1; (simp only [Ent.enc, Led.Held.enc, Led.Last.enc, segOf, aL, aZ, aS, putSeg] at HS1); have HS := Aside0.mk HS1; clear HS1)); try simp only [aP, aN, aT, aZ, aS]))
    have hd2 : ∀ (wz : World) (isz : List HP), SH w wz isz → (List.range 5).map (fun j => isz[5 + j]?) = (hrdI d2 T1 T2 T3 T4 T5).map some → d2.ok wz := fun wz isz hs hi => d2ok' HK.out HSQ.out.1 HBT.out.1 HBT.out.2.1 HBT.out.2.2.2.1 HBT.out.2.2.2.2.2.1 hs 5 hi
    have HD2 := Aside0.mk hd2
    have HBE : Aside0 (Behind d d2 k) := ⟨by
      have hb := HBT.out
      have hzz := HZZ.out
      refine ⟨HKN.out, HG.out, hardOk_cut HK.out HG.out HSQ.out.2.2.1 HSQ.out.2.2.2.1 HKN.out HSQ.out.2.2.2.2 hb.1 hb.2.1 hb.2.2.1 hb.2.2.2.1 hb.2.2.2.2.1, ?_, ?_, ?_, ?_, hb.2.2.2.2.1⟩
      · rw [hb.2.2.2.1.si]; exact HSQ.out.2.2.2.1
      · rw [hb.2.2.2.1.st]; show z.st = _; rw [hzz]
      · rw [hb.2.2.2.1.nodes]; show z.nodes = _; rw [hzz]
      · rw [hb.2.2.2.1.lim, hb.2.2.2.1.nxt, hb.2.2.2.1.held, hb.2.2.2.1.last]; show z.L = _; rw [hzz]⟩
    have HL2 := Aside0.mk (fun w1 (h : d2.ok w1) => by
      have := Last_any d2 w1 h
      rw [HBE.out.lastG HK.out h, HLG.out] at this
      exact this)
    have HA3 := Aside0.mk (fun w1 (h : d2.ok w1) => by
      have := at_any d2 p2 w1 h (d2szd HZ.out HSQ.out.2.1 HBT.out.2.2.2.1 HBT.out.2.2.2.2.1) HBT.out.2.2.2.2.2.2 HPL.out
      rw [HBE.out.at' HK.out h HPK.out, HZ2.out] at this
      exact this)
    clear hd2
    go_upto_region 12 with (first | (go_at_call 15; (with_reducible refine (HLA.out _ (HK.out.sh HS.out)).mono ?_); rintro e w2 ⟨rfl, hb⟩;  have HS1 := HS.out.quiet hb; clear HS hb; have HS := Aside0.mk HS1; clear HS1) | (go_at_call 15; (with_reducible refine (HL2.out _ (HD2.out _ _ HS.out rfl)).mono ?_); rintro e w2 ⟨rfl, hb⟩;  have HS1 := HS.out.quiet hb; clear HS hb; have HS := Aside0.mk HS1; clear HS1) | ((first | ((first | ((with_reducible refine gA rfl ?_); refine sh_alloc HS.out rfl rfl (zeT _ (by decide)) ?_) | ((with_reducible refine gB rfl ?_); refine bx HS.out rfl rfl ?_; first | refine bv (v := .agg (List.toArray _)) rfl ?_ | refine bv (v := .int _ _) rfl ?_ | refine bv (v := .slice _ _ _) rfl ?_ | refine bv (v := .bool _) rfl ?_ | refine bv (v := .pointer _) rfl ?_) | ((with_reducible refine gL rfl ?_); refine sh_lit HS.out rfl rfl (by go_simp; exact ⟨⟨rfl, rfl⟩, rfl⟩) ?_)); clear HS; intro g w1 hg HS1; (simp only [Ent.enc, Led.Held.enc, Led.Last.enc, zeF, segOf, aL, aC, aE] at HS1); have HS := Aside0.mk HS1; clear HS1) | ((with_reducible refine gLd rfl ?_); refine ld2 HS.out rfl rfl rfl (by repeat (first | exact AtI.here | apply AtI.there)) ?_; (first | refine LdK.one ((agT _ (by decide)).trans rfl) rfl ?_ | (refine LdK.agg ((agT _ (by decide)).trans rfl) (szT _ (by decide)) (lb rfl) ?_; try simp only [szL, aP, aN, aT, aZ, aS, aD, aF, aJ, aK, aM, aO]))) | ((with_reducible refine gSt rfl ?_); refine st2 HS.out rfl rfl rfl rfl (by repeat (first | exact AtI.here | apply AtI.there)) ?_; (first | refine sv (u := .agg (List.toArray _)) rfl ?_ | refine sv (u := .int _ _) rfl ?_ | refine sv (u := .slice _ _ _) rfl ?_ | refine sv (u := .bool _) rfl ?_ | refine sv (u := .pointer _) rfl ?_); refine sw (szT _ (by decide)) rfl (lb rfl) ?_; clear HS; intro w1 HS1; (simp only [Ent.enc, Led.Held.enc, Led.Last.enc, segOf, aL, aZ, aS, putSeg] at HS1); have HS := Aside0.mk HS1; clear HS1)); try simp only [aP, aN, aT, aZ, aS]))
    cases hpc : decide (p < d.s.si + (k : Int))
    all_goals
      have hpe := HP2.out
      simp only [decide_eq_true_eq, decide_eq_false_iff_not] at hpc
      first | rw [if_pos hpc] at hpe | rw [if_neg hpc] at hpe
      subst hpe
      go_upto_region 16 with (first | ((fail_if_success (have _ := b16)); (go_at_call 34; (with_reducible refine (HA2.out _ (HK.out.sh HS.out)).mono ?_); rintro e w2 ⟨A2, B2, C2, c4, c5, c6, U1, U2, U3, rfl, HS1⟩;  have HS2 := HS.out.call HS1; clear HS HS1; simp only [aC, aE] at HS2; have HS := Aside0.mk HS2; clear HS2)) | (go_at_call 34; (with_reducible refine (HA3.out _ (HD2.out _ _ HS.out rfl)).mono ?_); rintro e w2 ⟨A3, B3, C3, c7, c8, c9, V1, V2, V3, rfl, HS1⟩;  have HS2 := HS.out.call HS1; clear HS HS1; simp only [aC, aE] at HS2; have HS := Aside0.mk HS2; clear HS2) | ((fail_if_success (have _ := b16)); ((with_reducible refine gA rfl ?_); refine sh_alloc HS.out rfl rfl (zeT _ (by decide)) ?_; clear HS; intro b16 w1 hb16 HS1; (simp only [Ent.enc, Led.Held.enc, Led.Last.enc, zeF, segOf, aL, aC, aE] at HS1); have HS := Aside0.mk HS1; clear HS1; try simp only [aP, aN, aT, aZ, aS])) | ((fail_if_success (have _ := b18)); ((with_reducible refine gA rfl ?_); refine sh_alloc HS.out rfl rfl (zeT _ (by decide)) ?_; clear HS; intro b18 w1 hb18 HS1; (simp only [Ent.enc, Led.Held.enc, Led.Last.enc, zeF, segOf, aL, aC, aE] at HS1); have HS := Aside0.mk HS1; clear HS1; try simp only [aP, aN, aT, aZ, aS])) | ((first | ((first | ((with_reducible refine gA rfl ?_); refine sh_alloc HS.out rfl rfl (zeT _ (by decide)) ?_) | ((with_reducible refine gB rfl ?_); refine bx HS.out rfl rfl ?_; first | refine bv (v := .agg (List.toArray _)) rfl ?_ | refine bv (v := .int _ _) rfl ?_ | refine bv (v := .slice _ _ _) rfl ?_ | refine bv (v := .bool _) rfl ?_ | refine bv (v := .pointer _) rfl ?_) | ((with_reducible refine gL rfl ?_); refine sh_lit HS.out rfl rfl (by go_simp; exact ⟨⟨rfl, rfl⟩, rfl⟩) ?_)); clear HS; intro g w1 hg HS1; (simp only [Ent.enc, Led.Held.enc, Led.Last.enc, zeF, segOf, aL, aC, aE] at HS1); have HS := Aside0.mk HS1; clear HS1) | ((with_reducible refine gLd rfl ?_); refine ld2 HS.out rfl rfl rfl (by repeat (first | exact AtI.here | apply AtI.there)) ?_; (first | refine LdK.one ((agT _ (by decide)).trans rfl) rfl ?_ | (refine LdK.agg ((agT _ (by decide)).trans rfl) (szT _ (by decide)) (lb rfl) ?_; try simp only [szL, aP, aN, aT, aZ, aS, aD, aF, aJ, aK, aM, aO]))) | ((with_reducible refine gSt rfl ?_); refine st2 HS.out rfl rfl rfl rfl (by repeat (first | exact AtI.here | apply AtI.there)) ?_; (first | refine sv (u := .agg (List.toArray _)) rfl ?_ | refine sv (u := .int _ _) rfl ?_ | refine sv (u := .slice _ _ _) rfl ?_ | refine sv (u := .bool _) rfl ?_ | refine sv (u := .pointer _) rfl ?_); refine sw (szT _ (by decide)) rfl (lb rfl) ?_; clear HS; intro w1 HS1; (simp only [Ent.enc, Led.Held.enc, Led.Last.enc, segOf, aL, aZ, aS, putSeg] at HS1); have HS := Aside0.mk HS1; clear HS1)); try simp only [aP, aN, aT, aZ, aS]))
      go_wp2_with (first | (go_at_call 36; (with_reducible refine (sameShtR z2.si z2.st z2.L.lim z2.L.nxt z2.nodes z2.L.held z2.L.last A2 B2 C2 A3 B3 C3 c4 c5 c6 c7 c8 c9 _ (row_rds (hl := ints_len .i64) (h1 := ints_one .i64) 11 rfl _ HS.out) (row_rds (hl := Led.Held.len) (h1 := Led.Held.one) 12 rfl _ HS.out) (row_rds (hl := Led.Last.len) (h1 := Led.Last.one) 13 rfl _ HS.out) (row_rds (hl := ints_len .i64) (h1 := ints_one .i64) 15 rfl _ HS.out) (row_rds (hl := Led.Held.len) (h1 := Led.Held.one) 16 rfl _ HS.out) (row_rds (hl := Led.Last.len) (h1 := Led.Last.one) 17 rfl _ HS.out)).mono ?_); rintro e w2 ⟨rfl, hb⟩;  have HS1 := HS.out.quiet hb; clear HS hb; have HS := Aside0.mk HS1; clear HS1) | ((first | ((first | ((with_reducible refine gA rfl ?_); refine sh_alloc HS.out rfl rfl (zeT _ (by decide)) ?_) | ((with_reducible refine gB rfl ?_); refine bx HS.out rfl rfl ?_; first | refine bv (v := .agg (List.toArray _)) rfl ?_ | refine bv (v := .int _ _) rfl ?_ | refine bv (v := .slice _ _ _) rfl ?_ | refine bv (v := .bool _) rfl ?_ | refine bv (v := .pointer _) rfl ?_) | ((with_reducible refine gL rfl ?_); refine sh_lit HS.out rfl rfl (by go_simp; exact ⟨⟨rfl, rfl⟩, rfl⟩) ?_)); clear HS; intro g w1 hg HS1; (simp only [Ent.enc, Led.Held.enc, Led.Last.enc, zeF, segOf, aL, aC, aE] at HS1); have HS := Aside0.mk HS1; clear HS1) | ((with_reducible refine gLd rfl ?_); refine ld2 HS.out rfl rfl rfl (by repeat (first | exact AtI.here | apply AtI.there)) ?_; (first | refine LdK.one ((agT _ (by decide)).trans rfl) rfl ?_ | (refine LdK.agg ((agT _ (by decide)).trans rfl) (szT _ (by decide)) (lb rfl) ?_; try simp only [szL, aP, aN, aT, aZ, aS, aD, aF, aJ, aK, aM, aO]))) | ((with_reducible refine gSt rfl ?_); refine st2 HS.out rfl rfl rfl rfl (by repeat (first | exact AtI.here | apply AtI.there)) ?_; (first | refine sv (u := .agg (List.toArray _)) rfl ?_ | refine sv (u := .int _ _) rfl ?_ | refine sv (u := .slice _ _ _) rfl ?_ | refine sv (u := .bool _) rfl ?_ | refine sv (u := .pointer _) rfl ?_); refine sw (szT _ (by decide)) rfl (lb rfl) ?_; clear HS; intro w1 HS1; (simp only [Ent.enc, Led.Held.enc, Led.Last.enc, segOf, aL, aZ, aS, putSeg] at HS1); have HS := Aside0.mk HS1; clear HS1)); try simp only [aP, aN, aT, aZ, aS]))
      go_ret
      exact ⟨rfl, HS.out.below⟩
  · have hq : (z.err != 0) = true := by rw [bne_iff_ne]; exact he
    clear hk hz hcap hi hp hzr he
    go_enter Try.func11, Try.ntmps11
    go_wp2_with (first | (go_at_call 17; (with_reducible refine (live_any _).mono ?_); rintro e w2 ⟨rfl, hb⟩;  have HS1 := HS.out.quiet hb; clear HS hb; have HS := Aside0.mk HS1; clear HS1) | (go_at_call 34; (with_reducible refine (HAT.out _ (HK.out.sh HS.out)).mono ?_); rintro e w2 ⟨A1, B1, C1, c1, c2, c3, S1, S2, S3, rfl, HS1⟩;  have HS2 := HS.out.call HS1; clear HS HS1; simp only [aC, aE] at HS2; have HS := Aside0.mk HS2; clear HS2) | ((first | ((first | ((with_reducible refine gA rfl ?_); refine sh_alloc HS.out rfl rfl (zeT _ (by decide)) ?_) | ((with_reducible refine gB rfl ?_); refine bx HS.out rfl rfl ?_; first | refine bv (v := .agg (List.toArray _)) rfl ?_ | refine bv (v := .int _ _) rfl ?_ | refine bv (v := .slice _ _ _) rfl ?_ | refine bv (v := .bool _) rfl ?_ | refine bv (v := .pointer _) rfl ?_) | ((with_reducible refine gL rfl ?_); refine sh_lit HS.out rfl rfl (by go_simp; exact ⟨⟨rfl, rfl⟩, rfl⟩) ?_)); clear HS; intro g w1 hg HS1; (simp only [Ent.enc, Led.Held.enc, Led.Last.enc, zeF, segOf, aL, aC, aE] at HS1); have HS := Aside0.mk HS1; clear HS1) | ((with_reducible refine gLd rfl ?_); refine ld2 HS.out rfl rfl rfl (by repeat (first | exact AtI.here | apply AtI.there)) ?_; (first | refine LdK.one ((agT _ (by decide)).trans rfl) rfl ?_ | (refine LdK.agg ((agT _ (by decide)).trans rfl) (szT _ (by decide)) (lb rfl) ?_; try simp only [szL, aP, aN, aT, aZ, aS, aD, aF, aJ, aK, aM, aO]))) | ((with_reducible refine gSt rfl ?_); refine st2 HS.out rfl rfl rfl rfl (by repeat (first | exact AtI.here | apply AtI.there)) ?_; (first | refine sv (u := .agg (List.toArray _)) rfl ?_ | refine sv (u := .int _ _) rfl ?_ | refine sv (u := .slice _ _ _) rfl ?_ | refine sv (u := .bool _) rfl ?_ | refine sv (u := .pointer _) rfl ?_); refine sw (szT _ (by decide)) rfl (lb rfl) ?_; clear HS; intro w1 HS1; (simp only [Ent.enc, Led.Held.enc, Led.Last.enc, segOf, aL, aZ, aS, putSeg] at HS1); have HS := Aside0.mk HS1; clear HS1)); try simp only [aP, aN, aT, aZ, aS]))
    go_ret
    exact ⟨rfl, HS.out.below⟩
namespace LawShots
theorem walk (W : World) (cs0 : List Value) (x0 : hardS.D) (hk0 : hardS.kd.K W x0 cs0) (hw0 : hardS.wf x0) (hz0 : hardS.sized Try.prog x0) (cs1 : List Value) (x1 : (Sh.int .u64).D) (hk1 : (Sh.int .u64).kd.K W x1 cs1) (hw1 : (Sh.int .u64).wf x1) (hz1 : (Sh.int .u64).sized Try.prog x1) (cs2 : List Value) (x2 : (Sh.int .u64).D) (hk2 : (Sh.int .u64).kd.K W x2 cs2) (hw2 : (Sh.int .u64).wf x2) (hz2 : (Sh.int .u64).sized Try.prog x2) :
    Calls Try.prog 11 #[hardS.val cs0, (Sh.int .u64).val cs1, (Sh.int .u64).val cs2] W fun e W' => e = .returned (.bool true) ∧ Below W.heap.size W W' := by
  obtain ⟨d, rfl, hd, hz, hc⟩ := hardS_openC hk0 hw0 hz0
  obtain rfl : cs1 = [.int .u64 x1] := hk1
  obtain rfl : cs2 = [.int .u64 x2] := hk2
  exact lawShots_any d x1 x2 W hd hz hc (ln_of hw1) (ln_of hw2)
end LawShots
end Go.Proofs.Ytekjihmepdhmeaa.Rlo
