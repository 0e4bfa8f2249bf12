import Derived.Test.YtekjihmepdhmeaaRlpOj
/- Lemmas towards the law: what of the text RlpP it needs. -/
namespace Go.Proofs.Ytekjihmepdhmeaa.Rlo
open Go.RowKit Go.Proofs.YtekjihmepdhmeaaW.PrintWords Go.Proofs.Ytekjihmepdhmeaa.Sl
set_option linter.unusedVariables false
set_option linter.unusedSimpArgs false
theorem logGo_le {t : Int} : ∀ (l : List Ent) (p : Int), logGo t l p = true → p ≤ t
  | [], p, h => by simpa [logGo] using h
  | x :: xs, p, h => by
    rw [logGo] at h
    simp only [Bool.and_eq_true, decide_eq_true_eq] at h
    have := logGo_le xs x.term h.2
    omega
theorem logGo_take {t : Int} : ∀ (l : List Ent) (p : Int) (k : Nat), logGo t l p = true → logGo t (l.take k) p = true
  | l, p, 0, h => by
    have := logGo_le l p h
    simpa [logGo] using this
  | [], p, k + 1, h => by simpa using h
  | x :: xs, p, k + 1, h => by
    rw [List.take_succ_cons]
    rw [logGo] at h ⊢
    simp only [Bool.and_eq_true] at h ⊢
    exact ⟨h.1, logGo_take xs x.term k h.2⟩
theorem hardOk_take {d d2 : Hrd} {w : World} {k : Nat} (hk : d.ok w) (hg : hardOk d = true) (hkn : k ≤ d.log.length)
    (h1 : d2.boot = d.boot) (h2 : d2.term = d.term) (h3 : d2.vote = d.vote) (h4 : d.s.same d2.s) (h5 : d2.log.map Ent.data = (d.log.take k).map Ent.data) : hardOk d2 = true := by
  obtain ⟨hl, hl2⟩ := hardOk_last hk hg
  have hlen : d2.log.length = k := by
    have := congrArg List.length h5
    rw [List.length_map, List.length_map, List.length_take] at this
    omega
  have hlo : lastOf d2 = d.s.si + k := by
    unfold lastOf
    rw [h4.si, hlen]
    exact IntWalk.u64_in _ (by have := hk.s.si.1; omega)
  unfold hardOk at hg ⊢
  rw [Bool.and_eq_true] at hg ⊢
  obtain ⟨ha, hb⟩ := hg
  refine ⟨?_, ?_⟩
  · have hso : shotOk d2.s = shotOk d.s := by
      unfold shotOk
      rw [h4.si, h4.st, h4.nodes, h4.lim, h4.nxt, h4.held, h4.last]
    unfold headOk at ha ⊢
    rw [hso, h1, h2, h3, hlo, h4.si]
    rw [hl] at ha
    simp only [Bool.and_eq_true, decide_eq_true_eq] at ha ⊢
    refine ⟨⟨⟨⟨⟨⟨ha.1.1.1.1.1.1, ha.1.1.1.1.1.2⟩, ha.1.1.1.1.2⟩, by have := ha.1.1.1.2; omega⟩, ha.1.1.2⟩, ha.1.2⟩, ha.2⟩
  · rw [h2, h4.st, logGo_data _ _ _ _ h5]
    exact logGo_take _ _ _ hb
/-- whether an entry may come behind the log -/
def okAdd (d : Hrd) (x : Ent) : Bool := hardOk { d with log := d.log ++ [x] }
def DoCut (d : Hrd) (k : Nat) (w : World) (e : Ending) (w' : World) : Prop := ∃ (d2 : Hrd) (S1 S2 S3 S4 S5 : Nat → Prop), e = .returned (.tuple #[.agg #[.int .u64 d2.boot, .int .u64 d2.term, .int .i64 d2.vote, .int .u64 d2.s.si, .int .u64 d2.s.st, .slice d2.s.nA d2.s.nodes.length d2.s.nc, .int .i64 d2.s.lim, .int .u64 d2.s.nxt, .slice d2.s.hA d2.s.held.length d2.s.hc, .slice d2.s.lA d2.s.last.length d2.s.lc, .slice d2.gA d2.log.length d2.gc], .int .i64 0]) ∧ d2.boot = d.boot ∧ d2.term = d.term ∧ d2.vote = d.vote ∧ d.s.same d2.s ∧ d2.log.map Ent.data = (d.log.take k).map Ent.data ∧ d2.s.held.length ≤ d2.s.hc ∧ d2.log.length ≤ d2.gc ∧ SH w w' (hrdI d2 S1 S2 S3 S4 S5)
theorem doCut_mk {d : Hrd} {k : Nat} {w : World} {e : Ending} {w' : World} (h : ∃ (d2 : Hrd) (S1 S2 S3 S4 S5 : Nat → Prop), e = .returned (.tuple #[.agg #[.int .u64 d2.boot, .int .u64 d2.term, .int .i64 d2.vote, .int .u64 d2.s.si, .int .u64 d2.s.st, .slice d2.s.nA d2.s.nodes.length d2.s.nc, .int .i64 d2.s.lim, .int .u64 d2.s.nxt, .slice d2.s.hA d2.s.held.length d2.s.hc, .slice d2.s.lA d2.s.last.length d2.s.lc, .slice d2.gA d2.log.length d2.gc], .int .i64 0]) ∧ d2.boot = d.boot ∧ d2.term = d.term ∧ d2.vote = d.vote ∧ d.s.same d2.s ∧ d2.log.map Ent.data = (d.log.take k).map Ent.data ∧ d2.s.held.length ≤ d2.s.hc ∧ d2.log.length ≤ d2.gc ∧ SH w w' (hrdI d2 S1 S2 S3 S4 S5)) : DoCut d k w e w' := h
def DoAdd (d : Hrd) (x : Ent) (w : World) (e : Ending) (w' : World) : Prop := (okAdd d x = true ∧ ∃ (d2 : Hrd) (S1 S2 S3 S4 S5 : Nat → Prop), e = .returned (.tuple #[.agg #[.int .u64 d2.boot, .int .u64 d2.term, .int .i64 d2.vote, .int .u64 d2.s.si, .int .u64 d2.s.st, .slice d2.s.nA d2.s.nodes.length d2.s.nc, .int .i64 d2.s.lim, .int .u64 d2.s.nxt, .slice d2.s.hA d2.s.held.length d2.s.hc, .slice d2.s.lA d2.s.last.length d2.s.lc, .slice d2.gA d2.log.length d2.gc], .int .i64 0]) ∧ d2.boot = d.boot ∧ d2.term = d.term ∧ d2.vote = d.vote ∧ d.s.same d2.s ∧ d2.log.map Ent.data = (d.log ++ [x]).map Ent.data ∧ d2.s.held.length ≤ d2.s.hc ∧ d2.log.length ≤ d2.gc ∧ SH w w' (hrdI d2 S1 S2 S3 S4 S5)) ∨ (okAdd d x = false ∧ e = .returned (.tuple #[.agg #[.int .u64 0, .int .u64 0, .int .i64 0, .int .u64 0, .int .u64 0, .slice none 0 0, .int .i64 0, .int .u64 0, .slice none 0 0, .slice none 0 0, .slice none 0 0], .int .i64 130]) ∧ Below w.heap.size w w')
theorem doAdd_mk {d : Hrd} {x : Ent} {w : World} {e : Ending} {w' : World} (h : (okAdd d x = true ∧ ∃ (d2 : Hrd) (S1 S2 S3 S4 S5 : Nat → Prop), e = .returned (.tuple #[.agg #[.int .u64 d2.boot, .int .u64 d2.term, .int .i64 d2.vote, .int .u64 d2.s.si, .int .u64 d2.s.st, .slice d2.s.nA d2.s.nodes.length d2.s.nc, .int .i64 d2.s.lim, .int .u64 d2.s.nxt, .slice d2.s.hA d2.s.held.length d2.s.hc, .slice d2.s.lA d2.s.last.length d2.s.lc, .slice d2.gA d2.log.length d2.gc], .int .i64 0]) ∧ d2.boot = d.boot ∧ d2.term = d.term ∧ d2.vote = d.vote ∧ d.s.same d2.s ∧ d2.log.map Ent.data = (d.log ++ [x]).map Ent.data ∧ d2.s.held.length ≤ d2.s.hc ∧ d2.log.length ≤ d2.gc ∧ SH w w' (hrdI d2 S1 S2 S3 S4 S5)) ∨ (okAdd d x = false ∧ e = .returned (.tuple #[.agg #[.int .u64 0, .int .u64 0, .int .i64 0, .int .u64 0, .int .u64 0, .slice none 0 0, .int .i64 0, .int .u64 0, .slice none 0 0, .slice none 0 0, .slice none 0 0], .int .i64 130]) ∧ Below w.heap.size w w')) : DoAdd d x w e w' := h
theorem d1ok {d d1 : Hrd} {w wx : World} {A : Option Addr} {c : Nat} {L : List Ent} (h : d.same d1) (hk : d.ok wx) (hc : d1.s.held.length ≤ d1.s.hc) (r1 : Rd (ints .i64) 1 w d1.s.nA d1.s.nodes.length d1.s.nodes) (r2 : Rd Led.Held.enc 5 w d1.s.hA d1.s.held.length d1.s.held) (r3 : Rd Led.Last.enc 6 w d1.s.lA d1.s.last.length d1.s.last) (r4 : Rd Ent.enc 9 w A L.length L) (r5 : ∀ e ∈ L, e.ok w) : Hrd.ok w ⟨d1.boot, d1.term, d1.vote, d1.s, A, c, L⟩ where
  s := { rn := r1, rh := r2, rl := r3, hc := hc, si := by rw [h.s.si]; exact hk.s.si, st := by rw [h.s.st]; exact hk.s.st, nxt := by rw [h.s.nxt]; exact hk.s.nxt, ser := by rw [h.s.last]; exact hk.s.ser }
  rg := r4
  re := r5
  boot := by show ln d1.boot; rw [h.boot]; exact hk.boot
  term := by show ln d1.term; rw [h.term]; exact hk.term
set_option maxHeartbeats 6400000 in
set_option maxRecDepth 100000 in
theorem do_cut (d : Hrd) (k : Nat) (ix : Int) (w : World) (hk : d.ok w) (hz : d.szd) (hg : hardOk d = true) (hkn : k ≤ d.log.length) (hix : ix = d.s.si + k + 1) :
    Calls Try.prog 33 #[.agg #[.int .u64 d.boot, .int .u64 d.term, .int .i64 d.vote, .int .u64 d.s.si, .int .u64 d.s.st, .slice d.s.nA d.s.nodes.length d.s.nc, .int .i64 d.s.lim, .int .u64 d.s.nxt, .slice d.s.hA d.s.held.length d.s.hc, .slice d.s.lA d.s.last.length d.s.lc, .slice d.gA d.log.length d.gc], .agg #[.int .i64 4, .int .i64 0, .int .u64 0, .int .u64 0, .int .u64 ix, .int .u64 0, .int .i64 0, .int .i64 0, .int .i64 0, .slice none 0 0, .int .u64 0, .int .u64 0, .int .u64 0, .int .u64 0, .int .u64 0, .int .u64 0, .slice none 0 0, .int .i64 0, .int .u64 0, .slice none 0 0, .slice none 0 0]] w (DoCut d k w) := by
  have HK := Aside0.mk hk
  have HZ := Aside0.mk hz
  have HG := Aside0.mk hg
  have hgs : shotOk d.s = true := by
    unfold hardOk headOk at hg
    simp only [Bool.and_eq_true] at hg
    exact hg.1.1.1.1.1.1.2
  obtain ⟨hh1, hh2⟩ := led_le hgs
  have HCK := Aside0.mk (fun w1 (h : d.ok w1) => by
    have := hardCk_any d w1 h
    rw [HG.out, if_pos rfl] at this
    exact this)
  have HI := Aside0.mk hix
  have HKN := Aside0.mk hkn
  have h0 := hk.s.si.1
  have HMY := Aside0.mk (fun w1 => may_cut ix w1 (by omega))
  clear hk hz hg hkn hix hgs
  have HS := Aside0.mk (SH.start w)
  go_enter Try.func33, Try.ntmps33
  go_upto_region 1 with (first | ((fail_if_success (have _ := b2)); ((with_reducible refine gB rfl ?_); refine bx HS.out rfl rfl ?_; (first | refine bv (v := .agg (List.toArray _)) rfl ?_ | refine bv (v := .int _ _) rfl ?_ | refine bv (v := .slice _ _ _) rfl ?_ | refine bv (v := .bool _) rfl ?_ | refine bv (v := .pointer _) rfl ?_); clear HS; intro b2 w1 hb2 HS1; (simp only [Ent.enc, Led.Held.enc, Led.Last.enc, segOf, aL, aC, aE] at HS1); have HS := Aside0.mk HS1; clear HS1; try simp only [aP, aN, aT, aZ, aS])) | ((fail_if_success (have _ := b3)); ((with_reducible refine gB rfl ?_); refine bx HS.out rfl rfl ?_; (first | refine bv (v := .agg (List.toArray _)) rfl ?_ | refine bv (v := .int _ _) rfl ?_ | refine bv (v := .slice _ _ _) rfl ?_ | refine bv (v := .bool _) rfl ?_ | refine bv (v := .pointer _) rfl ?_); clear HS; intro b3 w1 hb3 HS1; (simp only [Ent.enc, Led.Held.enc, Led.Last.enc, segOf, aL, aC, aE] at HS1); have HS := Aside0.mk HS1; clear HS1; try simp only [aP, aN, aT, aZ, aS])) | ((fail_if_success (have _ := b4)); ((with_reducible refine gA rfl ?_); refine sh_alloc HS.out rfl rfl (zeT _ (by decide)) ?_; clear HS; intro b4 w1 hb4 HS1; (simp only [Ent.enc, Led.Held.enc, Led.Last.enc, zeF, segOf, aL, aC, aE] at HS1); have HS := Aside0.mk HS1; clear HS1; try simp only [aP, aN, aT, aZ, aS])) | ((first | ((first | ((with_reducible refine gA rfl ?_); refine sh_alloc HS.out rfl rfl (zeT _ (by decide)) ?_) | ((with_reducible refine gB rfl ?_); refine bx HS.out rfl rfl ?_; first | refine bv (v := .agg (List.toArray _)) rfl ?_ | refine bv (v := .int _ _) rfl ?_ | refine bv (v := .slice _ _ _) rfl ?_ | refine bv (v := .bool _) rfl ?_ | refine bv (v := .pointer _) rfl ?_) | ((with_reducible refine gL rfl ?_); refine sh_lit HS.out rfl rfl (by go_simp; exact ⟨⟨rfl, rfl⟩, rfl⟩) ?_)); clear HS; intro g w1 hg HS1; (simp only [Ent.enc, Led.Held.enc, Led.Last.enc, zeF, segOf, aL, aC, aE] at HS1); have HS := Aside0.mk HS1; clear HS1) | ((with_reducible refine gLd rfl ?_); refine ld2 HS.out rfl rfl rfl (by repeat (first | exact AtI.here | apply AtI.there)) ?_; (first | refine LdK.one ((agT _ (by decide)).trans rfl) rfl ?_ | (refine LdK.agg ((agT _ (by decide)).trans rfl) (szT _ (by decide)) (lb rfl) ?_; try simp only [szL, aP, aN, aT, aZ, aS, aD, aF, aJ, aK, aM, aO]))) | ((with_reducible refine gSt rfl ?_); refine st2 HS.out rfl rfl rfl rfl (by repeat (first | exact AtI.here | apply AtI.there)) ?_; (first | refine sv (u := .agg (List.toArray _)) rfl ?_ | refine sv (u := .int _ _) rfl ?_ | refine sv (u := .slice _ _ _) rfl ?_ | refine sv (u := .bool _) rfl ?_ | refine sv (u := .pointer _) rfl ?_); refine sw (szT _ (by decide)) rfl (lb rfl) ?_; clear HS; intro w1 HS1; (simp only [Ent.enc, Led.Held.enc, Led.Last.enc, segOf, aL, aZ, aS, putSeg] at HS1); have HS := Aside0.mk HS1; clear HS1)); try simp only [aP, aN, aT, aZ, aS]))
  go_upto_region 4 with (first | (go_at_call 32; (with_reducible refine (HCK.out _ (HK.out.sh HS.out)).mono ?_); rintro e w2 ⟨rfl, hb⟩;  have HS1 := HS.out.quiet hb; clear HS hb; have HS := Aside0.mk HS1; clear HS1) | (go_at_call 54; (with_reducible refine (HMY.out _).mono ?_); rintro e w2 ⟨rfl, hb⟩;  have HS1 := HS.out.quiet hb; clear HS hb; have HS := Aside0.mk HS1; clear HS1) | (go_at_call 55; (with_reducible refine (clone2_any d _ (HK.out.sh HS.out) HZ.out hh1 hh2).mono ?_); rintro e w2 ⟨d1, S1, S2, S3, S4, S5, rfl, hsm, hhc, hgc, HS1⟩; have HSM := Aside0.mk hsm; have HHC := Aside0.mk hhc; have HGC := Aside0.mk hgc; clear hsm hhc hgc; have HS2 := HS.out.call HS1; clear HS HS1; simp only [aC, aE] at HS2; have HS := Aside0.mk HS2; clear HS2) | ((first | ((first | ((with_reducible refine gA rfl ?_); refine sh_alloc HS.out rfl rfl (zeT _ (by decide)) ?_) | ((with_reducible refine gB rfl ?_); refine bx HS.out rfl rfl ?_; first | refine bv (v := .agg (List.toArray _)) rfl ?_ | refine bv (v := .int _ _) rfl ?_ | refine bv (v := .slice _ _ _) rfl ?_ | refine bv (v := .bool _) rfl ?_ | refine bv (v := .pointer _) rfl ?_) | ((with_reducible refine gL rfl ?_); refine sh_lit HS.out rfl rfl (by go_simp; exact ⟨⟨rfl, rfl⟩, rfl⟩) ?_)); clear HS; intro g w1 hg HS1; (simp only [Ent.enc, Led.Held.enc, Led.Last.enc, zeF, segOf, aL, aC, aE] at HS1); have HS := Aside0.mk HS1; clear HS1) | ((with_reducible refine gLd rfl ?_); refine ld2 HS.out rfl rfl rfl (by repeat (first | exact AtI.here | apply AtI.there)) ?_; (first | refine LdK.one ((agT _ (by decide)).trans rfl) rfl ?_ | (refine LdK.agg ((agT _ (by decide)).trans rfl) (szT _ (by decide)) (lb rfl) ?_; try simp only [szL, aP, aN, aT, aZ, aS, aD, aF, aJ, aK, aM, aO]))) | ((with_reducible refine gSt rfl ?_); refine st2 HS.out rfl rfl rfl rfl (by repeat (first | exact AtI.here | apply AtI.there)) ?_; (first | refine sv (u := .agg (List.toArray _)) rfl ?_ | refine sv (u := .int _ _) rfl ?_ | refine sv (u := .slice _ _ _) rfl ?_ | refine sv (u := .bool _) rfl ?_ | refine sv (u := .pointer _) rfl ?_); refine sw (szT _ (by decide)) rfl (lb rfl) ?_; clear HS; intro w1 HS1; (simp only [Ent.enc, Led.Held.enc, Led.Last.enc, segOf, aL, aZ, aS, putSeg] at HS1); have HS := Aside0.mk HS1; clear HS1)); try simp only [aP, aN, aT, aZ, aS]))
  have hlen1 : d1.log.length = d.log.length := same_len HSM.out
  have hg1 := (same_hardOk HSM.out).trans HG.out
  have hi1 : ix = d1.s.si + k + 1 := by rw [HSM.out.s.si]; exact HI.out
  have hk1 : k ≤ d1.log.length := by rw [hlen1]; exact HKN.out
  have HKD1 := Aside0.mk (rows_ok (w := _) (S1 := S1) (S2 := S2) (S3 := S3) (S4 := S4) (S5 := S5) HSM.out HK.out HHC.out (fun i hi => by obtain ⟨n, hn⟩ := List.getElem?_of_mem hi; exact ((HS.out.pick [3, 4, 5, 6, 7] rfl (by decide)).each n i hn).1))
  have HCO := Aside0.mk (fun (w1 : World) (F : HP) (hF : ∀ w, F.ok w → d1.ok w) (h : SH w w1 [blk b2 [.int .u64 d1.boot, .int .u64 d1.term, .int .i64 d1.vote, .int .u64 d1.s.si, .int .u64 d1.s.st, .slice d1.s.nA d1.s.nodes.length d1.s.nc, .int .i64 d1.s.lim, .int .u64 d1.s.nxt, .slice d1.s.hA d1.s.held.length d1.s.hc, .slice d1.s.lA d1.s.last.length d1.s.lc, .slice d1.gA d1.log.length d1.gc] 32, F]) => come_cut d1 k b2 ix w1 h hF hg1 hk1 HGC.out hi1)
  have HF := Aside0.mk (fun (w1 : World) (i1 i2 : HP) (h : (allI [i1, i2, row (intK .i64) 3 (.slice d1.s.nA d1.s.nodes.length d1.s.nc) d1.s.nodes S1, row Led.heldK 72 (.slice d1.s.hA d1.s.held.length d1.s.hc) d1.s.held S2, row Led.lastK 76 (.slice d1.s.lA d1.s.last.length d1.s.lc) d1.s.last S3, row entK 52 (.slice d1.gA d1.log.length d1.gc) d1.log S4, nodesI d1.log S5]).ok w1) => rows_ok (w := w1) (S1 := S1) (S2 := S2) (S3 := S3) (S4 := S4) (S5 := S5) HSM.out HK.out HHC.out (fun i hi => h.1 i (List.mem_cons_of_mem _ (List.mem_cons_of_mem _ hi))))
  have HK1 := Aside0.mk hk1
  obtain ⟨L2, hL2⟩ : ∃ L2, d1.log.take k = L2 := ⟨_, rfl⟩
  have HL2 := Aside0.mk hL2
  have hd2 : k = L2.length := by rw [← hL2, List.length_take]; omega
  have HD2 := Aside0.mk hd2
  have HBT := Aside0.mk (@hardOk_take d1 ⟨d1.boot, d1.term, d1.vote, d1.s, cutA d1.gA d1.gc 0, d1.gc, L2⟩ _ k HKD1.out hg1 hk1 rfl rfl rfl ⟨rfl, rfl, rfl, rfl, rfl, rfl, rfl⟩ (by rw [← hL2]))
  clear hlen1 hg1 hi1 hk1 hL2 hd2
  go_upto_region 6 with (first | (go_at_call 56; (with_reducible refine (HCO.out _ _ (fun w1 h => HF.out w1 _ _ h) (SH.pack (is := [_]) [_, _, _, _, _, _, _] (HS.out.pick [0, 1, 2, 3, 4, 5, 6, 7] rfl (by decide)))).mono ?_); rintro e w2 ⟨rfl, HS2⟩; have HS3 := ((((((show SH w w2 [_, _, _, _, _, _, _, _] from SH.unpack (is := [_]) [_, _, _, _, _, _, _] HS2).toRd (hl := ints_len .i64) (h1 := ints_one .i64) 3 rfl).toRd (hl := Led.Held.len) (h1 := Led.Held.one) 4 rfl).toRd (hl := Led.Last.len) (h1 := Led.Last.one) 5 rfl).say 6 (i' := rdI Ent.enc 9 (cutA d1.gA d1.gc 0) k (d1.log.take k) S4) rfl (fun h => ⟨take_rd (rowok_rd (hl := Ent.len) (h1 := Ent.one) h).1 HK1.out HGC.out, cutA_in (rowok_rd (hl := Ent.len) (h1 := Ent.one) h).2.1⟩) (fun b hb => hb)).say 7 (i' := nodesI (d1.log.take k) S5) rfl (fun h e he => h e (List.mem_of_mem_take he)) (fun b hb => hb)); rw [HL2.out, HD2.out] at HS3; simp only [aZ, aS] at HS3; clear HS HS2; have HS := Aside0.mk HS3; clear HS3; have HC2 := Aside0.mk (hardCk_any (⟨d1.boot, d1.term, d1.vote, d1.s, cutA d1.gA d1.gc 0, d1.gc, L2⟩) _ (d1ok HSM.out HK.out HHC.out (HS.out.at 3 rfl).1 (HS.out.at 4 rfl).1 (HS.out.at 5 rfl).1 (HS.out.at 6 rfl).1 (fun e he => (HS.out.at 7 rfl e he).1))); rw [HBT.out, if_pos rfl] at HC2) | (go_at_call 32; (with_reducible refine (HC2.out).mono ?_); rintro e w2 ⟨rfl, hb⟩;  have HS1 := HS.out.quiet hb; clear HS hb; have HS := Aside0.mk HS1; clear HS1) | ((first | ((first | ((with_reducible refine gA rfl ?_); refine sh_alloc HS.out rfl rfl (zeT _ (by decide)) ?_) | ((with_reducible refine gB rfl ?_); refine bx HS.out rfl rfl ?_; first | refine bv (v := .agg (List.toArray _)) rfl ?_ | refine bv (v := .int _ _) rfl ?_ | refine bv (v := .slice _ _ _) rfl ?_ | refine bv (v := .bool _) rfl ?_ | refine bv (v := .pointer _) rfl ?_) | ((with_reducible refine gL rfl ?_); refine sh_lit HS.out rfl rfl (by go_simp; exact ⟨⟨rfl, rfl⟩, rfl⟩) ?_)); clear HS; intro g w1 hg HS1; (simp only [Ent.enc, Led.Held.enc, Led.Last.enc, zeF, segOf, aL, aC, aE] at HS1); have HS := Aside0.mk HS1; clear HS1) | ((with_reducible refine gLd rfl ?_); refine ld2 HS.out rfl rfl rfl (by repeat (first | exact AtI.here | apply AtI.there)) ?_; (first | refine LdK.one ((agT _ (by decide)).trans rfl) rfl ?_ | (refine LdK.agg ((agT _ (by decide)).trans rfl) (szT _ (by decide)) (lb rfl) ?_; try simp only [szL, aP, aN, aT, aZ, aS, aD, aF, aJ, aK, aM, aO]))) | ((with_reducible refine gSt rfl ?_); refine st2 HS.out rfl rfl rfl rfl (by repeat (first | exact AtI.here | apply AtI.there)) ?_; (first | refine sv (u := .agg (List.toArray _)) rfl ?_ | refine sv (u := .int _ _) rfl ?_ | refine sv (u := .slice _ _ _) rfl ?_ | refine sv (u := .bool _) rfl ?_ | refine sv (u := .pointer _) rfl ?_); refine sw (szT _ (by decide)) rfl (lb rfl) ?_; clear HS; intro w1 HS1; (simp only [Ent.enc, Led.Held.enc, Led.Last.enc, segOf, aL, aZ, aS, putSeg] at HS1); have HS := Aside0.mk HS1; clear HS1)); try simp only [aP, aN, aT, aZ, aS]))
  go_wp2_with (first | ((first | ((first | ((with_reducible refine gA rfl ?_); refine sh_alloc HS.out rfl rfl (zeT _ (by decide)) ?_) | ((with_reducible refine gB rfl ?_); refine bx HS.out rfl rfl ?_; first | refine bv (v := .agg (List.toArray _)) rfl ?_ | refine bv (v := .int _ _) rfl ?_ | refine bv (v := .slice _ _ _) rfl ?_ | refine bv (v := .bool _) rfl ?_ | refine bv (v := .pointer _) rfl ?_) | ((with_reducible refine gL rfl ?_); refine sh_lit HS.out rfl rfl (by go_simp; exact ⟨⟨rfl, rfl⟩, rfl⟩) ?_)); clear HS; intro g w1 hg HS1; (simp only [Ent.enc, Led.Held.enc, Led.Last.enc, zeF, segOf, aL, aC, aE] at HS1); have HS := Aside0.mk HS1; clear HS1) | ((with_reducible refine gLd rfl ?_); refine ld2 HS.out rfl rfl rfl (by repeat (first | exact AtI.here | apply AtI.there)) ?_; (first | refine LdK.one ((agT _ (by decide)).trans rfl) rfl ?_ | (refine LdK.agg ((agT _ (by decide)).trans rfl) (szT _ (by decide)) (lb rfl) ?_; try simp only [szL, aP, aN, aT, aZ, aS, aD, aF, aJ, aK, aM, aO]))) | ((with_reducible refine gSt rfl ?_); refine st2 HS.out rfl rfl rfl rfl (by repeat (first | exact AtI.here | apply AtI.there)) ?_; (first | refine sv (u := .agg (List.toArray _)) rfl ?_ | refine sv (u := .int _ _) rfl ?_ | refine sv (u := .slice _ _ _) rfl ?_ | refine sv (u := .bool _) rfl ?_ | refine sv (u := .pointer _) rfl ?_); refine sw (szT _ (by decide)) rfl (lb rfl) ?_; clear HS; intro w1 HS1; (simp only [Ent.enc, Led.Held.enc, Led.Last.enc, segOf, aL, aZ, aS, putSeg] at HS1); have HS := Aside0.mk HS1; clear HS1)); try simp only [aP, aN, aT, aZ, aS]))
  refine bodyPost_ret (results_list (rs := [.cell 4 32, .tmp 5]) rfl (by simp) (.cell _ _ _ _ _ rfl (HS.out.blk 2 rfl) Try.underlying32 rfl ((szT _ (by decide)).trans rfl) (.tmp .nil))) rfl ?_
  exact doCut_mk ⟨⟨d1.boot, d1.term, d1.vote, d1.s, cutA d1.gA d1.gc 0, d1.gc, L2⟩, S1, S2, S3, S4, S5, rfl, HSM.out.boot, HSM.out.term, HSM.out.vote, HSM.out.s, by show L2.map Ent.data = _; rw [← HL2.out, List.map_take, List.map_take, HSM.out.log], HHC.out, by show L2.length ≤ d1.gc; rw [← HD2.out]; have := HGC.out; have := HK1.out; omega, HS.out.pick [3, 4, 5, 6, 7] rfl (by decide)⟩
end Go.Proofs.Ytekjihmepdhmeaa.Rlo

