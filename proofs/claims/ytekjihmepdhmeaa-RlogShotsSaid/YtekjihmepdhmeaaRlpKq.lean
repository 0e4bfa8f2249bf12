/- Lemmas towards the law: what of the text RlpK it needs. -/
import Derived.Test.YtekjihmepdhmeaaRlpJq
import Derived.Test.YtekjihmepdhmeaaRlpDq
import Derived.Test.YtekjihmepdhmeaaLeLq
namespace Go.Proofs.Ytekjihmepdhmeaa.Rlo
open Go.RowKit Go.Proofs.YtekjihmepdhmeaaW.PrintWords Go.Proofs.Ytekjihmepdhmeaa.Sl
set_option linter.unusedVariables false
set_option linter.unusedSimpArgs false
theorem rowok_rd {α : Type} {enc : α → List Value} {sz : Nat} {hl : ∀ x, (enc x).length = sz} {h1 : ∀ x, (enc x).all (·.oneCell') = true} {e : TypeId} {A : Option Addr} {m c : Nat} {xs : List α} {S : Nat → Prop} {w : World} (h : (row (flk enc sz hl h1) e (.slice A m c) xs S).ok w) : Rd enc sz w A m xs ∧ inS S A ∧ m = xs.length ∧ m ≤ c := by
  obtain ⟨A', c', he, hc, hr⟩ := Kd.R_reads h
  injection he with e1 e2 e3
  subst e1 e2 e3
  exact ⟨hr, fun ad ea => by subst ea; exact h.1 ad.block rfl, rfl, hc⟩
theorem rows_ok {d d1 : Hrd} {w wx : World} {S1 S2 S3 S4 S5 : Nat → Prop} (h : d.same d1) (hk : d.ok wx) (hc : d1.s.held.length ≤ d1.s.hc) (r : ∀ i ∈ [row (intK .i64) 3 (.slice d1.s.nA d1.s.nodes.length d1.s.nc) d1.s.nodes S1, row Led.heldK 72 (.slice d1.s.hA d1.s.held.length d1.s.hc) d1.s.held S2, row Led.lastK 76 (.slice d1.s.lA d1.s.last.length d1.s.lc) d1.s.last S3, row entK 52 (.slice d1.gA d1.log.length d1.gc) d1.log S4, nodesI d1.log S5], i.ok w) : d1.ok w where
  s := { rn := (rowok_rd (hl := ints_len .i64) (h1 := ints_one .i64) (r _ (by simp [intK]; exact .inl rfl))).1, rh := (rowok_rd (hl := Led.Held.len) (h1 := Led.Held.one) (r _ (by simp [Led.heldK]; exact .inr (.inl rfl)))).1, rl := (rowok_rd (hl := Led.Last.len) (h1 := Led.Last.one) (r _ (by simp [Led.lastK]; exact .inr (.inr (.inl rfl))))).1, hc := hc, si := by rw [h.s.si]; exact hk.s.si, st := by rw [h.s.st]; exact hk.s.st, nxt := by rw [h.s.nxt]; exact hk.s.nxt, ser := by rw [h.s.last]; exact hk.s.ser }
  rg := (rowok_rd (hl := Ent.len) (h1 := Ent.one) (r _ (by simp [entK]; exact .inr (.inr (.inr (.inl rfl)))))).1
  re := fun e he => ((r (nodesI d1.log S5) (by simp)) e he).1
  boot := by rw [h.boot]; exact hk.boot
  term := by rw [h.term]; exact hk.term
def Clone2 (d : Hrd) (w : World) (e : Ending) (w' : World) : Prop := ∃ (d1 : Hrd) (S1 S2 S3 S4 S5 : Nat → Prop), e = .returned (.agg #[.int .u64 d1.boot, .int .u64 d1.term, .int .i64 d1.vote, .int .u64 d1.s.si, .int .u64 d1.s.st, .slice d1.s.nA d1.s.nodes.length d1.s.nc, .int .i64 d1.s.lim, .int .u64 d1.s.nxt, .slice d1.s.hA d1.s.held.length d1.s.hc, .slice d1.s.lA d1.s.last.length d1.s.lc, .slice d1.gA d1.log.length d1.gc]) ∧ d.same d1 ∧ d1.s.held.length ≤ d1.s.hc ∧ d1.log.length ≤ d1.gc ∧ SH w w' [row (intK .i64) 3 (.slice d1.s.nA d1.s.nodes.length d1.s.nc) d1.s.nodes S1, row Led.heldK 72 (.slice d1.s.hA d1.s.held.length d1.s.hc) d1.s.held S2, row Led.lastK 76 (.slice d1.s.lA d1.s.last.length d1.s.lc) d1.s.last S3, row entK 52 (.slice d1.gA d1.log.length d1.gc) d1.log S4, nodesI d1.log S5]
theorem clone2_any (d : Hrd) (w : World) (hk : d.ok w) (hz : d.szd) (hh : d.s.held.length ≤ 1000) (hl : d.s.last.length ≤ 1000) : Calls Try.prog 55 #[.agg #[.int .u64 d.boot, .int .u64 d.term, .int .i64 d.vote, .int .u64 d.s.si, .int .u64 d.s.st, .slice d.s.nA d.s.nodes.length d.s.nc, .int .i64 d.s.lim, .int .u64 d.s.nxt, .slice d.s.hA d.s.held.length d.s.hc, .slice d.s.lA d.s.last.length d.s.lc, .slice d.gA d.log.length d.gc]] w (Clone2 d w) := by
  refine (cloneHard_any d w hk hz hh hl hz.g).mono ?_
  rintro e w' ⟨A1, A2, A3, A4, c1, c2, c3, c4, l', S1, S2, S3, S4, S5, rfl, hd, hc2, HS⟩
  have hlen : l'.length = d.log.length := by
    have := congrArg List.length hd
    rwa [List.length_map, List.length_map] at this
  have hc4 : d.log.length ≤ c4 := (row_hi HS 3 rfl).2
  refine ⟨⟨d.boot, d.term, d.vote, ⟨d.s.si, d.s.st, A1, c1, d.s.nodes, d.s.lim, d.s.nxt, A2, c2, d.s.held, A3, c3, d.s.last⟩, A4, c4, l'⟩, S1, S2, S3, S4, S5, ?_, ⟨rfl, rfl, rfl, ⟨rfl, rfl, rfl, rfl, rfl, rfl, rfl⟩, hd⟩, hc2, ?_, ?_⟩
  · simp only [hlen]
  · simp only [hlen]; exact hc4
  · simp only [hlen]; exact HS
theorem logGo_drop {t : Int} : ∀ (l : List Ent) (p : Int) (k : Nat), k ≤ l.length → logGo t l p = true → logGo t (l.drop k) (if k = 0 then p else (l.getD (k - 1) default).term) = true
  | l, p, 0, _, h => by simpa using h
  | [], p, k + 1, hk, h => by simp at hk
  | x :: xs, p, k + 1, hk, h => by
    rw [logGo] at h
    simp only [Bool.and_eq_true] at h
    have ih := logGo_drop xs x.term k (by simpa using hk) h.2
    rw [List.drop_succ_cons, if_neg (by omega)]
    cases k with
    | zero => simpa using ih
    | succ k => simpa using ih
theorem hardOk_cut {d d2 : Hrd} {w : World} {s : Sht} {k : Nat} (hk : d.ok w) (hg : hardOk d = true) (hs : shotOk s = true) (hsi : s.si = d.s.si + k) (hkn : k ≤ d.log.length) (hst : termOf d s.si = (s.st, true))
    (h1 : d2.boot = d.boot) (h2 : d2.term = d.term) (h3 : d2.vote = d.vote) (h4 : s.same d2.s) (h5 : d2.log.map Ent.data = (d.log.drop k).map Ent.data) : hardOk d2 = true := by
  obtain ⟨hl, hl2⟩ := hardOk_last hk hg
  have hlen : d2.log.length = d.log.length - k := by
    have := congrArg List.length h5
    rw [List.length_map, List.length_map, List.length_drop] at this
    exact this
  have hlo : lastOf d2 = lastOf d := by
    rw [hl]
    unfold lastOf
    rw [h4.si, hlen, hsi, show d.s.si + (k : Int) + ((d.log.length - k : Nat) : Int) = d.s.si + d.log.length by omega]
    exact IntWalk.u64_in _ (by have := hk.s.si.1; omega)
  unfold hardOk at hg ⊢
  rw [Bool.and_eq_true] at hg ⊢
  obtain ⟨ha, hb⟩ := hg
  refine ⟨?_, ?_⟩
  · have hso : shotOk d2.s = true := by
      rw [← hs]
      unfold shotOk
      rw [h4.si, h4.st, h4.nodes, h4.lim, h4.nxt, h4.held, h4.last]
    unfold headOk at ha ⊢
    rw [hso, h1, h2, h3, hlo, h4.si, hsi]
    simp only [Bool.and_eq_true, decide_eq_true_eq] at ha ⊢
    rw [hl] at ha ⊢
    refine ⟨⟨⟨⟨⟨⟨ha.1.1.1.1.1.1, trivial⟩, by have := ha.1.1.1.2; omega⟩, ha.1.1.1.2⟩, ha.1.1.2⟩, ha.1.2⟩, ha.2⟩
  · rw [h2, h4.st, logGo_data _ _ _ _ h5]
    have h := logGo_drop d.log d.s.st k hkn hb
    have e : (if k = 0 then d.s.st else (d.log.getD (k - 1) default).term) = s.st := by
      unfold termOf at hst
      rw [hsi] at hst
      by_cases h0 : k = 0
      · subst h0
        rw [if_pos rfl]
        rw [if_pos (by omega)] at hst
        injection hst
      · rw [if_neg h0]
        rw [if_neg (by omega), if_neg (by rw [hl]; omega), show (d.s.si + (k : Int) - d.s.si - 1).toNat = k - 1 by omega] at hst
        injection hst
    rwa [e] at h
theorem d2ok {d d1 : Hrd} {s : Sht} {w wx wy : World} {B1 B2 B3 A : Option Addr} {e1 e2 e3 c : Nat} {L : List Ent} (h : d.same d1) (hk : d.ok wx) (hs : s.ok wy) (hc : s.held.length ≤ e2) (r1 : Rd (ints .i64) 1 w B1 s.nodes.length s.nodes) (r2 : Rd Led.Held.enc 5 w B2 s.held.length s.held) (r3 : Rd Led.Last.enc 6 w B3 s.last.length s.last) (r4 : Rd Ent.enc 9 w A L.length L) (r5 : ∀ e ∈ L, e.ok w) : Hrd.ok w ⟨d1.boot, d1.term, d1.vote, ⟨s.si, s.st, B1, e1, s.nodes, s.lim, s.nxt, B2, e2, s.held, B3, e3, s.last⟩, A, c, L⟩ where
  s := { rn := r1, rh := r2, rl := r3, hc := hc, si := hs.si, st := hs.st, nxt := hs.nxt, ser := hs.ser }
  rg := r4
  re := r5
  boot := by show ln d1.boot; rw [h.boot]; exact hk.boot
  term := by show ln d1.term; rw [h.term]; exact hk.term
def DoShot (d : Hrd) (s : Sht) (k : Nat) (w : World) (e : Ending) (w' : World) : Prop := ∃ (d2 : Hrd) (S1 S2 S3 S4 S5 : Nat → Prop), e = .returned (.tuple #[.agg #[.int .u64 d2.boot, .int .u64 d2.term, .int .i64 d2.vote, .int .u64 d2.s.si, .int .u64 d2.s.st, .slice d2.s.nA d2.s.nodes.length d2.s.nc, .int .i64 d2.s.lim, .int .u64 d2.s.nxt, .slice d2.s.hA d2.s.held.length d2.s.hc, .slice d2.s.lA d2.s.last.length d2.s.lc, .slice d2.gA d2.log.length d2.gc], .int .i64 0]) ∧ d2.boot = d.boot ∧ d2.term = d.term ∧ d2.vote = d.vote ∧ s.same d2.s ∧ d2.log.map Ent.data = (d.log.drop k).map Ent.data ∧ d2.s.held.length ≤ d2.s.hc ∧ d2.log.length ≤ d2.gc ∧ SH w w' (hrdI d2 S1 S2 S3 S4 S5)
theorem doShot_mk {d : Hrd} {s : Sht} {k : Nat} {w : World} {e : Ending} {w' : World} (h : ∃ (d2 : Hrd) (S1 S2 S3 S4 S5 : Nat → Prop), e = .returned (.tuple #[.agg #[.int .u64 d2.boot, .int .u64 d2.term, .int .i64 d2.vote, .int .u64 d2.s.si, .int .u64 d2.s.st, .slice d2.s.nA d2.s.nodes.length d2.s.nc, .int .i64 d2.s.lim, .int .u64 d2.s.nxt, .slice d2.s.hA d2.s.held.length d2.s.hc, .slice d2.s.lA d2.s.last.length d2.s.lc, .slice d2.gA d2.log.length d2.gc], .int .i64 0]) ∧ d2.boot = d.boot ∧ d2.term = d.term ∧ d2.vote = d.vote ∧ s.same d2.s ∧ d2.log.map Ent.data = (d.log.drop k).map Ent.data ∧ d2.s.held.length ≤ d2.s.hc ∧ d2.log.length ≤ d2.gc ∧ SH w w' (hrdI d2 S1 S2 S3 S4 S5)) : DoShot d s k w e w' := h
theorem led_le {s : Sht} (h : shotOk s = true) : s.held.length ≤ 1000 ∧ s.last.length ≤ 1000 := by
  unfold shotOk at h
  simp only [Bool.and_eq_true] at h
  have hl := Led.isLed_iff.1 h.1.2
  have h1 : s.held.length ≤ 64 := hl.len
  have h2 : s.last.length ≤ 7 := lastLen hl
  omega
set_option maxHeartbeats 6400000 in
set_option maxRecDepth 100000 in
theorem do_shots (d : Hrd) (s : Sht) (k : Nat) (w : World) (hk : d.ok w) (hz : d.szd) (hg : hardOk d = true) (hs : s.ok w) (hsz : s.szd) (hso : shotOk s = true) (hsi : s.si = d.s.si + k) (hkn : k ≤ d.log.length) (hst : termOf d s.si = (s.st, true)) :
    Calls Try.prog 33 #[.agg #[.int .u64 d.boot, .int .u64 d.term, .int .i64 d.vote, .int .u64 d.s.si, .int .u64 d.s.st, .slice d.s.nA d.s.nodes.length d.s.nc, .int .i64 d.s.lim, .int .u64 d.s.nxt, .slice d.s.hA d.s.held.length d.s.hc, .slice d.s.lA d.s.last.length d.s.lc, .slice d.gA d.log.length d.gc], .agg #[.int .i64 5, .int .i64 0, .int .u64 0, .int .u64 0, .int .u64 0, .int .u64 0, .int .i64 0, .int .i64 0, .int .i64 0, .slice none 0 0, .int .u64 0, .int .u64 0, .int .u64 0, .int .u64 0, .int .u64 s.si, .int .u64 s.st, .slice s.nA s.nodes.length s.nc, .int .i64 s.lim, .int .u64 s.nxt, .slice s.hA s.held.length s.hc, .slice s.lA s.last.length s.lc]] w (DoShot d s k w) := by
  have HK := Aside0.mk hk
  have HZ := Aside0.mk hz
  have HG := Aside0.mk hg
  have HSK := Aside0.mk hs
  have HSZ := Aside0.mk hsz
  have HSO := Aside0.mk hso
  have HI := Aside0.mk hsi
  have HT := Aside0.mk hst
  have HKN := Aside0.mk hkn
  have hgs : shotOk d.s = true := by
    unfold hardOk headOk at hg
    simp only [Bool.and_eq_true] at hg
    exact hg.1.1.1.1.1.1.2
  obtain ⟨hh1, hh2⟩ := led_le hgs
  obtain ⟨hs1, hs2⟩ := led_le hso
  have HCK := Aside0.mk (fun w1 (h : d.ok w1) => by
    have := hardCk_any d w1 h
    rw [HG.out, if_pos rfl] at this
    exact this)
  have HMY := Aside0.mk (fun w1 (h : s.ok w1) => by
    have := may_shots s w1 h
    rw [HSO.out] at this
    exact this)
  clear hk hz hg hs hsz hso hsi hkn hst hgs
  have HS := Aside0.mk (SH.start w)
  go_enter Try.func33, Try.ntmps33
  go_upto_region 1 with (first | ((fail_if_success (have _ := b2)); ((with_reducible refine gB rfl ?_); refine bx HS.out rfl rfl ?_; (first | refine bv (v := .agg (List.toArray _)) rfl ?_ | refine bv (v := .int _ _) rfl ?_ | refine bv (v := .slice _ _ _) rfl ?_ | refine bv (v := .bool _) rfl ?_ | refine bv (v := .pointer _) rfl ?_); clear HS; intro b2 w1 hb2 HS1; (simp only [Ent.enc, Led.Held.enc, Led.Last.enc, segOf, aL, aC, aE] at HS1); have HS := Aside0.mk HS1; clear HS1; try simp only [aP, aN, aT, aZ, aS])) | ((fail_if_success (have _ := b3)); ((with_reducible refine gB rfl ?_); refine bx HS.out rfl rfl ?_; (first | refine bv (v := .agg (List.toArray _)) rfl ?_ | refine bv (v := .int _ _) rfl ?_ | refine bv (v := .slice _ _ _) rfl ?_ | refine bv (v := .bool _) rfl ?_ | refine bv (v := .pointer _) rfl ?_); clear HS; intro b3 w1 hb3 HS1; (simp only [Ent.enc, Led.Held.enc, Led.Last.enc, segOf, aL, aC, aE] at HS1); have HS := Aside0.mk HS1; clear HS1; try simp only [aP, aN, aT, aZ, aS])) | ((fail_if_success (have _ := b4)); ((with_reducible refine gA rfl ?_); refine sh_alloc HS.out rfl rfl (zeT _ (by decide)) ?_; clear HS; intro b4 w1 hb4 HS1; (simp only [Ent.enc, Led.Held.enc, Led.Last.enc, zeF, segOf, aL, aC, aE] at HS1); have HS := Aside0.mk HS1; clear HS1; try simp only [aP, aN, aT, aZ, aS])) | ((first | ((first | ((with_reducible refine gA rfl ?_); refine sh_alloc HS.out rfl rfl (zeT _ (by decide)) ?_) | ((with_reducible refine gB rfl ?_); refine bx HS.out rfl rfl ?_; first | refine bv (v := .agg (List.toArray _)) rfl ?_ | refine bv (v := .int _ _) rfl ?_ | refine bv (v := .slice _ _ _) rfl ?_ | refine bv (v := .bool _) rfl ?_ | refine bv (v := .pointer _) rfl ?_) | ((with_reducible refine gL rfl ?_); refine sh_lit HS.out rfl rfl (by go_simp; exact ⟨⟨rfl, rfl⟩, rfl⟩) ?_)); clear HS; intro g w1 hg HS1; (simp only [Ent.enc, Led.Held.enc, Led.Last.enc, zeF, segOf, aL, aC, aE] at HS1); have HS := Aside0.mk HS1; clear HS1) | ((with_reducible refine gLd rfl ?_); refine ld2 HS.out rfl rfl rfl (by repeat (first | exact AtI.here | apply AtI.there)) ?_; (first | refine LdK.one ((agT _ (by decide)).trans rfl) rfl ?_ | (refine LdK.agg ((agT _ (by decide)).trans rfl) (szT _ (by decide)) (lb rfl) ?_; try simp only [szL, aP, aN, aT, aZ, aS, aD, aF, aJ, aK, aM, aO]))) | ((with_reducible refine gSt rfl ?_); refine st2 HS.out rfl rfl rfl rfl (by repeat (first | exact AtI.here | apply AtI.there)) ?_; (first | refine sv (u := .agg (List.toArray _)) rfl ?_ | refine sv (u := .int _ _) rfl ?_ | refine sv (u := .slice _ _ _) rfl ?_ | refine sv (u := .bool _) rfl ?_ | refine sv (u := .pointer _) rfl ?_); refine sw (szT _ (by decide)) rfl (lb rfl) ?_; clear HS; intro w1 HS1; (simp only [Ent.enc, Led.Held.enc, Led.Last.enc, segOf, aL, aZ, aS, putSeg] at HS1); have HS := Aside0.mk HS1; clear HS1)); try simp only [aP, aN, aT, aZ, aS]))
  go_upto_region 4 with (first | (go_at_call 32; (with_reducible refine (HCK.out _ (HK.out.sh HS.out)).mono ?_); rintro e w2 ⟨rfl, hb⟩;  have HS1 := HS.out.quiet hb; clear HS hb; have HS := Aside0.mk HS1; clear HS1) | (go_at_call 54; (with_reducible refine (HMY.out _ (HSK.out.sh HS.out)).mono ?_); rintro e w2 ⟨rfl, hb⟩;  have HS1 := HS.out.quiet hb; clear HS hb; have HS := Aside0.mk HS1; clear HS1) | (go_at_call 55; (with_reducible refine (clone2_any d _ (HK.out.sh HS.out) HZ.out hh1 hh2).mono ?_); rintro e w2 ⟨d1, S1, S2, S3, S4, S5, rfl, hsm, hhc, hgc, HS1⟩; have HSM := Aside0.mk hsm; have HHC := Aside0.mk hhc; have HGC := Aside0.mk hgc; clear hsm hhc hgc; have HS2 := HS.out.call HS1; clear HS HS1; simp only [aC, aE] at HS2; have HS := Aside0.mk HS2; clear HS2) | ((first | ((first | ((with_reducible refine gA rfl ?_); refine sh_alloc HS.out rfl rfl (zeT _ (by decide)) ?_) | ((with_reducible refine gB rfl ?_); refine bx HS.out rfl rfl ?_; first | refine bv (v := .agg (List.toArray _)) rfl ?_ | refine bv (v := .int _ _) rfl ?_ | refine bv (v := .slice _ _ _) rfl ?_ | refine bv (v := .bool _) rfl ?_ | refine bv (v := .pointer _) rfl ?_) | ((with_reducible refine gL rfl ?_); refine sh_lit HS.out rfl rfl (by go_simp; exact ⟨⟨rfl, rfl⟩, rfl⟩) ?_)); clear HS; intro g w1 hg HS1; (simp only [Ent.enc, Led.Held.enc, Led.Last.enc, zeF, segOf, aL, aC, aE] at HS1); have HS := Aside0.mk HS1; clear HS1) | ((with_reducible refine gLd rfl ?_); refine ld2 HS.out rfl rfl rfl (by repeat (first | exact AtI.here | apply AtI.there)) ?_; (first | refine LdK.one ((agT _ (by decide)).trans rfl) rfl ?_ | (refine LdK.agg ((agT _ (by decide)).trans rfl) (szT _ (by decide)) (lb rfl) ?_; try simp only [szL, aP, aN, aT, aZ, aS, aD, aF, aJ, aK, aM, aO]))) | ((with_reducible refine gSt rfl ?_); refine st2 HS.out rfl rfl rfl rfl (by repeat (first | exact AtI.here | apply AtI.there)) ?_; (first | refine sv (u := .agg (List.toArray _)) rfl ?_ | refine sv (u := .int _ _) rfl ?_ | refine sv (u := .slice _ _ _) rfl ?_ | refine sv (u := .bool _) rfl ?_ | refine sv (u := .pointer _) rfl ?_); refine sw (szT _ (by decide)) rfl (lb rfl) ?_; clear HS; intro w1 HS1; (simp only [Ent.enc, Led.Held.enc, Led.Last.enc, segOf, aL, aZ, aS, putSeg] at HS1); have HS := Aside0.mk HS1; clear HS1)); try simp only [aP, aN, aT, aZ, aS]))
  have hlen1 : d1.log.length = d.log.length := same_len HSM.out
  have HL1 := Aside0.mk hlen1
  have hg1 := (same_hardOk HSM.out).trans HG.out
  have hi1 : s.si = d1.s.si + k := by rw [HSM.out.s.si]; exact HI.out
  have hk1 : k ≤ d1.log.length := by rw [hlen1]; exact HKN.out
  have ht1 : termOf d1 s.si = (s.st, true) := by
    rw [same_term HSM.out s.si (by have := HI.out; have := HKN.out; omega)]
    exact HT.out
  have HKD1 := Aside0.mk (rows_ok (w := _) (S1 := S1) (S2 := S2) (S3 := S3) (S4 := S4) (S5 := S5) HSM.out HK.out HHC.out (fun i hi => by obtain ⟨n, hn⟩ := List.getElem?_of_mem hi; exact ((HS.out.pick [3, 4, 5, 6, 7] rfl (by decide)).each n i hn).1))
  have HCO := Aside0.mk (fun (w1 : World) (F : HP) (hF : ∀ w, F.ok w → d1.ok w) (h : SH w w1 [blk b2 [.int .u64 d1.boot, .int .u64 d1.term, .int .i64 d1.vote, .int .u64 d1.s.si, .int .u64 d1.s.st, .slice d1.s.nA d1.s.nodes.length d1.s.nc, .int .i64 d1.s.lim, .int .u64 d1.s.nxt, .slice d1.s.hA d1.s.held.length d1.s.hc, .slice d1.s.lA d1.s.last.length d1.s.lc, .slice d1.gA d1.log.length d1.gc] 32, F]) => come_shots d1 s k b2 w1 h hF hg1 HSK.out HSZ.out hs1 hs2 hi1 hk1 HGC.out ht1)
  have HF := Aside0.mk (fun (w1 : World) (i1 i2 : HP) (h : (allI [i1, i2, row (intK .i64) 3 (.slice d1.s.nA d1.s.nodes.length d1.s.nc) d1.s.nodes S1, row Led.heldK 72 (.slice d1.s.hA d1.s.held.length d1.s.hc) d1.s.held S2, row Led.lastK 76 (.slice d1.s.lA d1.s.last.length d1.s.lc) d1.s.last S3, row entK 52 (.slice d1.gA d1.log.length d1.gc) d1.log S4, nodesI d1.log S5]).ok w1) => rows_ok (w := w1) (S1 := S1) (S2 := S2) (S3 := S3) (S4 := S4) (S5 := S5) HSM.out HK.out HHC.out (fun i hi => h.1 i (List.mem_cons_of_mem _ (List.mem_cons_of_mem _ hi))))
  have HK1 := Aside0.mk hk1
  obtain ⟨L2, hL2⟩ : ∃ L2, d1.log.drop k = L2 := ⟨_, rfl⟩
  have HL2 := Aside0.mk hL2
  have HBT := Aside0.mk (fun (B1 B2 B3 : Option Addr) (e1 e2 e3 : Nat) => @hardOk_cut d1 ⟨d1.boot, d1.term, d1.vote, ⟨s.si, s.st, B1, e1, s.nodes, s.lim, s.nxt, B2, e2, s.held, B3, e3, s.last⟩, cutA d1.gA d1.gc k, d1.gc - k, L2⟩ _ s k HKD1.out hg1 HSO.out hi1 hk1 ht1 rfl rfl rfl ⟨rfl, rfl, rfl, rfl, rfl, rfl, rfl⟩ (by rw [← hL2]))
  have hd2 : d1.log.length - k = L2.length := by rw [← hL2]; exact List.length_drop.symm
  have HD2 := Aside0.mk hd2
  clear hlen1 hg1 hi1 hk1 ht1 hd2 hL2
  go_upto_region 6 with (first | (go_at_call 56; (with_reducible refine (HCO.out _ _ (fun w1 h => HF.out w1 _ _ h) (SH.pack (is := [_]) [_, _, _, _, _, _, _] (HS.out.pick [0, 1, 2, 3, 4, 5, 6, 7] rfl (by decide)))).mono ?_); rintro e w2 ⟨B1, B2, B3, e1, e2, e3, T1, T2, T3, rfl, he2, HS2⟩; have HE2 := Aside0.mk he2; clear he2; have HS3 := ((((((show SH w w2 [_, _, _, _, _, _, _, _, _, _, _] from SH.unpack (is := [_, _, _, _]) [_, _, _, _, _, _, _] (HS2.pick [0, 2, 3, 4, 1] rfl (by decide))).toRd (hl := ints_len .i64) (h1 := ints_one .i64) 1 rfl).toRd (hl := Led.Held.len) (h1 := Led.Held.one) 2 rfl).toRd (hl := Led.Last.len) (h1 := Led.Last.one) 3 rfl).say 9 (i' := rdI Ent.enc 9 (cutA d1.gA d1.gc k) (d1.log.length - k) (d1.log.drop k) S4) rfl (fun h => ⟨cutA_rd (rowok_rd (hl := Ent.len) (h1 := Ent.one) h).1 HK1.out HGC.out, cutA_in (rowok_rd (hl := Ent.len) (h1 := Ent.one) h).2.1⟩) (fun b hb => hb)).say 10 (i' := nodesI (d1.log.drop k) S5) rfl (fun h e he => h e (List.mem_of_mem_drop he)) (fun b hb => hb)); rw [HD2.out, HL2.out] at HS3; simp only [aZ, aS] at HS3; clear HS HS2; have HS := Aside0.mk HS3; clear HS3; have HC2 := Aside0.mk (hardCk_any ⟨d1.boot, d1.term, d1.vote, ⟨s.si, s.st, B1, e1, s.nodes, s.lim, s.nxt, B2, e2, s.held, B3, e3, s.last⟩, cutA d1.gA d1.gc k, d1.gc - k, L2⟩ _ (d2ok HSM.out HK.out HSK.out HE2.out (HS.out.at 1 rfl).1 (HS.out.at 2 rfl).1 (HS.out.at 3 rfl).1 (HS.out.at 9 rfl).1 (fun e he => (HS.out.at 10 rfl e he).1))); rw [HBT.out, if_pos rfl] at HC2) | (go_at_call 32; (with_reducible refine (HC2.out).mono ?_); rintro e w2 ⟨rfl, hb⟩;  have HS1 := HS.out.quiet hb; clear HS hb; have HS := Aside0.mk HS1; clear HS1) | ((first | ((first | ((with_reducible refine gA rfl ?_); refine sh_alloc HS.out rfl rfl (zeT _ (by decide)) ?_) | ((with_reducible refine gB rfl ?_); refine bx HS.out rfl rfl ?_; first | refine bv (v := .agg (List.toArray _)) rfl ?_ | refine bv (v := .int _ _) rfl ?_ | refine bv (v := .slice _ _ _) rfl ?_ | refine bv (v := .bool _) rfl ?_ | refine bv (v := .pointer _) rfl ?_) | ((with_reducible refine gL rfl ?_); refine sh_lit HS.out rfl rfl (by go_simp; exact ⟨⟨rfl, rfl⟩, rfl⟩) ?_)); clear HS; intro g w1 hg HS1; (simp only [Ent.enc, Led.Held.enc, Led.Last.enc, zeF, segOf, aL, aC, aE] at HS1); have HS := Aside0.mk HS1; clear HS1) | ((with_reducible refine gLd rfl ?_); refine ld2 HS.out rfl rfl rfl (by repeat (first | exact AtI.here | apply AtI.there)) ?_; (first | refine LdK.one ((agT _ (by decide)).trans rfl) rfl ?_ | (refine LdK.agg ((agT _ (by decide)).trans rfl) (szT _ (by decide)) (lb rfl) ?_; try simp only [szL, aP, aN, aT, aZ, aS, aD, aF, aJ, aK, aM, aO]))) | ((with_reducible refine gSt rfl ?_); refine st2 HS.out rfl rfl rfl rfl (by repeat (first | exact AtI.here | apply AtI.there)) ?_; (first | refine sv (u := .agg (List.toArray _)) rfl ?_ | refine sv (u := .int _ _) rfl ?_ | refine sv (u := .slice _ _ _) rfl ?_ | refine sv (u := .bool _) rfl ?_ | refine sv (u := .pointer _) rfl ?_); refine sw (szT _ (by decide)) rfl (lb rfl) ?_; clear HS; intro w1 HS1; (simp only [Ent.enc, Led.Held.enc, Led.Last.enc, segOf, aL, aZ, aS, putSeg] at HS1); have HS := Aside0.mk HS1; clear HS1)); try simp only [aP, aN, aT, aZ, aS]))
  go_wp2_with (first | ((first | ((first | ((with_reducible refine gA rfl ?_); refine sh_alloc HS.out rfl rfl (zeT _ (by decide)) ?_) | ((with_reducible refine gB rfl ?_); refine bx HS.out rfl rfl ?_; first | refine bv (v := .agg (List.toArray _)) rfl ?_ | refine bv (v := .int _ _) rfl ?_ | refine bv (v := .slice _ _ _) rfl ?_ | refine bv (v := .bool _) rfl ?_ | refine bv (v := .pointer _) rfl ?_) | ((with_reducible refine gL rfl ?_); refine sh_lit HS.out rfl rfl (by go_simp; exact ⟨⟨rfl, rfl⟩, rfl⟩) ?_)); clear HS; intro g w1 hg HS1; (simp only [Ent.enc, Led.Held.enc, Led.Last.enc, zeF, segOf, aL, aC, aE] at HS1); have HS := Aside0.mk HS1; clear HS1) | ((with_reducible refine gLd rfl ?_); refine ld2 HS.out rfl rfl rfl (by repeat (first | exact AtI.here | apply AtI.there)) ?_; (first | refine LdK.one ((agT _ (by decide)).trans rfl) rfl ?_ | (refine LdK.agg ((agT _ (by decide)).trans rfl) (szT _ (by decide)) (lb rfl) ?_; try simp only [szL, aP, aN, aT, aZ, aS, aD, aF, aJ, aK, aM, aO]))) | ((with_reducible refine gSt rfl ?_); refine st2 HS.out rfl rfl rfl rfl (by repeat (first | exact AtI.here | apply AtI.there)) ?_; (first | refine sv (u := .agg (List.toArray _)) rfl ?_ | refine sv (u := .int _ _) rfl ?_ | refine sv (u := .slice _ _ _) rfl ?_ | refine sv (u := .bool _) rfl ?_ | refine sv (u := .pointer _) rfl ?_); refine sw (szT _ (by decide)) rfl (lb rfl) ?_; clear HS; intro w1 HS1; (simp only [Ent.enc, Led.Held.enc, Led.Last.enc, segOf, aL, aZ, aS, putSeg] at HS1); have HS := Aside0.mk HS1; clear HS1)); try simp only [aP, aN, aT, aZ, aS]))
  refine bodyPost_ret (results_list (rs := [.cell 4 32, .tmp 5]) rfl (by simp) (.cell _ _ _ _ _ rfl (HS.out.blk 5 rfl) Try.underlying32 rfl ((szT _ (by decide)).trans rfl) (.tmp .nil))) rfl ?_
  exact doShot_mk ⟨⟨d1.boot, d1.term, d1.vote, ⟨s.si, s.st, B1, e1, s.nodes, s.lim, s.nxt, B2, e2, s.held, B3, e3, s.last⟩, cutA d1.gA d1.gc k, d1.gc - k, L2⟩, T1, T2, T3, S4, S5, rfl, HSM.out.boot, HSM.out.term, HSM.out.vote, ⟨rfl, rfl, rfl, rfl, rfl, rfl, rfl⟩, by show L2.map Ent.data = _; rw [← HL2.out, List.map_drop, List.map_drop, HSM.out.log], HE2.out, by show L2.length ≤ d1.gc - k; rw [← HD2.out]; have := HGC.out; omega, HS.out.pick [1, 2, 3, 9, 10] rfl (by decide)⟩
end Go.Proofs.Ytekjihmepdhmeaa.Rlo
