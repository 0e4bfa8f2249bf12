import Derived.Test.YtekjihmepdhmeaaRloBj
/- Lemmas towards the law: what of the text RloC it needs. -/
namespace Go.Proofs.Ytekjihmepdhmeaa.Rlo
open Go.RowKit Go.Proofs.YtekjihmepdhmeaaW.PrintWords Go.Proofs.Ytekjihmepdhmeaa.Sl
set_option linter.unusedVariables false
set_option linter.unusedSimpArgs false
theorem row_hi {α : Type} {enc : α → List Value} {sz : Nat} {hl : ∀ x, (enc x).length = sz} {h1 : ∀ x, (enc x).all (·.oneCell') = true} {w0 w : World} {is : List HP} (HS : SH w0 w is) (n : Nat) {e : TypeId} {A : Option Addr} {m c : Nat} {xs : List α} {S : Nat → Prop} (hn : is[n]? = some (row (flk enc sz hl h1) e (.slice A m c) xs S)) : m = xs.length ∧ m ≤ c := by
  obtain ⟨A', c', he, hc, _⟩ := row_rd HS n hn
  injection he with e1 e2 e3
  subst e2 e3
  exact ⟨rfl, hc⟩
/-- how much memory it takes -/
structure Sht.szd (s : Sht) : Prop where
  n : s.nodes.length * 8 ≤ 140737488351232
  h : s.held.length * 40 ≤ 140737488351232
  l : s.last.length * 48 ≤ 140737488351232
structure Hrd.szd (d : Hrd) : Prop where
  s : d.s.szd
  g : d.log.length * 88 ≤ 140737488351232
  e : ∀ e ∈ d.log, e.nodes.length * 8 ≤ 140737488351232
/-- the same data, at another place -/
structure Sht.same (s s' : Sht) : Prop where
  si : s'.si = s.si
  st : s'.st = s.st
  nodes : s'.nodes = s.nodes
  lim : s'.lim = s.lim
  nxt : s'.nxt = s.nxt
  held : s'.held = s.held
  last : s'.last = s.last
structure Hrd.same (d d' : Hrd) : Prop where
  boot : d'.boot = d.boot
  term : d'.term = d.term
  vote : d'.vote = d.vote
  s : d.s.same d'.s
  log : d'.log.map Ent.data = d.log.map Ent.data
/-- where a snapshot's lists lie -/
def shtI (s : Sht) (S1 S2 S3 : Nat → Prop) : List HP := [rdI (ints .i64) 1 s.nA s.nodes.length s.nodes S1, rdI Led.Held.enc 5 s.hA s.held.length s.held S2, rdI Led.Last.enc 6 s.lA s.last.length s.last S3]
set_option maxHeartbeats 800000 in
set_option maxRecDepth 100000 in
theorem cpLed_any (A B : Option Addr) (c c' : Nat) (lim nxt : Int) (l : List Held) (m : List Last) (w : World) (hr : Rd Led.Held.enc 5 w A l.length l) (hr' : Rd Led.Last.enc 6 w B m.length m)
    (hz : l.length * 40 ≤ 140737488351232) (hz' : m.length * 48 ≤ 140737488351232) :
    Calls Try.prog 60 #[.agg #[.int .i64 lim, .int .u64 nxt, .slice A l.length c, .slice B m.length c']] w (fun e w' => ∃ A1 c1 A2 c2 S1 S2, e = .returned (.agg #[.int .i64 lim, .int .u64 nxt, .slice A1 l.length c1, .slice A2 m.length c2]) ∧ l.length ≤ c1 ∧ SH w w' [rdI Led.Held.enc 5 A1 l.length l S1, rdI Led.Last.enc 6 A2 m.length m S2]) := by
  have HR := Aside0.mk hr
  have HR' := Aside0.mk hr'
  clear hr hr'
  have HS := Aside0.mk (SH.start w)
  go_enter Try.func60, Try.ntmps60
  go_wp2_with (first | ((with_reducible refine gC (b := .append) rfl ?_); refine sh_append_nil Led.Held.len Led.Held.one HS.out rfl rfl rfl rfl (HR.out.sh HS.out) Try.underlying24 infoHeld rfl (by decide) (by decide) (by omega) ?_; clear HS; intro v1 w1 S1 HS1; (simp only [aC, aE] at HS1); have HS := Aside0.mk HS1; clear HS1; try simp only [aP, aN, aT, aZ, aS]; obtain ⟨A1, c1, rfl, hc1, _⟩ := row_rd HS.out 2 rfl) | ((with_reducible refine gC (b := .append) rfl ?_); refine sh_append_nil Led.Last.len Led.Last.one HS.out rfl rfl rfl rfl (HR'.out.sh HS.out) Try.underlying25 infoLast rfl (by decide) (by decide) (by omega) ?_; clear HS; intro v1 w1 S1 HS1; (simp only [aC, aE] at HS1); have HS := Aside0.mk HS1; clear HS1; try simp only [aP, aN, aT, aZ, aS]; obtain ⟨B1, d1, rfl, hd1, _⟩ := row_rd HS.out 3 rfl) | ((first | ((first | ((with_reducible refine gA rfl ?_); refine sh_alloc HS.out rfl rfl (zeT _ (by decide)) ?_) | ((with_reducible refine gB rfl ?_); refine bx HS.out rfl rfl ?_; first | refine bv (v := .agg (List.toArray _)) rfl ?_ | refine bv (v := .int _ _) rfl ?_ | refine bv (v := .slice _ _ _) rfl ?_ | refine bv (v := .bool _) rfl ?_ | refine bv (v := .pointer _) rfl ?_) | ((with_reducible refine gL rfl ?_); refine sh_lit HS.out rfl rfl (by go_simp; exact ⟨⟨rfl, rfl⟩, rfl⟩) ?_)); clear HS; intro g w1 hg HS1; (simp only [Ent.enc, Led.Held.enc, Led.Last.enc, zeF, segOf, aL, aC, aE] at HS1); have HS := Aside0.mk HS1; clear HS1) | ((with_reducible refine gLd rfl ?_); refine ld2 HS.out rfl rfl rfl (by repeat (first | exact AtI.here | apply AtI.there)) ?_; (first | refine LdK.one ((agT _ (by decide)).trans rfl) rfl ?_ | (refine LdK.agg ((agT _ (by decide)).trans rfl) (szT _ (by decide)) (lb rfl) ?_; try simp only [szL, aP, aN, aT, aZ, aS, aD, aF, aJ, aK, aM, aO]))) | ((with_reducible refine gSt rfl ?_); refine st2 HS.out rfl rfl rfl rfl (by repeat (first | exact AtI.here | apply AtI.there)) ?_; (first | refine sv (u := .agg (List.toArray _)) rfl ?_ | refine sv (u := .int _ _) rfl ?_ | refine sv (u := .slice _ _ _) rfl ?_ | refine sv (u := .bool _) rfl ?_ | refine sv (u := .pointer _) rfl ?_); refine sw (szT _ (by decide)) rfl (lb rfl) ?_; clear HS; intro w1 HS1; (simp only [Ent.enc, Led.Held.enc, Led.Last.enc, segOf, aL, aZ, aS, putSeg] at HS1); have HS := Aside0.mk HS1; clear HS1)); try simp only [aP, aN, aT, aZ, aS]))
  refine bodyPost_ret (results_cell_row rfl _ _ _ _ _ _ _ rfl (HS.out.blk 1 rfl) Try.underlying27 rfl ((szT _ (by decide)).trans rfl)) rfl ?_
  exact ⟨_, _, _, _, _, _, rfl, (row_hi HS.out 2 rfl).2, ((HS.out.pick [2, 3] rfl (by decide)).toRd 0 rfl).toRd 1 rfl⟩
set_option maxHeartbeats 1600000 in
set_option maxRecDepth 100000 in
theorem cpSht_any (s : Sht) (w : World) (hk : s.ok w) (hz : s.szd) : Calls Try.prog 43 #[.agg #[.int .u64 s.si, .int .u64 s.st, .slice s.nA s.nodes.length s.nc, .int .i64 s.lim, .int .u64 s.nxt, .slice s.hA s.held.length s.hc, .slice s.lA s.last.length s.lc]] w
    (fun e w' => ∃ s' S1 S2 S3, e = .returned (.agg #[.int .u64 s'.si, .int .u64 s'.st, .slice s'.nA s'.nodes.length s'.nc, .int .i64 s'.lim, .int .u64 s'.nxt, .slice s'.hA s'.held.length s'.hc, .slice s'.lA s'.last.length s'.lc]) ∧ s.same s' ∧ s'.held.length ≤ s'.hc ∧ SH w w' (shtI s' S1 S2 S3)) := by
  have HK := Aside0.mk hk
  have hz1 := hz.n
  have HZ := Aside0.mk hz
  clear hk hz
  have HS := Aside0.mk (SH.start w)
  go_enter Try.func43, Try.ntmps43
  go_wp2_with (first | ((with_reducible refine gC (b := .append) rfl ?_); refine sh_append_nil (ints_len .i64) (ints_one .i64) HS.out rfl rfl rfl rfl (HK.out.rn.sh HS.out) Try.underlying23 infoInt rfl (by decide) (by decide) (by omega) ?_; clear HS; intro v1 w1 S1 HS1; (simp only [aC, aE] at HS1); have HS := Aside0.mk HS1; clear HS1; try simp only [aP, aN, aT, aZ, aS]; obtain ⟨A1, c1, rfl, hc1, _⟩ := row_rd HS.out 2 rfl) | (go_at_call 60; (with_reducible refine (cpLed_any s.hA s.lA s.hc s.lc s.lim s.nxt s.held s.last _ (HK.out.rh.sh HS.out) (HK.out.rl.sh HS.out) HZ.out.h HZ.out.l).mono ?_); rintro e w2 ⟨A2, c2, A3, c3, S2, S3, rfl, hc2, HS1⟩; have HC2 := Aside0.mk hc2; clear hc2; have HS2 := HS.out.call HS1; clear HS HS1; simp only [aC, aE] at HS2; have HS := Aside0.mk HS2; clear HS2) | ((first | ((first | ((with_reducible refine gA rfl ?_); refine sh_alloc HS.out rfl rfl (zeT _ (by decide)) ?_) | ((with_reducible refine gB rfl ?_); refine bx HS.out rfl rfl ?_; first | refine bv (v := .agg (List.toArray _)) rfl ?_ | refine bv (v := .int _ _) rfl ?_ | refine bv (v := .slice _ _ _) rfl ?_ | refine bv (v := .bool _) rfl ?_ | refine bv (v := .pointer _) rfl ?_) | ((with_reducible refine gL rfl ?_); refine sh_lit HS.out rfl rfl (by go_simp; exact ⟨⟨rfl, rfl⟩, rfl⟩) ?_)); clear HS; intro g w1 hg HS1; (simp only [Ent.enc, Led.Held.enc, Led.Last.enc, zeF, segOf, aL, aC, aE] at HS1); have HS := Aside0.mk HS1; clear HS1) | ((with_reducible refine gLd rfl ?_); refine ld2 HS.out rfl rfl rfl (by repeat (first | exact AtI.here | apply AtI.there)) ?_; (first | refine LdK.one ((agT _ (by decide)).trans rfl) rfl ?_ | (refine LdK.agg ((agT _ (by decide)).trans rfl) (szT _ (by decide)) (lb rfl) ?_; try simp only [szL, aP, aN, aT, aZ, aS, aD, aF, aJ, aK, aM, aO]))) | ((with_reducible refine gSt rfl ?_); refine st2 HS.out rfl rfl rfl rfl (by repeat (first | exact AtI.here | apply AtI.there)) ?_; (first | refine sv (u := .agg (List.toArray _)) rfl ?_ | refine sv (u := .int _ _) rfl ?_ | refine sv (u := .slice _ _ _) rfl ?_ | refine sv (u := .bool _) rfl ?_ | refine sv (u := .pointer _) rfl ?_); refine sw (szT _ (by decide)) rfl (lb rfl) ?_; clear HS; intro w1 HS1; (simp only [Ent.enc, Led.Held.enc, Led.Last.enc, segOf, aL, aZ, aS, putSeg] at HS1); have HS := Aside0.mk HS1; clear HS1)); try simp only [aP, aN, aT, aZ, aS]))
  refine bodyPost_ret (results_cell_row rfl _ _ _ _ _ _ _ rfl (HS.out.blk 1 rfl) Try.underlying29 rfl ((szT _ (by decide)).trans rfl)) rfl ?_
  exact ⟨⟨s.si, s.st, A1, c1, s.nodes, s.lim, s.nxt, A2, c2, s.held, A3, c3, s.last⟩, _, _, _, rfl, ⟨rfl, rfl, rfl, rfl, rfl, rfl, rfl⟩, HC2.out, (HS.out.pick [2, 3, 4] rfl (by decide)).toRd 0 rfl⟩
/-- where all of it lies -/
def hrdI (d : Hrd) (S1 S2 S3 S4 S5 : Nat → Prop) : List HP := [rdI (ints .i64) 1 d.s.nA d.s.nodes.length d.s.nodes S1, rdI Led.Held.enc 5 d.s.hA d.s.held.length d.s.held S2, rdI Led.Last.enc 6 d.s.lA d.s.last.length d.s.last S3, rdI Ent.enc 9 d.gA d.log.length d.log S4, nodesI d.log S5]
theorem same_len {d d' : Hrd} (h : d.same d') : d'.log.length = d.log.length := by
  have := congrArg List.length h.log
  rwa [List.length_map, List.length_map] at this
theorem same_mem {l l' : List Ent} (h : l'.map Ent.data = l.map Ent.data) {e : Ent} (he : e ∈ l') : ∃ e0 ∈ l, e.data = e0.data := by
  have : e.data ∈ l.map Ent.data := by rw [← h]; exact List.mem_map.2 ⟨e, he, rfl⟩
  obtain ⟨e0, h0, h1⟩ := List.mem_map.1 this
  exact ⟨e0, h0, h1.symm⟩
theorem same_szd {d d' : Hrd} (h : d.same d') (hz : d.szd) : d'.szd where
  s := { n := by rw [h.s.nodes]; exact hz.s.n, h := by rw [h.s.held]; exact hz.s.h, l := by rw [h.s.last]; exact hz.s.l }
  g := by rw [same_len h]; exact hz.g
  e := fun e he => by
    obtain ⟨e0, h0, h1⟩ := same_mem h.log he
    have h2 : e.nodes = e0.nodes := show e.data.nodes = e0.data.nodes from congrArg Ent.nodes h1
    rw [h2]
    exact hz.e e0 h0
end Go.Proofs.Ytekjihmepdhmeaa.Rlo

