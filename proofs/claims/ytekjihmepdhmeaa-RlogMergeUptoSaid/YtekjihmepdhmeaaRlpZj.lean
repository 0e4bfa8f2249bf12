import Derived.Test.YtekjihmepdhmeaaRlpYj
import Derived.Test.YtekjihmepdhmeaaSlXq
section
/- Lemmas towards the law: what of the text RlpZ it needs. -/
namespace Go.Proofs.Ytekjihmepdhmeaa.Rlo
open Go.RowKit Go.Proofs.YtekjihmepdhmeaaW.PrintWords Go.Proofs.Ytekjihmepdhmeaa.Sl
set_option linter.unusedVariables false
set_option linter.unusedSimpArgs false
set_option maxHeartbeats 1600000 in
set_option maxRecDepth 100000 in
theorem cpCmdZ (w : World) : Calls Try.prog 47 #[.agg #[.int .i64 0, .int .i64 0, .int .i64 0, .slice none 0 0, .int .u64 0, .int .u64 0, .int .u64 0, .int .u64 0]] w (fun e w' => e = .returned (.agg #[.int .i64 0, .int .i64 0, .int .i64 0, .slice none 0 0, .int .u64 0, .int .u64 0, .int .u64 0, .int .u64 0]) ∧ Below w.heap.size w w') := by
  have HS := Aside0.mk (SH.start w)
  go_enter Try.func47, Try.ntmps47
  go_wp2_with (first | ((with_reducible refine gC (b := .append) rfl ?_); refine ap00 rfl rfl rfl rfl Try.underlying23 (szT _ (by decide)) ?_; (try simp only [aP, aN, aT, aZ, aS])) | ((first | ((first | ((with_reducible refine gA rfl ?_); refine sh_alloc HS.out rfl rfl (zeT _ (by decide)) ?_) | ((with_reducible refine gB rfl ?_); refine bx HS.out rfl rfl ?_; first | refine bv (v := .agg (List.toArray _)) rfl ?_ | refine bv (v := .int _ _) rfl ?_ | refine bv (v := .slice _ _ _) rfl ?_ | refine bv (v := .bool _) rfl ?_ | refine bv (v := .pointer _) rfl ?_) | ((with_reducible refine gL rfl ?_); refine sh_lit HS.out rfl rfl (by go_simp; exact ⟨⟨rfl, rfl⟩, rfl⟩) ?_)); clear HS; intro g w1 hg HS1; (simp only [Ent.enc, Led.Held.enc, Led.Last.enc, Rc.enc, zeF, segOf, aL, aC, aE] at HS1); have HS := Aside0.mk HS1; clear HS1) | ((with_reducible refine gLd rfl ?_); refine ld2 HS.out rfl rfl rfl (by repeat (first | exact AtI.here | apply AtI.there)) ?_; (first | refine LdK.one ((agT _ (by decide)).trans rfl) rfl ?_ | (refine LdK.agg ((agT _ (by decide)).trans rfl) (szT _ (by decide)) (lb rfl) ?_; try simp only [szL, aP, aN, aT, aZ, aS, aD, aF, aJ, aK, aM, aO]))) | ((with_reducible refine gSt rfl ?_); refine st2 HS.out rfl rfl rfl rfl (by repeat (first | exact AtI.here | apply AtI.there)) ?_; (first | refine sv (u := .agg (List.toArray _)) rfl ?_ | refine sv (u := .int _ _) rfl ?_ | refine sv (u := .slice _ _ _) rfl ?_ | refine sv (u := .bool _) rfl ?_ | refine sv (u := .pointer _) rfl ?_); refine sw (szT _ (by decide)) rfl (lb rfl) ?_; clear HS; intro w1 HS1; (simp only [Ent.enc, Led.Held.enc, Led.Last.enc, Rc.enc, segOf, aL, aZ, aS, putSeg] at HS1); have HS := Aside0.mk HS1; clear HS1)); try simp only [aP, aN, aT, aZ, aS]))
  refine bodyPost_ret (results_cell_row rfl _ _ _ _ _ _ _ rfl (HS.out.blk 1 rfl) Try.underlying50 rfl ((szT _ (by decide)).trans rfl)) rfl ?_
  exact ⟨rfl, HS.out.below⟩
set_option maxHeartbeats 1600000 in
set_option maxRecDepth 100000 in
theorem cpRec_cut (ix : Int) (w : World) : Calls Try.prog 48 #[.agg #[.int .i64 4, .int .i64 0, .int .u64 0, .int .u64 0, .int .u64 ix, .int .u64 0, .int .i64 0, .int .i64 0, .int .i64 0, .slice none 0 0, .int .u64 0, .int .u64 0, .int .u64 0, .int .u64 0, .int .u64 0, .int .u64 0, .slice none 0 0, .int .i64 0, .int .u64 0, .slice none 0 0, .slice none 0 0]] w (fun e w' => e = .returned (.agg #[.int .i64 4, .int .i64 0, .int .u64 0, .int .u64 0, .int .u64 ix, .int .u64 0, .int .i64 0, .int .i64 0, .int .i64 0, .slice none 0 0, .int .u64 0, .int .u64 0, .int .u64 0, .int .u64 0, .int .u64 0, .int .u64 0, .slice none 0 0, .int .i64 0, .int .u64 0, .slice none 0 0, .slice none 0 0]) ∧ Below w.heap.size w w') := by
  have HS := Aside0.mk (SH.start w)
  go_enter Try.func48, Try.ntmps48
  go_wp2_with (first | (go_at_call 47; (with_reducible refine (cpCmdZ _).mono ?_); rintro e w2 ⟨rfl, hb⟩;  have HS1 := HS.out.quiet hb; clear HS hb; have HS := Aside0.mk HS1; clear HS1) | (go_at_call 43; (with_reducible refine (cpShtZ _).mono ?_); rintro e w2 ⟨rfl, hb⟩;  have HS1 := HS.out.quiet hb; clear HS hb; have HS := Aside0.mk HS1; clear HS1) | ((first | ((first | ((with_reducible refine gA rfl ?_); refine sh_alloc HS.out rfl rfl (zeT _ (by decide)) ?_) | ((with_reducible refine gB rfl ?_); refine bx HS.out rfl rfl ?_; first | refine bv (v := .agg (List.toArray _)) rfl ?_ | refine bv (v := .int _ _) rfl ?_ | refine bv (v := .slice _ _ _) rfl ?_ | refine bv (v := .bool _) rfl ?_ | refine bv (v := .pointer _) rfl ?_) | ((with_reducible refine gL rfl ?_); refine sh_lit HS.out rfl rfl (by go_simp; exact ⟨⟨rfl, rfl⟩, rfl⟩) ?_)); clear HS; intro g w1 hg HS1; (simp only [Ent.enc, Led.Held.enc, Led.Last.enc, Rc.enc, zeF, segOf, aL, aC, aE] at HS1); have HS := Aside0.mk HS1; clear HS1) | ((with_reducible refine gLd rfl ?_); refine ld2 HS.out rfl rfl rfl (by repeat (first | exact AtI.here | apply AtI.there)) ?_; (first | refine LdK.one ((agT _ (by decide)).trans rfl) rfl ?_ | (refine LdK.agg ((agT _ (by decide)).trans rfl) (szT _ (by decide)) (lb rfl) ?_; try simp only [szL, aP, aN, aT, aZ, aS, aD, aF, aJ, aK, aM, aO]))) | ((with_reducible refine gSt rfl ?_); refine st2 HS.out rfl rfl rfl rfl (by repeat (first | exact AtI.here | apply AtI.there)) ?_; (first | refine sv (u := .agg (List.toArray _)) rfl ?_ | refine sv (u := .int _ _) rfl ?_ | refine sv (u := .slice _ _ _) rfl ?_ | refine sv (u := .bool _) rfl ?_ | refine sv (u := .pointer _) rfl ?_); refine sw (szT _ (by decide)) rfl (lb rfl) ?_; clear HS; intro w1 HS1; (simp only [Ent.enc, Led.Held.enc, Led.Last.enc, Rc.enc, segOf, aL, aZ, aS, putSeg] at HS1); have HS := Aside0.mk HS1; clear HS1)); try simp only [aP, aN, aT, aZ, aS]))
  refine bodyPost_ret (results_cell_row rfl _ _ _ _ _ _ _ rfl (HS.out.blk 1 rfl) Try.underlying65 rfl ((szT _ (by decide)).trans rfl)) rfl ?_
  exact ⟨rfl, HS.out.below⟩
theorem cpRec_add (ix : Int) (x : Ent) (w : World) (hk : x.ok w) (hz : x.nodes.length * 8 ≤ 140737488351232) : Calls Try.prog 48 #[.agg #[.int .i64 3, .int .i64 0, .int .u64 0, .int .u64 0, .int .u64 ix, .int .u64 x.term, .int .i64 x.kind, .int .i64 x.node, .int .i64 x.token, .slice x.A x.nodes.length x.c, .int .u64 x.boot, .int .u64 x.seq, .int .u64 x.serial, .int .u64 x.stamp, .int .u64 0, .int .u64 0, .slice none 0 0, .int .i64 0, .int .u64 0, .slice none 0 0, .slice none 0 0]] w (fun e w' => ∃ A c S, e = .returned (.agg #[.int .i64 3, .int .i64 0, .int .u64 0, .int .u64 0, .int .u64 ix, .int .u64 x.term, .int .i64 x.kind, .int .i64 x.node, .int .i64 x.token, .slice A x.nodes.length c, .int .u64 x.boot, .int .u64 x.seq, .int .u64 x.serial, .int .u64 x.stamp, .int .u64 0, .int .u64 0, .slice none 0 0, .int .i64 0, .int .u64 0, .slice none 0 0, .slice none 0 0]) ∧ SH w w' [rdI (ints .i64) 1 A x.nodes.length x.nodes S]) :=
  cpRec_any (addR ix x) w hk hz
theorem cpHardR_any (d : Hrd) (w : World) (hk : d.ok w) (hz : d.szd) : Calls Try.prog 18 #[.agg #[.int .u64 d.boot, .int .u64 d.term, .int .i64 d.vote, .int .u64 d.s.si, .int .u64 d.s.st, .slice d.s.nA d.s.nodes.length d.s.nc, .int .i64 d.s.lim, .int .u64 d.s.nxt, .slice d.s.hA d.s.held.length d.s.hc, .slice d.s.lA d.s.last.length d.s.lc, .slice d.gA d.log.length d.gc]] w
    (fun e w' => ∃ d' S1 S2 S3 S4 S5, e = .returned (.agg #[.int .u64 d'.boot, .int .u64 d'.term, .int .i64 d'.vote, .int .u64 d'.s.si, .int .u64 d'.s.st, .slice d'.s.nA d'.s.nodes.length d'.s.nc, .int .i64 d'.s.lim, .int .u64 d'.s.nxt, .slice d'.s.hA d'.s.held.length d'.s.hc, .slice d'.s.lA d'.s.last.length d'.s.lc, .slice d'.gA d'.log.length d'.gc]) ∧ d.same d' ∧ d'.s.held.length ≤ d'.s.hc ∧ d'.log.length ≤ d'.gc ∧ SH w w' [rdI (ints .i64) 1 d'.s.nA d'.s.nodes.length d'.s.nodes S1, rdI Led.Held.enc 5 d'.s.hA d'.s.held.length d'.s.held S2, rdI Led.Last.enc 6 d'.s.lA d'.s.last.length d'.s.last S3, row entK 52 (.slice d'.gA d'.log.length d'.gc) d'.log S4, nodesI d'.log S5]) := by
  have HK := Aside0.mk hk
  have HZ := Aside0.mk hz
  clear hk hz
  have HS := Aside0.mk (SH.start w)
  go_enter Try.func18, Try.ntmps18
  go_wp2_with (first | (go_at_call 43; (with_reducible refine (cpSht_any d.s _ (HK.out.s.sh HS.out) HZ.out.s).mono ?_); rintro e w2 ⟨s', S1, S2, S3, rfl, hss, hsc, HS1⟩; have HSS := Aside0.mk (And.intro hss hsc); clear hss hsc; unfold shtI at HS1; have HS2 := HS.out.call HS1; clear HS HS1; simp only [aC, aE] at HS2; have HS := Aside0.mk HS2; clear HS2) | (go_at_call 28; (with_reducible refine (cpEnts_any d.gA d.gc d.log _ (HK.out.rg.sh HS.out) (fun e he => (HK.out.re e he).sh HS.out) HZ.out.g HZ.out.e).mono ?_); rintro e w2 ⟨A4, c4, l', S4, S5, rfl, hld, HS1⟩; have HLD := Aside0.mk hld; clear hld; have HS2 := HS.out.call HS1; clear HS HS1; simp only [aC, aE] at HS2; have HS := Aside0.mk HS2; clear HS2) | ((first | ((first | ((with_reducible refine gA rfl ?_); refine sh_alloc HS.out rfl rfl (zeT _ (by decide)) ?_) | ((with_reducible refine gB rfl ?_); refine bx HS.out rfl rfl ?_; first | refine bv (v := .agg (List.toArray _)) rfl ?_ | refine bv (v := .int _ _) rfl ?_ | refine bv (v := .slice _ _ _) rfl ?_ | refine bv (v := .bool _) rfl ?_ | refine bv (v := .pointer _) rfl ?_) | ((with_reducible refine gL rfl ?_); refine sh_lit HS.out rfl rfl (by go_simp; exact ⟨⟨rfl, rfl⟩, rfl⟩) ?_)); clear HS; intro g w1 hg HS1; (simp only [Ent.enc, Led.Held.enc, Led.Last.enc, Rc.enc, zeF, segOf, aL, aC, aE] at HS1); have HS := Aside0.mk HS1; clear HS1) | ((with_reducible refine gLd rfl ?_); refine ld2 HS.out rfl rfl rfl (by repeat (first | exact AtI.here | apply AtI.there)) ?_; (first | refine LdK.one ((agT _ (by decide)).trans rfl) rfl ?_ | (refine LdK.agg ((agT _ (by decide)).trans rfl) (szT _ (by decide)) (lb rfl) ?_; try simp only [szL, aP, aN, aT, aZ, aS, aD, aF, aJ, aK, aM, aO]))) | ((with_reducible refine gSt rfl ?_); refine st2 HS.out rfl rfl rfl rfl (by repeat (first | exact AtI.here | apply AtI.there)) ?_; (first | refine sv (u := .agg (List.toArray _)) rfl ?_ | refine sv (u := .int _ _) rfl ?_ | refine sv (u := .slice _ _ _) rfl ?_ | refine sv (u := .bool _) rfl ?_ | refine sv (u := .pointer _) rfl ?_); refine sw (szT _ (by decide)) rfl (lb rfl) ?_; clear HS; intro w1 HS1; (simp only [Ent.enc, Led.Held.enc, Led.Last.enc, Rc.enc, segOf, aL, aZ, aS, putSeg] at HS1); have HS := Aside0.mk HS1; clear HS1)); try simp only [aP, aN, aT, aZ, aS]))
  refine bodyPost_ret (results_cell_row rfl _ _ _ _ _ _ _ rfl (HS.out.blk 1 rfl) Try.underlying32 rfl ((szT _ (by decide)).trans rfl)) rfl ?_
  have hlen : l'.length = d.log.length := by
    have := congrArg List.length HLD.out
    rwa [List.length_map, List.length_map] at this
  refine ⟨⟨d.boot, d.term, d.vote, s', A4, c4, l'⟩, S1, S2, S3, S4, S5, ?_, ⟨rfl, rfl, rfl, HSS.out.1, HLD.out⟩, HSS.out.2, ?_, ?_⟩
  · simp only [hlen]
  · show l'.length ≤ c4
    rw [hlen]
    exact (row_hi HS.out 5 rfl).2
  · have HS1 := HS.out.pick [2, 3, 4, 5, 6] rfl (by decide)
    simp only [hlen]
    exact HS1
theorem refDone_cutL (d : Hrd) (k : Nat) (ix : Int) (L2 : List Ent) (w : World) (hk : d.ok w) (hg : hardOk d = true) (hkn : k ≤ d.log.length) (hnc : d.log.length ≤ d.gc) (hix : ix = d.s.si + k + 1) (hL : d.log.take k = L2) :
    Calls Try.prog 65 #[.agg #[.int .u64 d.boot, .int .u64 d.term, .int .i64 d.vote, .int .u64 d.s.si, .int .u64 d.s.st, .slice d.s.nA d.s.nodes.length d.s.nc, .int .i64 d.s.lim, .int .u64 d.s.nxt, .slice d.s.hA d.s.held.length d.s.hc, .slice d.s.lA d.s.last.length d.s.lc, .slice d.gA d.log.length d.gc], .agg #[.int .i64 4, .int .i64 0, .int .u64 0, .int .u64 0, .int .u64 ix, .int .u64 0, .int .i64 0, .int .i64 0, .int .i64 0, .slice none 0 0, .int .u64 0, .int .u64 0, .int .u64 0, .int .u64 0, .int .u64 0, .int .u64 0, .slice none 0 0, .int .i64 0, .int .u64 0, .slice none 0 0, .slice none 0 0]] w (fun e w' => e = .returned (.tuple #[.agg #[.int .u64 d.boot, .int .u64 d.term, .int .i64 d.vote, .int .u64 d.s.si, .int .u64 d.s.st, .slice d.s.nA d.s.nodes.length d.s.nc, .int .i64 d.s.lim, .int .u64 d.s.nxt, .slice d.s.hA d.s.held.length d.s.hc, .slice d.s.lA d.s.last.length d.s.lc, .slice (cutA d.gA d.gc 0) L2.length d.gc], .bool true]) ∧ Below w.heap.size w w') := by
  obtain rfl : k = L2.length := by rw [← hL, List.length_take]; omega
  exact refDone_cut d _ ix w hk hg hkn hnc hix
def RefDoneL (w0 : World) (F : HP) (d : Hrd) (L2 : List Ent) (e : Ending) (w' : World) : Prop := ∃ (A9 : Option Addr) (c9 : Nat) (S9 : Nat → Prop), e = .returned (.tuple #[.agg #[.int .u64 d.boot, .int .u64 d.term, .int .i64 d.vote, .int .u64 d.s.si, .int .u64 d.s.st, .slice d.s.nA d.s.nodes.length d.s.nc, .int .i64 d.s.lim, .int .u64 d.s.nxt, .slice d.s.hA d.s.held.length d.s.hc, .slice d.s.lA d.s.last.length d.s.lc, .slice A9 L2.length c9], .bool true]) ∧ SH w0 w' [row entK 52 (.slice A9 L2.length c9) L2 S9, F]
theorem refDone_addL {w0 : World} {F : HP} (d : Hrd) (x : Ent) (ix : Int) (L2 : List Ent) (S4 : Nat → Prop) (w : World) (HS0 : SH w0 w [row entK 52 (.slice d.gA d.log.length d.gc) d.log S4, F]) (hF : ∀ w, (row entK 52 (.slice d.gA d.log.length d.gc) d.log S4).ok w → F.ok w → d.ok w) (hg : hardOk d = true) (hn : d.log.length ≤ 1000000) (hix : ix = d.s.si + d.log.length + 1) (hL : d.log ++ [x] = L2) :
    Calls Try.prog 65 #[.agg #[.int .u64 d.boot, .int .u64 d.term, .int .i64 d.vote, .int .u64 d.s.si, .int .u64 d.s.st, .slice d.s.nA d.s.nodes.length d.s.nc, .int .i64 d.s.lim, .int .u64 d.s.nxt, .slice d.s.hA d.s.held.length d.s.hc, .slice d.s.lA d.s.last.length d.s.lc, .slice d.gA d.log.length d.gc], .agg #[.int .i64 3, .int .i64 0, .int .u64 0, .int .u64 0, .int .u64 ix, .int .u64 x.term, .int .i64 x.kind, .int .i64 x.node, .int .i64 x.token, .slice x.A x.nodes.length x.c, .int .u64 x.boot, .int .u64 x.seq, .int .u64 x.serial, .int .u64 x.stamp, .int .u64 0, .int .u64 0, .slice none 0 0, .int .i64 0, .int .u64 0, .slice none 0 0, .slice none 0 0]] w (RefDoneL w0 F d L2) := by
  refine (refDone_add d x ix S4 w HS0 hF hg hn hix).mono ?_
  rintro e w' ⟨A9, c9, S9, rfl, HS⟩
  have hl : d.log.length + 1 = L2.length := by rw [← hL]; simp
  rw [hL, hl] at HS
  exact ⟨A9, c9, S9, by rw [hl], HS⟩
end Go.Proofs.Ytekjihmepdhmeaa.Rlo

end
section
/- Lemmas towards the law: what of the text KTwo it needs. -/
namespace Go.Proofs.Ytekjihmepdhmeaa.Sl
open Go.RowKit Go.Proofs.YtekjihmepdhmeaaW.PrintWords
set_option linter.unusedVariables false
set_option linter.unusedSimpArgs false
section
variable {P : Program} {ops : Array Oper} {Q : Exit → Act → World → Prop} {S : World → Prop} {ks : List Nat} {fuel : Nat} {listed : Array Bool} {a : Act} {w w0 : World} {is : List HP} {o : Oper}
/-- operation i, then the rest -/
def OneOp (P : Program) (ops : Array Oper) (Q : Exit → Act → World → Prop) (S : World → Prop) (ks : List Nat) (fuel : Nat) (listed : Array Bool) (a : Act) (w : World) (i : Nat) : Prop :=
  wpOp P ops Q i (fun a' w' => (kDone ks (listed.setIfInBounds i true) = false → S w') ∧ wpAnyK P ops Q S ks fuel (listed.setIfInBounds i true) a' w') a w
theorem k_two (i j : Nat) (hr : Region.ready .any ops listed = [i, j]) (h1 : OneOp P ops Q S ks fuel listed a w i) (h2 : OneOp P ops Q S ks fuel listed a w j) : wpAnyK P ops Q S ks (fuel + 1) listed a w := by
  refine ⟨fun h0 => absurd (hr ▸ h0) (by simp), fun k hk => ?_⟩
  rw [hr] at hk
  rcases List.mem_cons.1 hk with rfl | hk
  · exact h1
  · obtain rfl := List.mem_singleton.1 hk
    exact h2
theorem k_oneI (i : Nat) (hi : ops[i]? = some o)
    (h : wpList P ops (onlyN fun a' w' => (kDone ks (listed.setIfInBounds i true) = false → SH w0 w' is) ∧ wpAnyK P ops Q (fun w => SH w0 w is) ks fuel (listed.setIfInBounds i true) a' w') [o] a w) : OneOp P ops Q (fun w => SH w0 w is) ks fuel listed a w i := by
  unfold OneOp wpOp
  rw [hi]
  unfold wpList at h
  split at h
  · rename_i hw
    show if _ then _ else _
    rw [if_pos hw]
    rcases h with h | ⟨_, _, _, h⟩
    · exact .inl (upon_only _ h)
    · exact h.elim
  · rename_i hw
    show if _ then _ else _
    rw [if_neg hw]
    exact h
theorem k_callI (i : Nat) (hi : ops[i]? = some o) (hw : Region.wanted o (yielded ops a.tmps) = true)
    {f : FuncId} {xs : Array Operand} {ts : Array TypeId} (ho : o.op = .call { callee := .value (.func f), args := xs, argTypes := ts }) {vs : Array Value} (hvs : xs.map a.eval = vs) (hf : callable P f = true)
    {R : Ending → World → Prop} (hc : Calls P f vs w R)
    (h : ∀ e w', R e w' → ∃ v, e = .returned v ∧ SH w0 w' is ∧ wpAnyK P ops Q (fun w => SH w0 w is) ks fuel (listed.setIfInBounds i true) (a.put o.dst v) w') : OneOp P ops Q (fun w => SH w0 w is) ks fuel listed a w i := by
  unfold OneOp wpOp
  rw [hi]
  show if _ then _ else _
  rw [if_pos hw]
  refine .inl ?_
  have he : (execOp a.eval o).run P w = .ok (.enter f vs) w := by
    subst hvs
    unfold execOp
    simp [ho, Act.eval, go_sem, run_callable hf]
  unfold Oper.wp
  rw [he, Oper.upon_enter]
  refine hc.mono fun e w' hR => ?_
  obtain ⟨v, rfl, hS, hrest⟩ := h e w' hR
  exact ⟨fun _ => hS, hrest⟩
end
end Go.Proofs.Ytekjihmepdhmeaa.Sl

end
