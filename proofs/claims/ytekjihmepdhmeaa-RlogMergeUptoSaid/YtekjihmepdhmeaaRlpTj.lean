import Derived.Test.YtekjihmepdhmeaaRlpRj
/- Lemmas towards the law: what of the text RlpT it needs. -/
namespace Go.Proofs.Ytekjihmepdhmeaa.Rlo
open Go.RowKit Go.Proofs.YtekjihmepdhmeaaW.PrintWords Go.Proofs.Ytekjihmepdhmeaa.Sl
set_option linter.unusedVariables false
set_option linter.unusedSimpArgs false
def DoneL (d : Hrd) (L : List Ent) (w : World) (e : Ending) (w' : World) : Prop := ∃ (d2 : Hrd) (S1 S2 S3 S4 S5 : Nat → Prop), e = .returned (.tuple #[.agg #[.int .u64 d2.boot, .int .u64 d2.term, .int .i64 d2.vote, .int .u64 d2.s.si, .int .u64 d2.s.st, .slice d2.s.nA d2.s.nodes.length d2.s.nc, .int .i64 d2.s.lim, .int .u64 d2.s.nxt, .slice d2.s.hA d2.s.held.length d2.s.hc, .slice d2.s.lA d2.s.last.length d2.s.lc, .slice d2.gA d2.log.length d2.gc], .int .i64 0]) ∧ d2.boot = d.boot ∧ d2.term = d.term ∧ d2.vote = d.vote ∧ d.s.same d2.s ∧ d2.log.map Ent.data = (L).map Ent.data ∧ d2.s.held.length ≤ d2.s.hc ∧ d2.log.length ≤ d2.gc ∧ SH w w' (hrdI d2 S1 S2 S3 S4 S5)
theorem same_refl (d : Hrd) : d.same d := ⟨rfl, rfl, rfl, ⟨rfl, rfl, rfl, rfl, rfl, rfl, rfl⟩, rfl⟩
/-- the trial of the records: j are done -/
structure TryOk (d dx dy : Hrd) (l : List Ent) (R : List Rc) (j : Nat) (w : World) (I : HP) : Prop where
  same : dy.same dx
  dyok : DyOk d dy l
  chain : Chain dy (R.drop j)
  all : doAll d R = doAll dy (R.drop j)
  len : dy.log.length ≤ d.log.length + j
  mem : ∀ wz (isz : List HP), SH w wz isz → isz[3]? = some I → dx.ok wz
theorem TryOk.szd {d dx dy : Hrd} {l : List Ent} {R : List Rc} {j : Nat} {w : World} {I : HP} (h : TryOk d dx dy l R j w I) (hz : d.szd) (hl : ∀ e ∈ l, e.nodes.length * 8 ≤ 140737488351232) (hn : d.log.length + j ≤ 1000000) : dx.szd := by
  have hy : dy.szd := ⟨by rw [h.dyok.s]; exact hz.s, by have := h.len; omega, fun e he => by
    rcases h.dyok.e e he with h1 | h1
    · exact hz.e e h1
    · exact hl e h1⟩
  exact same_szd h.same hy
/-- what becomes of it, if it may come -/
structure StepT (d dx dy dyn : Hrd) (l L : List Ent) (q : Rc) : Prop where
  doR : doR dy q = some dyn
  dyok : DyOk d dyn l
  s : dyn.s = dy.s
  boot : dyn.boot = dy.boot
  term : dyn.term = dy.term
  vote : dyn.vote = dy.vote
  log : L.map Ent.data = dyn.log.map Ent.data
  len : dyn.log.length ≤ dy.log.length + 1
theorem try_case {d dx dy : Hrd} {l : List Ent} {R : List Rc} {j : Nat} {w wr : World} {I : HP} (h : TryOk d dx dy l R j w I) (hxok : dx.ok wr) (hxz : dx.szd) (hdl : dx.log.length ≤ 999999) (hes : ∀ e ∈ l, e.nodes.length * 8 ≤ 140737488351232) (hR : ∀ ix x, addR ix x ∈ R → x ∈ l) {q r : Rc} (hdrop : R.drop j = q :: R.drop (j + 1)) (hqm : q ∈ R) (hrq : r.data = q.data) :
    (∃ (dyn : Hrd) (L : List Ent), StepT d dx dy dyn l L q ∧ (∀ w1, dx.ok w1 → r.x.ok w1 → Calls Try.prog 33 #[.agg #[.int .u64 dx.boot, .int .u64 dx.term, .int .i64 dx.vote, .int .u64 dx.s.si, .int .u64 dx.s.st, .slice dx.s.nA dx.s.nodes.length dx.s.nc, .int .i64 dx.s.lim, .int .u64 dx.s.nxt, .slice dx.s.hA dx.s.held.length dx.s.hc, .slice dx.s.lA dx.s.last.length dx.s.lc, .slice dx.gA dx.log.length dx.gc], .agg #[.int .i64 r.kind, .int .i64 0, .int .u64 0, .int .u64 0, .int .u64 r.ix, .int .u64 r.x.term, .int .i64 r.x.kind, .int .i64 r.x.node, .int .i64 r.x.token, .slice r.x.A r.x.nodes.length r.x.c, .int .u64 r.x.boot, .int .u64 r.x.seq, .int .u64 r.x.serial, .int .u64 r.x.stamp, .int .u64 0, .int .u64 0, .slice none 0 0, .int .i64 0, .int .u64 0, .slice none 0 0, .slice none 0 0]] w1 (DoneL dx L w1))) ∨ (doR dy q = none ∧ (∀ w1, dx.ok w1 → r.x.ok w1 → Calls Try.prog 33 #[.agg #[.int .u64 dx.boot, .int .u64 dx.term, .int .i64 dx.vote, .int .u64 dx.s.si, .int .u64 dx.s.st, .slice dx.s.nA dx.s.nodes.length dx.s.nc, .int .i64 dx.s.lim, .int .u64 dx.s.nxt, .slice dx.s.hA dx.s.held.length dx.s.hc, .slice dx.s.lA dx.s.last.length dx.s.lc, .slice dx.gA dx.log.length dx.gc], .agg #[.int .i64 r.kind, .int .i64 0, .int .u64 0, .int .u64 0, .int .u64 r.ix, .int .u64 r.x.term, .int .i64 r.x.kind, .int .i64 r.x.node, .int .i64 r.x.token, .slice r.x.A r.x.nodes.length r.x.c, .int .u64 r.x.boot, .int .u64 r.x.seq, .int .u64 r.x.serial, .int .u64 r.x.stamp, .int .u64 0, .int .u64 0, .slice none 0 0, .int .i64 0, .int .u64 0, .slice none 0 0, .slice none 0 0]] w1 (fun e w' => e = .returned (.tuple #[.agg #[.int .u64 0, .int .u64 0, .int .i64 0, .int .u64 0, .int .u64 0, .slice none 0 0, .int .i64 0, .int .u64 0, .slice none 0 0, .slice none 0 0, .slice none 0 0], .int .i64 130]) ∧ Below w1.heap.size w1 w'))) := by
  have hch := h.chain
  rw [hdrop] at hch
  have hgx : hardOk dx = true := (same_hardOk h.same).trans h.dyok.g
  have hsx : dx.s.si = dy.s.si := h.same.s.si
  have hln := same_len h.same
  rcases hch.1 with ⟨kk, hkk, rfl⟩ | ⟨x, rfl⟩
  · have hrc : r = cutR (dy.s.si + kk + 1) := data_cut (hrq.trans (by unfold Rc.data cutR; rw [if_pos rfl]))
    refine .inl ⟨{ dy with log := dy.log.take kk }, dx.log.take kk, ⟨doR_cut _ _, ⟨h.dyok.s, ?_, fun e he => h.dyok.e e (List.mem_of_mem_take he)⟩, rfl, rfl, rfl, rfl, by rw [List.map_take, List.map_take, h.same.log], by show (dy.log.take kk).length ≤ _; rw [List.length_take]; omega⟩, fun w1 hw hxw => ?_⟩
    · have h1 := hardOk_take (d := dx) (d2 := { dx with log := dx.log.take kk }) (k := kk) hxok hgx (by rw [hln]; exact hkk) rfl rfl rfl ⟨rfl, rfl, rfl, rfl, rfl, rfl, rfl⟩ rfl
      have h2 := hardOk_of (d := { dy with log := dy.log.take kk }) (d2 := { dx with log := dx.log.take kk }) h.same.boot h.same.term h.same.vote h.same.s (by show (dx.log.take kk).map Ent.data = (dy.log.take kk).map Ent.data; rw [List.map_take, List.map_take, h.same.log])
      rw [← h2]; exact h1
    · subst hrc
      exact do_cut dx kk (dy.s.si + kk + 1) w1 hw hxz hgx (by rw [hln]; exact hkk) (by rw [hsx])
  · obtain ⟨hk3, hix, hxd⟩ := data_add hrq
    have hxl := hR _ _ hqm
    have hnd : r.x.nodes = x.nodes := by have := congrArg (fun e : Ent => e.nodes) hxd; exact this
    have hok : okAdd dx r.x = okAdd dy x := okAdd_data h.same hxd
    have hcall : ∀ w1, dx.ok w1 → r.x.ok w1 → Calls Try.prog 33 #[.agg #[.int .u64 dx.boot, .int .u64 dx.term, .int .i64 dx.vote, .int .u64 dx.s.si, .int .u64 dx.s.st, .slice dx.s.nA dx.s.nodes.length dx.s.nc, .int .i64 dx.s.lim, .int .u64 dx.s.nxt, .slice dx.s.hA dx.s.held.length dx.s.hc, .slice dx.s.lA dx.s.last.length dx.s.lc, .slice dx.gA dx.log.length dx.gc], .agg #[.int .i64 r.kind, .int .i64 0, .int .u64 0, .int .u64 0, .int .u64 r.ix, .int .u64 r.x.term, .int .i64 r.x.kind, .int .i64 r.x.node, .int .i64 r.x.token, .slice r.x.A r.x.nodes.length r.x.c, .int .u64 r.x.boot, .int .u64 r.x.seq, .int .u64 r.x.serial, .int .u64 r.x.stamp, .int .u64 0, .int .u64 0, .slice none 0 0, .int .i64 0, .int .u64 0, .slice none 0 0, .slice none 0 0]] w1 (DoAdd dx r.x w1) := fun w1 hw hxw => by
      rw [hk3, hix]
      exact do_added dx r.x (dy.s.si + dy.log.length + 1) w1 hw hxz hgx hxw (by rw [hnd]; exact hes x hxl) (by omega) (by rw [hsx, hln])
    cases ho : okAdd dy x with
    | true =>
      refine .inl ⟨{ dy with log := dy.log ++ [x] }, dx.log ++ [r.x], ⟨by rw [doR_add, ho]; rfl, h.dyok.add hxl ho, rfl, rfl, rfl, rfl, by rw [List.map_append, List.map_append, h.same.log, List.map_cons, List.map_cons, hxd], by show (dy.log ++ [x]).length ≤ _; simp⟩, fun w1 hw hxw => ?_⟩
      refine (hcall w1 hw hxw).mono ?_
      rintro e w' (⟨_, h9⟩ | ⟨h9, _⟩)
      · exact h9
      · rw [hok, ho] at h9; cases h9
    | false =>
      refine .inr ⟨by rw [doR_add, ho]; rfl, fun w1 hw hxw => ?_⟩
      refine (hcall w1 hw hxw).mono ?_
      rintro e w' (⟨h9, _⟩ | ⟨_, h9⟩)
      · rw [hok, ho] at h9; cases h9
      · exact h9
theorem okI {d d2 : Hrd} {S1 S2 S3 S4 S5 : Nat → Prop} {w wx : World} (h : (allI (hrdI d2 S1 S2 S3 S4 S5)).ok w) (hk : d.ok wx) (hb : d2.boot = d.boot) (ht : d2.term = d.term) (hs : d.s.same d2.s) (hc : d2.s.held.length ≤ d2.s.hc) : d2.ok w where
  s := { rn := (h.1 (rdI (ints .i64) 1 d2.s.nA d2.s.nodes.length d2.s.nodes S1) (by simp [hrdI])).1, rh := (h.1 (rdI Led.Held.enc 5 d2.s.hA d2.s.held.length d2.s.held S2) (by simp [hrdI])).1, rl := (h.1 (rdI Led.Last.enc 6 d2.s.lA d2.s.last.length d2.s.last S3) (by simp [hrdI])).1, hc := hc, si := by rw [hs.si]; exact hk.s.si, st := by rw [hs.st]; exact hk.s.st, nxt := by rw [hs.nxt]; exact hk.s.nxt, ser := by rw [hs.last]; exact hk.s.ser }
  rg := (h.1 (rdI Ent.enc 9 d2.gA d2.log.length d2.log S4) (by simp [hrdI])).1
  re := fun e he => (h.1 (nodesI d2.log S5) (by simp [hrdI]) e he).1
  boot := by rw [hb]; exact hk.boot
  term := by rw [ht]; exact hk.term
end Go.Proofs.Ytekjihmepdhmeaa.Rlo

