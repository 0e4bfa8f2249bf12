import Derived.Test.YtekjihmepdhmeaaRlqAj
import Derived.Test.YtekjihmepdhmeaaRlpTj
/- Lemmas towards the law: what of the text RlqB it needs. -/
namespace Go.Proofs.Ytekjihmepdhmeaa.Rlo
open Go.RowKit Go.Proofs.YtekjihmepdhmeaaW.PrintWords Go.Proofs.Ytekjihmepdhmeaa.Sl
set_option linter.unusedVariables false
set_option linter.unusedSimpArgs false
theorem try_caseR {d dx dy : Hrd} {l : List Ent} {R : List Rc} {j : Nat} {w wr : World} {I : HP} (h : TryOk d dx dy l R j w I) (hxok : dx.ok wr) (hxz : dx.szd) (hdl : dx.log.length ≤ 999999) (hes : ∀ e ∈ l, e.nodes.length * 8 ≤ 140737488351232) (hR : ∀ ix x, addR ix x ∈ R → x ∈ l) {q r : Rc} (hdrop : R.drop j = q :: R.drop (j + 1)) (hqm : q ∈ R) (hrq : r.data = q.data) :
    (∃ (dyn : Hrd) (L : List Ent), StepT d dx dy dyn l L q ∧ (∀ w1, dx.ok w1 → r.x.ok w1 → Calls Try.prog 49 #[.agg #[.int .u64 dx.boot, .int .u64 dx.term, .int .i64 dx.vote, .int .u64 dx.s.si, .int .u64 dx.s.st, .slice dx.s.nA dx.s.nodes.length dx.s.nc, .int .i64 dx.s.lim, .int .u64 dx.s.nxt, .slice dx.s.hA dx.s.held.length dx.s.hc, .slice dx.s.lA dx.s.last.length dx.s.lc, .slice dx.gA dx.log.length dx.gc], .agg #[.int .i64 r.kind, .int .i64 0, .int .u64 0, .int .u64 0, .int .u64 r.ix, .int .u64 r.x.term, .int .i64 r.x.kind, .int .i64 r.x.node, .int .i64 r.x.token, .slice r.x.A r.x.nodes.length r.x.c, .int .u64 r.x.boot, .int .u64 r.x.seq, .int .u64 r.x.serial, .int .u64 r.x.stamp, .int .u64 0, .int .u64 0, .slice none 0 0, .int .i64 0, .int .u64 0, .slice none 0 0, .slice none 0 0]] w1 (DoneL dx L w1))) ∨ (doR dy q = none ∧ (∀ w1, dx.ok w1 → r.x.ok w1 → Calls Try.prog 49 #[.agg #[.int .u64 dx.boot, .int .u64 dx.term, .int .i64 dx.vote, .int .u64 dx.s.si, .int .u64 dx.s.st, .slice dx.s.nA dx.s.nodes.length dx.s.nc, .int .i64 dx.s.lim, .int .u64 dx.s.nxt, .slice dx.s.hA dx.s.held.length dx.s.hc, .slice dx.s.lA dx.s.last.length dx.s.lc, .slice dx.gA dx.log.length dx.gc], .agg #[.int .i64 r.kind, .int .i64 0, .int .u64 0, .int .u64 0, .int .u64 r.ix, .int .u64 r.x.term, .int .i64 r.x.kind, .int .i64 r.x.node, .int .i64 r.x.token, .slice r.x.A r.x.nodes.length r.x.c, .int .u64 r.x.boot, .int .u64 r.x.seq, .int .u64 r.x.serial, .int .u64 r.x.stamp, .int .u64 0, .int .u64 0, .slice none 0 0, .int .i64 0, .int .u64 0, .slice none 0 0, .slice none 0 0]] w1 (fun e w' => e = .returned (.tuple #[.agg #[.int .u64 0, .int .u64 0, .int .i64 0, .int .u64 0, .int .u64 0, .slice none 0 0, .int .i64 0, .int .u64 0, .slice none 0 0, .slice none 0 0, .slice none 0 0], .int .i64 130]) ∧ Below w1.heap.size w1 w'))) := by
  have hch := h.chain
  rw [hdrop] at hch
  have hgx : hardOk dx = true := (same_hardOk h.same).trans h.dyok.g
  have hsx : dx.s.si = dy.s.si := h.same.s.si
  have hln := same_len h.same
  rcases hch.1 with ⟨kk, hkk, rfl⟩ | ⟨x, rfl⟩
  · have hrc : r = cutR (dy.s.si + kk + 1) := data_cut (hrq.trans (by unfold Rc.data cutR; rw [if_pos rfl]))
    refine .inl ⟨{ dy with log := dy.log.take kk }, dx.log.take kk, ⟨doR_cut _ _, ⟨h.dyok.s, ?_, fun e he => h.dyok.e e (List.mem_of_mem_take he)⟩, rfl, rfl, rfl, rfl, by rw [List.map_take, List.map_take, h.same.log], by show (dy.log.take kk).length ≤ _; rw [List.length_take]; omega⟩, fun w1 hw hxw => ?_⟩
    · have h1 := hardOk_take (d := dx) (d2 := { dx with log := dx.log.take kk }) (k := kk) hxok hgx (by rw [hln]; exact hkk) rfl rfl rfl ⟨rfl, rfl, rfl, rfl, rfl, rfl, rfl⟩ rfl
      have h2 := hardOk_of (d := { dy with log := dy.log.take kk }) (d2 := { dx with log := dx.log.take kk }) h.same.boot h.same.term h.same.vote h.same.s (by show (dx.log.take kk).map Ent.data = (dy.log.take kk).map Ent.data; rw [List.map_take, List.map_take, h.same.log])
      rw [← h2]; exact h1
    · subst hrc
      exact refDo_cut dx kk (dy.s.si + kk + 1) w1 hw hxz hgx (by rw [hln]; exact hkk) (by rw [hsx])
  · obtain ⟨hk3, hix, hxd⟩ := data_add hrq
    have hxl := hR _ _ hqm
    have hnd : r.x.nodes = x.nodes := by have := congrArg (fun e : Ent => e.nodes) hxd; exact this
    have hok : okAdd dx r.x = okAdd dy x := okAdd_data h.same hxd
    have hcall : ∀ w1, dx.ok w1 → r.x.ok w1 → Calls Try.prog 49 #[.agg #[.int .u64 dx.boot, .int .u64 dx.term, .int .i64 dx.vote, .int .u64 dx.s.si, .int .u64 dx.s.st, .slice dx.s.nA dx.s.nodes.length dx.s.nc, .int .i64 dx.s.lim, .int .u64 dx.s.nxt, .slice dx.s.hA dx.s.held.length dx.s.hc, .slice dx.s.lA dx.s.last.length dx.s.lc, .slice dx.gA dx.log.length dx.gc], .agg #[.int .i64 r.kind, .int .i64 0, .int .u64 0, .int .u64 0, .int .u64 r.ix, .int .u64 r.x.term, .int .i64 r.x.kind, .int .i64 r.x.node, .int .i64 r.x.token, .slice r.x.A r.x.nodes.length r.x.c, .int .u64 r.x.boot, .int .u64 r.x.seq, .int .u64 r.x.serial, .int .u64 r.x.stamp, .int .u64 0, .int .u64 0, .slice none 0 0, .int .i64 0, .int .u64 0, .slice none 0 0, .slice none 0 0]] w1 (DoAdd dx r.x w1) := fun w1 hw hxw => by
      rw [hk3, hix]
      exact refDo_add dx r.x (dy.s.si + dy.log.length + 1) w1 hw hxz hgx hxw (by rw [hnd]; exact hes x hxl) (by omega) (by rw [hsx, hln])
    cases ho : okAdd dy x with
    | true =>
      refine .inl ⟨{ dy with log := dy.log ++ [x] }, dx.log ++ [r.x], ⟨by rw [doR_add, ho]; rfl, h.dyok.add hxl ho, rfl, rfl, rfl, rfl, by rw [List.map_append, List.map_append, h.same.log, List.map_cons, List.map_cons, hxd], by show (dy.log ++ [x]).length ≤ _; simp⟩, fun w1 hw hxw => ?_⟩
      refine (hcall w1 hw hxw).mono ?_
      rintro e w' (⟨_, h9⟩ | ⟨h9, _⟩)
      · exact h9
      · rw [hok, ho] at h9; cases h9
    | false =>
      refine .inr ⟨by rw [doR_add, ho]; rfl, fun w1 hw hxw => ?_⟩
      refine (hcall w1 hw hxw).mono ?_
      rintro e w' (⟨h9, _⟩ | ⟨_, h9⟩)
      · rw [hok, ho] at h9; cases h9
      · exact h9
end Go.Proofs.Ytekjihmepdhmeaa.Rlo

