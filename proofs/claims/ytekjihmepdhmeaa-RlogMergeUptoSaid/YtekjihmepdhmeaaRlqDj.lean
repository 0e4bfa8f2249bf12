import Derived.Test.YtekjihmepdhmeaaRlpUj
import Derived.Test.YtekjihmepdhmeaaRlpXj
section
/- Lemmas towards the law: what of the text RlqD it needs. -/
namespace Go.Proofs.Ytekjihmepdhmeaa.Rlo
open Go.RowKit Go.Proofs.YtekjihmepdhmeaaW.PrintWords Go.Proofs.Ytekjihmepdhmeaa.Sl
set_option linter.unusedVariables false
set_option linter.unusedSimpArgs false
theorem skip_data {d : Hrd} {commit : Int} : ∀ (l l' : List Ent) (i : Int), l'.map Ent.data = l.map Ent.data → (skipM d commit l' i).i = (skipM d commit l i).i ∧ (skipM d commit l' i).cut = (skipM d commit l i).cut ∧ (skipM d commit l' i).bad = (skipM d commit l i).bad ∧ (skipM d commit l' i).l.map Ent.data = (skipM d commit l i).l.map Ent.data
  | [], [], i, _ => ⟨rfl, rfl, rfl, rfl⟩
  | [], _ :: _, i, h => by simp at h
  | _ :: _, [], i, h => by simp at h
  | x :: l, y :: l', i, h => by
    have hxy : y.data = x.data := by simp only [List.map_cons, List.cons.injEq] at h; exact h.1
    have hl : l'.map Ent.data = l.map Ent.data := by simp only [List.map_cons, List.cons.injEq] at h; exact h.2
    have ht : y.term = x.term := by have := congrArg Ent.term hxy; exact this
    rw [skipM_cons, skipM_cons, ht]
    split
    · exact ⟨rfl, rfl, rfl, h⟩
    · split
      · exact skip_data l l' (i + 1) hl
      · split
        · exact ⟨rfl, rfl, rfl, h⟩
        · exact ⟨rfl, rfl, rfl, h⟩
theorem addR_data {ix : Int} {x y : Ent} (h : y.data = x.data) : (addR ix y).data = (addR ix x).data := by
  unfold Rc.data addR
  rw [if_neg (show ¬ (3 : Int) = 4 by decide), if_neg (show ¬ (3 : Int) = 4 by decide)]
  simp only [h]
theorem adds_data : ∀ (l l' : List Ent) (i : Int), l'.map Ent.data = l.map Ent.data → (addsM l' i).map Rc.data = (addsM l i).map Rc.data
  | [], [], i, _ => rfl
  | [], _ :: _, i, h => by simp at h
  | _ :: _, [], i, h => by simp at h
  | x :: l, y :: l', i, h => by
    simp only [List.map_cons, List.cons.injEq] at h
    rw [addsM, addsM, List.map_cons, List.map_cons, addR_data h.1, adds_data l l' (i + 1) h.2]
theorem recs_data {S S' : Skp} (h1 : S'.i = S.i) (h2 : S'.cut = S.cut) (h3 : S'.l.map Ent.data = S.l.map Ent.data) : (recsM S').map Rc.data = (recsM S).map Rc.data := by
  unfold recsM
  rw [List.map_append, List.map_append, h1, h2, adds_data _ _ _ h3]
theorem doR_data {d d' : Hrd} (h : d.same d') {r r' : Rc} (hr : r'.data = r.data) : (doR d r = none ∧ doR d' r' = none) ∨ ∃ e e', doR d r = some e ∧ doR d' r' = some e' ∧ e.same e' := by
  by_cases hk : r.kind = 4
  · have h1 : r.data = r := by unfold Rc.data; rw [if_pos hk]
    have h2 : r' = r := by
      rw [h1] at hr
      unfold Rc.data at hr
      split at hr
      · exact hr
      · rename_i h3
        exact absurd ((congrArg Rc.kind hr).trans hk) h3
    subst h2
    refine .inr ⟨{ d with log := d.log.take (r'.ix - d.s.si - 1).toNat }, { d' with log := d'.log.take (r'.ix - d.s.si - 1).toNat }, by unfold doR; rw [if_pos hk], by unfold doR; rw [if_pos hk, h.s.si], ⟨h.boot, h.term, h.vote, h.s, ?_⟩⟩
    show (d'.log.take _).map Ent.data = (d.log.take _).map Ent.data
    rw [List.map_take, List.map_take, h.log]
  · have hk' : ¬ r'.kind = 4 := fun h4 => by
      have h1 : r'.data = r' := by unfold Rc.data; rw [if_pos h4]
      have h2 : r.data = { r with x := r.x.data } := by unfold Rc.data; rw [if_neg hk]
      rw [h1, h2] at hr
      rw [hr] at h4
      exact hk h4
    have hx : r'.x.data = r.x.data := by
      unfold Rc.data at hr
      rw [if_neg hk, if_neg hk'] at hr
      have := congrArg Rc.x hr
      exact this
    have ho := okAdd_data h hx
    unfold doR
    rw [if_neg hk, if_neg hk', ho]
    cases okAdd d r.x with
    | false => exact .inl ⟨rfl, rfl⟩
    | true =>
      refine .inr ⟨_, _, rfl, rfl, ⟨h.boot, h.term, h.vote, h.s, ?_⟩⟩
      show (d'.log ++ [r'.x]).map Ent.data = (d.log ++ [r.x]).map Ent.data
      rw [List.map_append, List.map_append, h.log, List.map_cons, List.map_cons, hx]
theorem doAll_data : ∀ (R R' : List Rc) (d d' : Hrd), d.same d' → R'.map Rc.data = R.map Rc.data → (doAll d' R').isSome = (doAll d R).isSome
  | [], [], d, d', _, _ => rfl
  | [], _ :: _, d, d', _, h => by simp at h
  | _ :: _, [], d, d', _, h => by simp at h
  | r :: R, r' :: R', d, d', h, hR => by
    simp only [List.map_cons, List.cons.injEq] at hR
    rw [doAll, doAll]
    rcases doR_data h hR.1 with ⟨h1, h2⟩ | ⟨e, e', h1, h2, h3⟩
    · rw [h1, h2]; rfl
    · rw [h1, h2]
      exact doAll_data R R' e e' h3 hR.2
theorem mergeG_data {d d' : Hrd} (h : d.same d') {ix t commit : Int} {l l' : List Ent} (hl : l'.map Ent.data = l.map Ent.data) : (mergeG d' ix t commit l').1 = (mergeG d ix t commit l).1 ∧ (mergeG d' ix t commit l').2.map Rc.data = (mergeG d ix t commit l).2.map Rc.data := by
  have hlen : l'.length = l.length := by
    have := congrArg List.length hl
    rwa [List.length_map, List.length_map] at this
  unfold mergeG
  rw [same_hardOk h]
  split
  · exact ⟨rfl, rfl⟩
  · rw [same_head h]
    have hh : (headM d ix t l = none ∧ headM d ix t l' = none) ∨ (headM d ix t l = some none ∧ headM d ix t l' = some none) ∨ ∃ a b i, headM d ix t l = some (some (a, i)) ∧ headM d ix t l' = some (some (b, i)) ∧ b.map Ent.data = a.map Ent.data := by
      unfold headM
      rw [hlen]
      split
      · split
        · exact .inr (.inl ⟨rfl, rfl⟩)
        · exact .inr (.inr ⟨_, _, _, rfl, rfl, by rw [List.map_drop, List.map_drop, hl]⟩)
      · split
        · exact .inr (.inr ⟨_, _, _, rfl, rfl, hl⟩)
        · exact .inl ⟨rfl, rfl⟩
    rcases hh with ⟨h1, h2⟩ | ⟨h1, h2⟩ | ⟨a, b, i, h1, h2, h3⟩
    · rw [h1, h2]; exact ⟨rfl, rfl⟩
    · rw [h1, h2]; exact ⟨rfl, rfl⟩
    · rw [h1, h2]
      simp only
      rw [same_skip h]
      obtain ⟨s1, s2, s3, s4⟩ := skip_data (d := d) (commit := commit) a b i h3
      rw [s3]
      split
      · exact ⟨rfl, rfl⟩
      · have hr := recs_data s1 s2 s4
        have hd := doAll_data _ _ d d' h hr
        revert hd
        cases doAll d' (recsM (skipM d commit b i)) <;> cases doAll d (recsM (skipM d commit a i)) <;> intro hd
        · exact ⟨rfl, rfl⟩
        · cases hd
        · cases hd
        · exact ⟨rfl, hr⟩
end Go.Proofs.Ytekjihmepdhmeaa.Rlo

end
section
/- Lemmas towards the law: what of the text RlqE it needs. -/
namespace Go.Proofs.Ytekjihmepdhmeaa.Rlo
open Go.RowKit Go.Proofs.YtekjihmepdhmeaaW.PrintWords Go.Proofs.Ytekjihmepdhmeaa.Sl
set_option linter.unusedVariables false
set_option linter.unusedSimpArgs false
theorem rec_data {r r' : Rc} (h : r'.data = r.data) : r'.kind = r.kind ∧ r'.ix = r.ix ∧ r'.x.data = r.x.data := by
  unfold Rc.data at h
  split at h <;> split at h
  · subst h; exact ⟨rfl, rfl, rfl⟩
  · rename_i h1 h2
    rw [h] at h1
    exact absurd h1 h2
  · rename_i h1 h2
    rw [← h] at h2
    exact absurd h2 h1
  · exact ⟨by have := congrArg Rc.kind h; exact this, by have := congrArg Rc.ix h; exact this, by have := congrArg Rc.x h; exact this⟩
theorem sameRec2 (r r' : Rc) (h : r'.data = r.data) (w : World) (hk : r.x.ok w) (hk' : r'.x.ok w) : Calls Try.prog 50 #[.agg #[.int .i64 r'.kind, .int .i64 0, .int .u64 0, .int .u64 0, .int .u64 r'.ix, .int .u64 r'.x.term, .int .i64 r'.x.kind, .int .i64 r'.x.node, .int .i64 r'.x.token, .slice r'.x.A r'.x.nodes.length r'.x.c, .int .u64 r'.x.boot, .int .u64 r'.x.seq, .int .u64 r'.x.serial, .int .u64 r'.x.stamp, .int .u64 0, .int .u64 0, .slice none 0 0, .int .i64 0, .int .u64 0, .slice none 0 0, .slice none 0 0], .agg #[.int .i64 r.kind, .int .i64 0, .int .u64 0, .int .u64 0, .int .u64 r.ix, .int .u64 r.x.term, .int .i64 r.x.kind, .int .i64 r.x.node, .int .i64 r.x.token, .slice r.x.A r.x.nodes.length r.x.c, .int .u64 r.x.boot, .int .u64 r.x.seq, .int .u64 r.x.serial, .int .u64 r.x.stamp, .int .u64 0, .int .u64 0, .slice none 0 0, .int .i64 0, .int .u64 0, .slice none 0 0, .slice none 0 0]] w (fun e w' => e = .returned (.bool true) ∧ Below w.heap.size w w') := by
  obtain ⟨h1, h2, h3⟩ := rec_data h
  have hn : r'.x.nodes = r.x.nodes := by have := congrArg Ent.nodes h3; exact this
  have a1 : r'.x.term = r.x.term := by have := congrArg Ent.term h3; exact this
  have a2 : r'.x.kind = r.x.kind := by have := congrArg Ent.kind h3; exact this
  have a3 : r'.x.node = r.x.node := by have := congrArg Ent.node h3; exact this
  have a4 : r'.x.token = r.x.token := by have := congrArg Ent.token h3; exact this
  have a5 : r'.x.boot = r.x.boot := by have := congrArg Ent.boot h3; exact this
  have a6 : r'.x.seq = r.x.seq := by have := congrArg Ent.seq h3; exact this
  have a7 : r'.x.serial = r.x.serial := by have := congrArg Ent.serial h3; exact this
  have a8 : r'.x.stamp = r.x.stamp := by have := congrArg Ent.stamp h3; exact this
  have hr := hk'.rd
  rw [hn] at hr
  rw [h1, h2, hn, a1, a2, a3, a4, a5, a6, a7, a8]
  exact sameRec_any r r'.x.A r'.x.c w hk hr
set_option maxHeartbeats 3200000 in
set_option maxRecDepth 100000 in
theorem sameRecs_any (A A' : Option Addr) (c c' : Nat) (l l' : List Rc) (w : World) {M : Nat} (hr' : Rd Rc.enc 21 w A' M l') (hr : Rd Rc.enc 21 w A M l) (he' : ∀ e ∈ l', e.x.ok w) (he : ∀ e ∈ l, e.x.ok w) (hd : l'.map Rc.data = l.map Rc.data) :
    Calls Try.prog 31 #[.slice A' M c', .slice A M c] w (fun e w' => e = .returned (.bool true) ∧ Below w.heap.size w w') := by
  obtain rfl := hr.len.1
  have hll := hr'.len.1
  have hm := hr.len.2
  have HR := Aside0.mk hr
  have HR' := Aside0.mk hr'
  have HE := Aside0.mk he
  have HE' := Aside0.mk he'
  have HD := Aside0.mk hd
  have HLL := Aside0.mk hll
  clear hr hr' he he' hd hll
  have HS := Aside0.mk (SH.start w)
  go_enter Try.func31, Try.ntmps31
  go_wp2
  go_loopw [5, 13] (fun v5 v13 wr => ∃ (k : Nat), k ≤ l.length ∧ v13 = .int .i64 k ∧ Aside0 (SH w wr [])) (fun _ v13 _ => l.length - (intOf v13).toNat)
  case atStart => exact ⟨0, Nat.zero_le _, rfl, HS⟩
  case round =>
    clear HS
    obtain ⟨k, hk, rfl, HS⟩ := hrel
    by_cases hlt : k < l.length
    · obtain ⟨ad1, rfl⟩ := HR.out.addr (by omega)
      obtain ⟨ad2, rfl⟩ := HR'.out.addr (by omega)
      have hlt' : k < l'.length := by rw [HLL.out]; exact hlt
      have hrq : (l'.getD k default).data = (l.getD k default).data := by
        have h1 := congrArg (fun l => l[k]?) HD.out
        simp only [List.getElem?_map] at h1
        rw [List.getElem?_eq_getElem hlt, List.getElem?_eq_getElem hlt'] at h1
        rw [List.getD_eq_getElem?_getD, List.getD_eq_getElem?_getD, List.getElem?_eq_getElem hlt, List.getElem?_eq_getElem hlt']
        simpa using h1
      have HXO := Aside0.mk (HE.out _ (getD_in (d := default) hlt rfl))
      have HXP := Aside0.mk (HE'.out _ (getD_in (d := default) hlt' rfl))
      have HRQ := Aside0.mk hrq
      clear hrq hlt'
      have HRS := Aside0.mk (HR.out.rds [])
      have HRS' := Aside0.mk (HR'.out.rds [])
      go_upto_region 6 with (first | ((first | ((first | ((with_reducible refine gA rfl ?_); refine sh_alloc HS.out rfl rfl (zeT _ (by decide)) ?_) | ((with_reducible refine gB rfl ?_); refine bx HS.out rfl rfl ?_; first | refine bv (v := .agg (List.toArray _)) rfl ?_ | refine bv (v := .int _ _) rfl ?_ | refine bv (v := .slice _ _ _) rfl ?_ | refine bv (v := .bool _) rfl ?_ | refine bv (v := .pointer _) rfl ?_) | ((with_reducible refine gL rfl ?_); refine sh_lit HS.out rfl rfl (by go_simp; exact ⟨⟨rfl, rfl⟩, rfl⟩) ?_)); clear HS; intro g w1 hg HS1; (simp only [Ent.enc, Led.Held.enc, Led.Last.enc, Rc.enc, zeF, segOf, aL, aC, aE] at HS1); have HS := Aside0.mk HS1; clear HS1)); try simp only [aP, aN, aT, aZ, aS]))
      ((with_reducible refine wp_region_sh mixed (by kernel_rfl) HS.out ?_); (repeat' (first | go_big_quiet_skip | ((with_reducible refine qMv rfl ?_); go_big_quiet_step (fail)) | ((with_reducible refine qAs rfl ?_); go_big_quiet_step (fail)) | ((with_reducible refine qPk rfl ?_); go_big_quiet_step (fail)) | ((with_reducible refine qLd rfl ?_); refine q_rd HRS'.out rfl rfl (i := k) rfl hlt default Rc.len ((agT _ (by decide)).trans rfl) (szT _ (by decide)) ?_; (try simp only [Ent.enc, Led.Held.enc, Led.Last.enc, Rc.enc, aP, aN, aT, aZ, aS])) | ((with_reducible refine qLd rfl ?_); refine q_rd HRS.out rfl rfl (i := k) rfl hlt default Rc.len ((agT _ (by decide)).trans rfl) (szT _ (by decide)) ?_; (try simp only [Ent.enc, Led.Held.enc, Led.Last.enc, Rc.enc, aP, aN, aT, aZ, aS])) | ((with_reducible refine qCl rfl ?_); refine q_call rfl rfl (vs := #[.agg #[.int .i64 (l'.getD k default).kind, .int .i64 0, .int .u64 0, .int .u64 0, .int .u64 (l'.getD k default).ix, .int .u64 (l'.getD k default).x.term, .int .i64 (l'.getD k default).x.kind, .int .i64 (l'.getD k default).x.node, .int .i64 (l'.getD k default).x.token, .slice (l'.getD k default).x.A (l'.getD k default).x.nodes.length (l'.getD k default).x.c, .int .u64 (l'.getD k default).x.boot, .int .u64 (l'.getD k default).x.seq, .int .u64 (l'.getD k default).x.serial, .int .u64 (l'.getD k default).x.stamp, .int .u64 0, .int .u64 0, .slice none 0 0, .int .i64 0, .int .u64 0, .slice none 0 0, .slice none 0 0], .agg #[.int .i64 (l.getD k default).kind, .int .i64 0, .int .u64 0, .int .u64 0, .int .u64 (l.getD k default).ix, .int .u64 (l.getD k default).x.term, .int .i64 (l.getD k default).x.kind, .int .i64 (l.getD k default).x.node, .int .i64 (l.getD k default).x.token, .slice (l.getD k default).x.A (l.getD k default).x.nodes.length (l.getD k default).x.c, .int .u64 (l.getD k default).x.boot, .int .u64 (l.getD k default).x.seq, .int .u64 (l.getD k default).x.serial, .int .u64 (l.getD k default).x.stamp, .int .u64 0, .int .u64 0, .slice none 0 0, .int .i64 0, .int .u64 0, .slice none 0 0, .slice none 0 0]]) (by rw [List.map_toArray]; rfl) (fnT _ (by decide)) (fun w1 hs => sameRec2 (l.getD k default) (l'.getD k default) HRQ.out w1 (HXO.out.sh hs) (HXP.out.sh hs)) ?_; (try simp only [aP, aN, aT, aZ, aS])) | ((with_reducible refine qAny ?_); refine q_val rfl (fun w hs => by (repeat (rename ∀ (_ : Act) (_ : World), _ => hK9; clear hK9)); go_simp; rfl) ?_; try simp only [aP, aN, aT, aZ, aS]))); all_goals (refine wpQuiet_nil ?_; clear HS; intro w1 HS1; have HS := Aside0.mk HS1; clear HS1))
      go_wp2
      go_roundw
      case rel => exact ⟨k + 1, by omega, by go_num, HS⟩
      case measure => simp [intOf]; omega
    · obtain rfl : k = l.length := by omega
      go_wp2
      go_ret
      exact ⟨rfl, HS.out.below⟩
end Go.Proofs.Ytekjihmepdhmeaa.Rlo

end
