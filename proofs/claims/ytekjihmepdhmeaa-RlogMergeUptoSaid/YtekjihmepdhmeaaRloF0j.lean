import Derived.Test.YtekjihmepdhmeaaRloEj
import Derived.Test.YtekjihmepdhmeaaRlo7j
import Derived.Test.YtekjihmepdhmeaaSlXq
section
/- Lemmas towards the law: what of the text RloF0 it needs. -/
namespace Go.Proofs.Ytekjihmepdhmeaa.Rlo
open Go.RowKit Go.Proofs.YtekjihmepdhmeaaW.PrintWords Go.Proofs.Ytekjihmepdhmeaa.Sl
set_option linter.unusedVariables false
set_option linter.unusedSimpArgs false
theorem cmdOk_data (e : Ent) : cmdOk e = cmdOk e.data := rfl
theorem logGo_data (t : Int) : ∀ (l l' : List Ent) (p : Int), l'.map Ent.data = l.map Ent.data → logGo t l' p = logGo t l p
  | [], [], _, _ => rfl
  | [], y :: ys, _, h => by simp at h
  | x :: xs, [], _, h => by simp at h
  | x :: xs, y :: ys, p, h => by
    simp only [List.map_cons, List.cons.injEq] at h
    have h1 : y.term = x.term := show y.data.term = x.data.term by rw [h.1]
    rw [logGo, logGo, cmdOk_data y, cmdOk_data x, h.1, h1, logGo_data t xs ys _ h.2]
theorem same_hardOk {d d' : Hrd} (h : d.same d') : hardOk d' = hardOk d := by
  have hh : headOk d' = headOk d := by
    unfold headOk shotOk lastOf
    rw [h.boot, h.term, h.vote, h.s.si, h.s.st, h.s.nodes, h.s.lim, h.s.nxt, h.s.held, h.s.last, same_len h]
  unfold hardOk
  rw [hh, h.term, h.s.st, logGo_data _ _ _ _ h.log]
end Go.Proofs.Ytekjihmepdhmeaa.Rlo

end
section
/- Lemmas towards the law: what of the text RloH it needs. -/
namespace Go.Proofs.Ytekjihmepdhmeaa.Rlo
open Go.RowKit Go.Proofs.YtekjihmepdhmeaaW.PrintWords Go.Proofs.Ytekjihmepdhmeaa.Sl
set_option linter.unusedVariables false
set_option linter.unusedSimpArgs false
def wrE (S : Nat → Prop) (w : World) (e : Ent) : Prop := 0 < e.nodes.length → ∃ (g : Nat) (cs : List Value) (t : TypeId), e.A = some ⟨g, 0, none⟩ ∧ S g ∧ w.heap[g]? = some (.cells cs.toArray t (0, 0)) ∧ e.nodes.length ≤ cs.length
/-- entries whose nodes are read, and may be turned -/
def nodesRW (l : List Ent) (S : Nat → Prop) : HP where
  fp := S
  ok := fun w => ∀ e ∈ l, e.ok w ∧ inS S e.A ∧ wrE S w e
  loc := fun h k e he => ⟨{ (k e he).1 with rd := (k e he).1.rd.loc (fun ad ea => h _ ((k e he).2.1 ad ea)) }, (k e he).2.1, fun hp => by
    obtain ⟨g, cs, t, h1, h2, h3, h4⟩ := (k e he).2.2 hp
    exact ⟨g, cs, t, h1, h2, (h g h2).trans h3, h4⟩⟩
theorem row_wr {w0 w : World} {is : List HP} (HS : SH w0 w is) (n : Nat) {e : TypeId} {A : Option Addr} {m c : Nat} {xs : List Int} {S : Nat → Prop} (hn : is[n]? = some (row (intK .i64) e (.slice A m c) xs S)) : 0 < m → ∃ (g : Nat) (cs : List Value) (t : TypeId), A = some ⟨g, 0, none⟩ ∧ S g ∧ w.heap[g]? = some (.cells cs.toArray t (0, 0)) ∧ m ≤ cs.length := by
  intro hp
  obtain ⟨g, cs, h1, h2, h3, _, h4⟩ := HS.rowBlk n hn hp
  refine ⟨g, cs, e, h1, ?_, h4.blk n (by rw [List.getElem?_set_self (List.getElem?_eq_some_iff.1 hn).1]), h3⟩
  have := (HS.at n hn).1
  subst h1
  exact this g rfl
set_option maxHeartbeats 1600000 in
set_option maxRecDepth 100000 in
theorem own_any (x : Ent) (w : World) (hk : x.ok w) (hz : x.nodes.length * 8 ≤ 140737488351232) : Calls Try.prog 45 #[.agg #[.int .u64 x.term, .int .i64 x.kind, .int .i64 x.node, .int .i64 x.token, .slice x.A x.nodes.length x.c, .int .u64 x.boot, .int .u64 x.seq, .int .u64 x.serial, .int .u64 x.stamp]] w (fun e w' => ∃ A c S, e = .returned (.agg #[.int .u64 x.term, .int .i64 x.kind, .int .i64 x.node, .int .i64 x.token, .slice A x.nodes.length c, .int .u64 x.boot, .int .u64 x.seq, .int .u64 x.serial, .int .u64 x.stamp]) ∧ SH w w' [nodesRW [x.at A c] S]) := by
  have HK := Aside0.mk hk
  clear hk
  have HS := Aside0.mk (SH.start w)
  go_enter Try.func45, Try.ntmps45
  go_wp2_with (first | (go_at_call 44; (with_reducible refine (clone_any x.A x.c x.nodes _ (HK.out.rd.sh HS.out) hz).mono ?_); rintro e w2 ⟨A1, c1, S, rfl, HS1⟩;  have HS2 := HS.out.call HS1; clear HS HS1; simp only [aC, aE] at HS2; have HS := Aside0.mk HS2; clear HS2) | ((first | ((first | ((with_reducible refine gA rfl ?_); refine sh_alloc HS.out rfl rfl (zeT _ (by decide)) ?_) | ((with_reducible refine gB rfl ?_); refine bx HS.out rfl rfl ?_; first | refine bv (v := .agg (List.toArray _)) rfl ?_ | refine bv (v := .int _ _) rfl ?_ | refine bv (v := .slice _ _ _) rfl ?_ | refine bv (v := .bool _) rfl ?_ | refine bv (v := .pointer _) rfl ?_) | ((with_reducible refine gL rfl ?_); refine sh_lit HS.out rfl rfl (by go_simp; exact ⟨⟨rfl, rfl⟩, rfl⟩) ?_)); clear HS; intro g w1 hg HS1; (simp only [Ent.enc, Led.Held.enc, Led.Last.enc, zeF, segOf, aL, aC, aE] at HS1); have HS := Aside0.mk HS1; clear HS1) | ((with_reducible refine gLd rfl ?_); refine ld2 HS.out rfl rfl rfl (by repeat (first | exact AtI.here | apply AtI.there)) ?_; (first | refine LdK.one ((agT _ (by decide)).trans rfl) rfl ?_ | (refine LdK.agg ((agT _ (by decide)).trans rfl) (szT _ (by decide)) (lb rfl) ?_; try simp only [szL, aP, aN, aT, aZ, aS, aD, aF, aJ, aK, aM, aO]))) | ((with_reducible refine gSt rfl ?_); refine st2 HS.out rfl rfl rfl rfl (by repeat (first | exact AtI.here | apply AtI.there)) ?_; (first | refine sv (u := .agg (List.toArray _)) rfl ?_ | refine sv (u := .int _ _) rfl ?_ | refine sv (u := .slice _ _ _) rfl ?_ | refine sv (u := .bool _) rfl ?_ | refine sv (u := .pointer _) rfl ?_); refine sw (szT _ (by decide)) rfl (lb rfl) ?_; clear HS; intro w1 HS1; (simp only [Ent.enc, Led.Held.enc, Led.Last.enc, segOf, aL, aZ, aS, putSeg] at HS1); have HS := Aside0.mk HS1; clear HS1)); try simp only [aP, aN, aT, aZ, aS]))
  refine bodyPost_ret (results_cell_row rfl _ _ _ _ _ _ _ rfl (HS.out.blk 1 rfl) Try.underlying52 rfl ((szT _ (by decide)).trans rfl)) rfl ?_
  refine ⟨A1, c1, S, rfl, ?_⟩
  have HS1 := HS.out.pick [2] rfl (by decide)
  have hw := row_wr HS1 0 rfl
  have hr := row_rds 0 rfl _ HS1
  have hok := (HS1.at 0 rfl).1
  refine HS1.say 0 rfl (fun _ e he => ?_) (fun b hb => hb)
  obtain rfl := List.mem_singleton.1 he
  exact ⟨{ HK.out with rd := hr }, fun ad ea => hok ad.block (by rw [show A1 = some ad from ea]; rfl), hw⟩
theorem rd_drop {α : Type} {enc : α → List Value} {sz : Nat} {w : World} {ad : Addr} {n : Nat} {xs : List α} (h : Rd enc sz w (some ad) n xs) {p : Nat} (hp : p ≤ n) : Rd enc sz w (some (ad.add (p * sz))) (n - p) (xs.drop p) := by
  refine ⟨by rw [List.length_drop, h.len.1], by have := h.len.2; omega, fun hm => ⟨_, rfl, fun j q hj => ?_⟩⟩
  obtain ⟨a1, ha1, hr⟩ := h.2.2 (by omega)
  injection ha1 with ha1
  subst ha1
  rw [List.getElem?_drop] at hj
  obtain ⟨cs, h1, h2, h3⟩ := hr (p + j) q hj
  refine ⟨cs, h1, h2, fun i u hu => ?_⟩
  rw [← h3 i u hu, add_add, ← Nat.add_assoc, Nat.add_mul]
theorem rd_take {α : Type} {enc : α → List Value} {sz : Nat} {w : World} {A : Option Addr} {n : Nat} {xs : List α} (h : Rd enc sz w A n xs) {m : Nat} (hm : m ≤ n) : Rd enc sz w A m (xs.take m) := by
  refine ⟨by rw [List.length_take, h.len.1]; omega, by have := h.len.2; omega, fun h0 => ?_⟩
  obtain ⟨a1, ha1, hr⟩ := h.2.2 (by omega)
  refine ⟨a1, ha1, fun j q hj => ?_⟩
  rw [List.getElem?_take] at hj
  split at hj
  · exact hr j q hj
  · cases hj
end Go.Proofs.Ytekjihmepdhmeaa.Rlo

end
