import Derived.Test.YtekjihmepdhmeaaLeG0j
import Derived.Test.YtekjihmepdhmeaaSlXq
import Derived.Test.YtekjihmepdhmeaaRlpJj
section
/- Lemmas towards the law: what of the text RlpB it needs. -/
namespace Go.Proofs.Ytekjihmepdhmeaa.Rlo
open Go.RowKit Go.Proofs.YtekjihmepdhmeaaW.PrintWords Go.Proofs.Ytekjihmepdhmeaa.Sl
set_option linter.unusedVariables false
set_option linter.unusedSimpArgs false
theorem lastLen {lim nxt : Int} {l : List Held} {m : List Last} (h : Led.LedOk lim nxt l m) : m.length ≤ 7 := by
  have := Led.isLed_iff.2 h
  exact Led.nodes_room (Led.isLed_parts this).2.2
end Go.Proofs.Ytekjihmepdhmeaa.Rlo

end
section
/- Lemmas towards the law: what of the text RlpD it needs. -/
namespace Go.Proofs.Ytekjihmepdhmeaa.Rlo
open Go.RowKit Go.Proofs.YtekjihmepdhmeaaW.PrintWords Go.Proofs.Ytekjihmepdhmeaa.Sl
set_option linter.unusedVariables false
set_option linter.unusedSimpArgs false
set_option maxHeartbeats 1600000 in
set_option maxRecDepth 100000 in
theorem sameShtR (si st lim nxt : Int) (nodes : List Int) (held : List Held) (last : List Last) (A1 A2 A3 B1 B2 B3 : Option Addr) (c1 c2 c3 d1 d2 d3 : Nat) (w : World) (h1 : Rd (ints .i64) 1 w A1 nodes.length nodes) (h2 : Rd Led.Held.enc 5 w A2 held.length held) (h3 : Rd Led.Last.enc 6 w A3 last.length last) (k1 : Rd (ints .i64) 1 w B1 nodes.length nodes) (k2 : Rd Led.Held.enc 5 w B2 held.length held) (k3 : Rd Led.Last.enc 6 w B3 last.length last) : Calls Try.prog 36 #[.agg #[.int .u64 si, .int .u64 st, .slice A1 nodes.length c1, .int .i64 lim, .int .u64 nxt, .slice A2 held.length c2, .slice A3 last.length c3], .agg #[.int .u64 si, .int .u64 st, .slice B1 nodes.length d1, .int .i64 lim, .int .u64 nxt, .slice B2 held.length d2, .slice B3 last.length d3]] w (fun e w' => e = .returned (.bool true) ∧ Below w.heap.size w w') := by
  have H1 := Aside0.mk h1
  have H2 := Aside0.mk h2
  have H3 := Aside0.mk h3
  have K1 := Aside0.mk k1
  have K2 := Aside0.mk k2
  have K3 := Aside0.mk k3
  have HNN := Aside0.mk (show (nodes == nodes) = true from beq_self_eq_true _)
  clear h1 h2 h3 k1 k2 k3
  have HS := Aside0.mk (SH.start w)
  go_enter Try.func36, Try.ntmps36
  go_wp2_with (first | (go_at_call 21; (with_reducible refine (Nod.refSame_any A1 B1 c1 d1 nodes nodes _ (H1.out.sh HS.out) (K1.out.sh HS.out)).mono ?_); rintro e w2 ⟨rfl, hb⟩; rw [HNN.out]; have HS1 := HS.out.quiet hb; clear HS hb; have HS := Aside0.mk HS1; clear HS1) | (go_at_call 62; (with_reducible refine (sameLed_any A2 A3 B2 B3 c2 c3 d2 d3 lim nxt held last _ (H2.out.sh HS.out) (H3.out.sh HS.out) (K2.out.sh HS.out) (K3.out.sh HS.out)).mono ?_); rintro e w2 ⟨rfl, hb⟩;  have HS1 := HS.out.quiet hb; clear HS hb; have HS := Aside0.mk HS1; clear HS1) | ((first | ((first | ((with_reducible refine gA rfl ?_); refine sh_alloc HS.out rfl rfl (zeT _ (by decide)) ?_) | ((with_reducible refine gB rfl ?_); refine bx HS.out rfl rfl ?_; first | refine bv (v := .agg (List.toArray _)) rfl ?_ | refine bv (v := .int _ _) rfl ?_ | refine bv (v := .slice _ _ _) rfl ?_ | refine bv (v := .bool _) rfl ?_ | refine bv (v := .pointer _) rfl ?_) | ((with_reducible refine gL rfl ?_); refine sh_lit HS.out rfl rfl (by go_simp; exact ⟨⟨rfl, rfl⟩, rfl⟩) ?_)); clear HS; intro g w1 hg HS1; (simp only [Ent.enc, Led.Held.enc, Led.Last.enc, zeF, segOf, aL, aC, aE] at HS1); have HS := Aside0.mk HS1; clear HS1) | ((with_reducible refine gLd rfl ?_); refine ld2 HS.out rfl rfl rfl (by repeat (first | exact AtI.here | apply AtI.there)) ?_; (first | refine LdK.one ((agT _ (by decide)).trans rfl) rfl ?_ | (refine LdK.agg ((agT _ (by decide)).trans rfl) (szT _ (by decide)) (lb rfl) ?_; try simp only [szL, aP, aN, aT, aZ, aS, aD, aF, aJ, aK, aM, aO]))) | ((with_reducible refine gSt rfl ?_); refine st2 HS.out rfl rfl rfl rfl (by repeat (first | exact AtI.here | apply AtI.there)) ?_; (first | refine sv (u := .agg (List.toArray _)) rfl ?_ | refine sv (u := .int _ _) rfl ?_ | refine sv (u := .slice _ _ _) rfl ?_ | refine sv (u := .bool _) rfl ?_ | refine sv (u := .pointer _) rfl ?_); refine sw (szT _ (by decide)) rfl (lb rfl) ?_; clear HS; intro w1 HS1; (simp only [Ent.enc, Led.Held.enc, Led.Last.enc, segOf, aL, aZ, aS, putSeg] at HS1); have HS := Aside0.mk HS1; clear HS1)); try simp only [aP, aN, aT, aZ, aS]))
  go_ret
  exact ⟨rfl, HS.out.below⟩
end Go.Proofs.Ytekjihmepdhmeaa.Rlo

end
section
/- Lemmas towards the law: what of the text RlpK it needs. -/
namespace Go.Proofs.Ytekjihmepdhmeaa.Rlo
open Go.RowKit Go.Proofs.YtekjihmepdhmeaaW.PrintWords Go.Proofs.Ytekjihmepdhmeaa.Sl
set_option linter.unusedVariables false
set_option linter.unusedSimpArgs false
theorem rowok_rd {α : Type} {enc : α → List Value} {sz : Nat} {hl : ∀ x, (enc x).length = sz} {h1 : ∀ x, (enc x).all (·.oneCell') = true} {e : TypeId} {A : Option Addr} {m c : Nat} {xs : List α} {S : Nat → Prop} {w : World} (h : (row (flk enc sz hl h1) e (.slice A m c) xs S).ok w) : Rd enc sz w A m xs ∧ inS S A ∧ m = xs.length ∧ m ≤ c := by
  obtain ⟨A', c', he, hc, hr⟩ := Kd.R_reads h
  injection he with e1 e2 e3
  subst e1 e2 e3
  exact ⟨hr, fun ad ea => by subst ea; exact h.1 ad.block rfl, rfl, hc⟩
theorem rows_ok {d d1 : Hrd} {w wx : World} {S1 S2 S3 S4 S5 : Nat → Prop} (h : d.same d1) (hk : d.ok wx) (hc : d1.s.held.length ≤ d1.s.hc) (r : ∀ i ∈ [row (intK .i64) 3 (.slice d1.s.nA d1.s.nodes.length d1.s.nc) d1.s.nodes S1, row Led.heldK 72 (.slice d1.s.hA d1.s.held.length d1.s.hc) d1.s.held S2, row Led.lastK 76 (.slice d1.s.lA d1.s.last.length d1.s.lc) d1.s.last S3, row entK 52 (.slice d1.gA d1.log.length d1.gc) d1.log S4, nodesI d1.log S5], i.ok w) : d1.ok w where
  s := { rn := (rowok_rd (hl := ints_len .i64) (h1 := ints_one .i64) (r _ (by simp [intK]; exact .inl rfl))).1, rh := (rowok_rd (hl := Led.Held.len) (h1 := Led.Held.one) (r _ (by simp [Led.heldK]; exact .inr (.inl rfl)))).1, rl := (rowok_rd (hl := Led.Last.len) (h1 := Led.Last.one) (r _ (by simp [Led.lastK]; exact .inr (.inr (.inl rfl))))).1, hc := hc, si := by rw [h.s.si]; exact hk.s.si, st := by rw [h.s.st]; exact hk.s.st, nxt := by rw [h.s.nxt]; exact hk.s.nxt, ser := by rw [h.s.last]; exact hk.s.ser }
  rg := (rowok_rd (hl := Ent.len) (h1 := Ent.one) (r _ (by simp [entK]; exact .inr (.inr (.inr (.inl rfl)))))).1
  re := fun e he => ((r (nodesI d1.log S5) (by simp)) e he).1
  boot := by rw [h.boot]; exact hk.boot
  term := by rw [h.term]; exact hk.term
def Clone2 (d : Hrd) (w : World) (e : Ending) (w' : World) : Prop := ∃ (d1 : Hrd) (S1 S2 S3 S4 S5 : Nat → Prop), e = .returned (.agg #[.int .u64 d1.boot, .int .u64 d1.term, .int .i64 d1.vote, .int .u64 d1.s.si, .int .u64 d1.s.st, .slice d1.s.nA d1.s.nodes.length d1.s.nc, .int .i64 d1.s.lim, .int .u64 d1.s.nxt, .slice d1.s.hA d1.s.held.length d1.s.hc, .slice d1.s.lA d1.s.last.length d1.s.lc, .slice d1.gA d1.log.length d1.gc]) ∧ d.same d1 ∧ d1.s.held.length ≤ d1.s.hc ∧ d1.log.length ≤ d1.gc ∧ SH w w' [row (intK .i64) 3 (.slice d1.s.nA d1.s.nodes.length d1.s.nc) d1.s.nodes S1, row Led.heldK 72 (.slice d1.s.hA d1.s.held.length d1.s.hc) d1.s.held S2, row Led.lastK 76 (.slice d1.s.lA d1.s.last.length d1.s.lc) d1.s.last S3, row entK 52 (.slice d1.gA d1.log.length d1.gc) d1.log S4, nodesI d1.log S5]
theorem clone2_any (d : Hrd) (w : World) (hk : d.ok w) (hz : d.szd) (hh : d.s.held.length ≤ 1000) (hl : d.s.last.length ≤ 1000) : Calls Try.prog 55 #[.agg #[.int .u64 d.boot, .int .u64 d.term, .int .i64 d.vote, .int .u64 d.s.si, .int .u64 d.s.st, .slice d.s.nA d.s.nodes.length d.s.nc, .int .i64 d.s.lim, .int .u64 d.s.nxt, .slice d.s.hA d.s.held.length d.s.hc, .slice d.s.lA d.s.last.length d.s.lc, .slice d.gA d.log.length d.gc]] w (Clone2 d w) := by
  refine (cloneHard_any d w hk hz hh hl hz.g).mono ?_
  rintro e w' ⟨A1, A2, A3, A4, c1, c2, c3, c4, l', S1, S2, S3, S4, S5, rfl, hd, hc2, HS⟩
  have hlen : l'.length = d.log.length := by
    have := congrArg List.length hd
    rwa [List.length_map, List.length_map] at this
  have hc4 : d.log.length ≤ c4 := (row_hi HS 3 rfl).2
  refine ⟨⟨d.boot, d.term, d.vote, ⟨d.s.si, d.s.st, A1, c1, d.s.nodes, d.s.lim, d.s.nxt, A2, c2, d.s.held, A3, c3, d.s.last⟩, A4, c4, l'⟩, S1, S2, S3, S4, S5, ?_, ⟨rfl, rfl, rfl, ⟨rfl, rfl, rfl, rfl, rfl, rfl, rfl⟩, hd⟩, hc2, ?_, ?_⟩
  · simp only [hlen]
  · simp only [hlen]; exact hc4
  · simp only [hlen]; exact HS
theorem led_le {s : Sht} (h : shotOk s = true) : s.held.length ≤ 1000 ∧ s.last.length ≤ 1000 := by
  unfold shotOk at h
  simp only [Bool.and_eq_true] at h
  have hl := Led.isLed_iff.1 h.1.2
  have h1 : s.held.length ≤ 64 := hl.len
  have h2 : s.last.length ≤ 7 := lastLen hl
  omega
end Go.Proofs.Ytekjihmepdhmeaa.Rlo

end
