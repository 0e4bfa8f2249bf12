/- Lemmas towards the law: what of the text RlpD it needs. -/
import Derived.Test.YtekjihmepdhmeaaRlpBq
namespace Go.Proofs.Ytekjihmepdhmeaa.Rlo
open Go.RowKit Go.Proofs.YtekjihmepdhmeaaW.PrintWords Go.Proofs.Ytekjihmepdhmeaa.Sl
set_option linter.unusedVariables false
set_option linter.unusedSimpArgs false
theorem same_term {d d' : Hrd} (h : d.same d') (i : Int) (hi : i ≤ d.s.si + d.log.length) : termOf d' i = termOf d i := by
  unfold termOf lastOf
  rw [h.s.si, h.s.st, same_len h]
  split
  · rfl
  · split
    · rfl
    · rename_i h1 h2
      obtain ⟨A, c, he⟩ := same_at h.log (k := (i - d.s.si - 1).toNat) (by omega)
      rw [he]
      rfl
set_option maxHeartbeats 1600000 in
set_option maxRecDepth 100000 in
theorem sameShtR (si st lim nxt : Int) (nodes : List Int) (held : List Held) (last : List Last) (A1 A2 A3 B1 B2 B3 : Option Addr) (c1 c2 c3 d1 d2 d3 : Nat) (w : World) (h1 : Rd (ints .i64) 1 w A1 nodes.length nodes) (h2 : Rd Led.Held.enc 5 w A2 held.length held) (h3 : Rd Led.Last.enc 6 w A3 last.length last) (k1 : Rd (ints .i64) 1 w B1 nodes.length nodes) (k2 : Rd Led.Held.enc 5 w B2 held.length held) (k3 : Rd Led.Last.enc 6 w B3 last.length last) : Calls Try.prog 36 #[.agg #[.int .u64 si, .int .u64 st, .slice A1 nodes.length c1, .int .i64 lim, .int .u64 nxt, .slice A2 held.length c2, .slice A3 last.length c3], .agg #[.int .u64 si, .int .u64 st, .slice B1 nodes.length d1, .int .i64 lim, .int .u64 nxt, .slice B2 held.length d2, .slice B3 last.length d3]] w (fun e w' => e = .returned (.bool true) ∧ Below w.heap.size w w') := by
  have H1 := Aside0.mk h1
  have H2 := Aside0.mk h2
  have H3 := Aside0.mk h3
  have K1 := Aside0.mk k1
  have K2 := Aside0.mk k2
  have K3 := Aside0.mk k3
  have HNN := Aside0.mk (show (nodes == nodes) = true from beq_self_eq_true _)
  clear h1 h2 h3 k1 k2 k3
  have HS := Aside0.mk (SH.start w)
  go_enter Try.func36, Try.ntmps36
  go_wp2_with (first | (go_at_call 21; (with_reducible refine (Nod.refSame_any A1 B1 c1 d1 nodes nodes _ (H1.out.sh HS.out) (K1.out.sh HS.out)).mono ?_); rintro e w2 ⟨rfl, hb⟩; rw [HNN.out]; have HS1 := HS.out.quiet hb; clear HS hb; have HS := Aside0.mk HS1; clear HS1) | (go_at_call 62; (with_reducible refine (sameLed_any A2 A3 B2 B3 c2 c3 d2 d3 lim nxt held last _ (H2.out.sh HS.out) (H3.out.sh HS.out) (K2.out.sh HS.out) (K3.out.sh HS.out)).mono ?_); rintro e w2 ⟨rfl, hb⟩;  have HS1 := HS.out.quiet hb; clear HS hb; have HS := Aside0.mk HS1; clear HS1) | ((first | ((first | ((with_reducible refine gA rfl ?_); refine sh_alloc HS.out rfl rfl (zeT _ (by decide)) ?_) | ((with_reducible refine gB rfl ?_); refine bx HS.out rfl rfl ?_; first | refine bv (v := .agg (List.toArray _)) rfl ?_ | refine bv (v := .int _ _) rfl ?_ | refine bv (v := .slice _ _ _) rfl ?_ | refine bv (v := .bool _) rfl ?_ | refine bv (v := .pointer _) rfl ?_) | ((with_reducible refine gL rfl ?_); refine sh_lit HS.out rfl rfl (by go_simp; exact ⟨⟨rfl, rfl⟩, rfl⟩) ?_)); clear HS; intro g w1 hg HS1; (simp only [Ent.enc, Led.Held.enc, Led.Last.enc, zeF, segOf, aL, aC, aE] at HS1); have HS := Aside0.mk HS1; clear HS1) | ((with_reducible refine gLd rfl ?_); refine ld2 HS.out rfl rfl rfl (by repeat (first | exact AtI.here | apply AtI.there)) ?_; (first | refine LdK.one ((agT _ (by decide)).trans rfl) rfl ?_ | (refine LdK.agg ((agT _ (by decide)).trans rfl) (szT _ (by decide)) (lb rfl) ?_; try simp only [szL, aP, aN, aT, aZ, aS, aD, aF, aJ, aK, aM, aO]))) | ((with_reducible refine gSt rfl ?_); refine st2 HS.out rfl rfl rfl rfl (by repeat (first | exact AtI.here | apply AtI.there)) ?_; (first | refine sv (u := .agg (List.toArray _)) rfl ?_ | refine sv (u := .int _ _) rfl ?_ | refine sv (u := .slice _ _ _) rfl ?_ | refine sv (u := .bool _) rfl ?_ | refine sv (u := .pointer _) rfl ?_); refine sw (szT _ (by decide)) rfl (lb rfl) ?_; clear HS; intro w1 HS1; (simp only [Ent.enc, Led.Held.enc, Led.Last.enc, segOf, aL, aZ, aS, putSeg] at HS1); have HS := Aside0.mk HS1; clear HS1)); try simp only [aP, aN, aT, aZ, aS]))
  go_ret
  exact ⟨rfl, HS.out.below⟩
end Go.Proofs.Ytekjihmepdhmeaa.Rlo
