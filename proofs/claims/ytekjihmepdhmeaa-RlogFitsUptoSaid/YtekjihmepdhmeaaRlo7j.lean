import Derived.Test.YtekjihmepdhmeaaRlo6q
import Derived.Test.YtekjihmepdhmeaaOpq
section
/- Lemmas towards the law: what of the text Rlo7 it needs. -/
namespace Go.Proofs.Ytekjihmepdhmeaa.Rlo
open Go.RowKit Go.Proofs.YtekjihmepdhmeaaW.PrintWords Go.Proofs.Ytekjihmepdhmeaa.Sl
set_option linter.unusedVariables false
set_option linter.unusedSimpArgs false
def exE (t : Int) : Ent := ⟨t, 1, 0, 0, none, 0, [], 0, 0, 0, 0⟩
def exD (gn gl : Nat) : Hrd := ⟨0, 3, 0, ⟨5, 2, some ⟨gn, 0, none⟩, 1, [1], 2, 1, none, 0, [], none, 0, []⟩, some ⟨gl, 0, none⟩, 2, [exE 2, exE 3]⟩
theorem ln0 : ln 0 := ⟨by decide, by decide⟩
theorem ln1 : ln 1 := ⟨by decide, by decide⟩
theorem ln2 : ln 2 := ⟨by decide, by decide⟩
theorem ln3 : ln 3 := ⟨by decide, by decide⟩
theorem ln5 : ln 5 := ⟨by decide, by decide⟩
theorem exE_ok (w : World) (t : Int) (ht : ln t) : (exE t).ok w := ⟨Rd.nil _ _ _ _, ht, ln0, ln0, ln0, ln0, (by decide : (0 : Int) ≤ 9223372036854775807), (by decide : (0 : Int) ≤ 9223372036854775807)⟩
theorem exD_ok {w : World} {gn gl : Nat} {t t' : TypeId} (h1 : w.heap[gn]? = some (.cells ([.int .i64 1] : List Value).toArray t (0, 0))) (h2 : w.heap[gl]? = some (.cells ([.int .u64 2, .int .i64 1, .int .i64 0, .int .i64 0, .slice none 0 0, .int .u64 0, .int .u64 0, .int .u64 0, .int .u64 0, .int .u64 3, .int .i64 1, .int .i64 0, .int .i64 0, .slice none 0 0, .int .u64 0, .int .u64 0, .int .u64 0, .int .u64 0] : List Value).toArray t' (0, 0))) : (exD gn gl).ok w where
  s := { rn := Rd.lit (ints_len .i64) h1 rfl rfl (by show (1 : Nat) ≤ _; decide), rh := Rd.nil _ _ _ _, rl := Rd.nil _ _ _ _, hc := Nat.le_refl _, si := ln5, st := ln2, nxt := ln1, ser := fun x hx => absurd hx (by simp [exD]) }
  rg := Rd.lit Ent.len h2 rfl rfl (by show (2 : Nat) ≤ _; decide)
  re := fun e he => by
    have : e = exE 2 ∨ e = exE 3 := by simpa [exD] using he
    rcases this with rfl | rfl
    · exact exE_ok w 2 ln2
    · exact exE_ok w 3 ln3
  boot := ln0
  term := ln3
set_option maxHeartbeats 1600000 in
set_option maxRecDepth 100000 in
theorem example_any (w : World) : Calls Try.prog 14 #[] w (fun e w' => ∃ gn gl, e = .returned (.agg #[.int .u64 0, .int .u64 3, .int .i64 0, .int .u64 5, .int .u64 2, .slice (some ⟨gn, 0, none⟩) 1 1, .int .i64 2, .int .u64 1, .slice none 0 0, .slice none 0 0, .slice (some ⟨gl, 0, none⟩) 2 2]) ∧ (exD gn gl).ok w' ∧ Below w.heap.size w w') := by
  have HS := Aside0.mk (SH.start w)
  go_enter Try.func14, Try.ntmps14
  go_wp2_with (first | ((first | ((first | ((with_reducible refine gA rfl ?_); refine sh_alloc HS.out rfl rfl (zeT _ (by decide)) ?_) | ((with_reducible refine gB rfl ?_); refine bx HS.out rfl rfl ?_; first | refine bv (v := .agg (List.toArray _)) rfl ?_ | refine bv (v := .int _ _) rfl ?_ | refine bv (v := .slice _ _ _) rfl ?_ | refine bv (v := .bool _) rfl ?_ | refine bv (v := .pointer _) rfl ?_) | ((with_reducible refine gL rfl ?_); refine sh_lit HS.out rfl rfl (by go_simp; exact ⟨⟨rfl, rfl⟩, rfl⟩) ?_)); clear HS; intro g w1 hg HS1; (simp only [Ent.enc, zeF, segOf, aL, aC, aE] at HS1); have HS := Aside0.mk HS1; clear HS1) | ((with_reducible refine gLd rfl ?_); refine ld2 HS.out rfl rfl rfl (by repeat (first | exact AtI.here | apply AtI.there)) ?_; (first | refine LdK.one ((agT _ (by decide)).trans rfl) rfl ?_ | (refine LdK.agg ((agT _ (by decide)).trans rfl) (szT _ (by decide)) (lb rfl) ?_; try simp only [szL, aP, aN, aT, aZ, aS, aD, aF, aJ, aK, aM, aO]))) | ((with_reducible refine gSt rfl ?_); refine st2 HS.out rfl rfl rfl rfl (by repeat (first | exact AtI.here | apply AtI.there)) ?_; (first | refine sv (u := .agg (List.toArray _)) rfl ?_ | refine sv (u := .int _ _) rfl ?_ | refine sv (u := .slice _ _ _) rfl ?_ | refine sv (u := .bool _) rfl ?_ | refine sv (u := .pointer _) rfl ?_); refine sw (szT _ (by decide)) rfl (lb rfl) ?_; clear HS; intro w1 HS1; (simp only [Ent.enc, segOf, aL, aZ, aS, putSeg] at HS1); have HS := Aside0.mk HS1; clear HS1)); try simp only [aP, aN, aT, aZ, aS]))
  refine bodyPost_ret (results_cell_row rfl _ _ _ _ _ _ _ rfl (HS.out.blk 0 rfl) Try.underlying32 rfl ((szT _ (by decide)).trans rfl)) rfl ?_
  exact ⟨_, _, rfl, exD_ok (HS.out.blk 2 rfl) (HS.out.blk 3 rfl), HS.out.below⟩
end Go.Proofs.Ytekjihmepdhmeaa.Rlo

end
section
/- Lemmas towards the law: what of the text OpI it needs. -/
namespace Go.Proofs.Ytekjihmepdhmeaa.Sl
open Go.RowKit Go.Proofs.YtekjihmepdhmeaaW.PrintWords
set_option linter.unusedVariables false
theorem ints_open {e : TypeId} {k : IntKind} {w : World} {x : (Sh.slice e (.int k)).D} {cs : List Value} (h : (Sh.slice e (.int k)).kd.K w x cs) :
    ∃ (A : Option Addr) (c : Nat), cs = [.slice A x.length c] ∧ x.length ≤ c ∧ Rd (ints k) 1 w A x.length x := by
  obtain ⟨A, c, rfl, hl, hC⟩ := h
  refine ⟨A, c, rfl, hl, ?_⟩
  have := C_map hC id (sz := 1) (enc := ints k) rfl (fun y cs hy => hy)
  rwa [List.map_id] at this
end Go.Proofs.Ytekjihmepdhmeaa.Sl

end
