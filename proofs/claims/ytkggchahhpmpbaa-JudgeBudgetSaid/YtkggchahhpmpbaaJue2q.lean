/- Lemmas towards the law: what of the text Jue2 it needs. -/
import Derived.Test.YtkggchahhpmpbaaJue1q
namespace Go.Proofs.Ytkggchahhpmpbaa.Jue
open Go.RowKit Go.Proofs.YtkggchahhpmpbaaW.PrintWords Go.Proofs.Ytkggchahhpmpbaa.Sl
set_option linter.unusedVariables false
set_option linter.unusedSimpArgs false
/-- how many entries are still to come -/
def leftNo (w : World) (g r : Nat) : Nat :=
  match w.heap[g]?, w.heap[r]? with
  | some (.map es _), some (.mapIter _ _ seen _) => (Go.leftOf es seen).size
  | _, _ => 0
theorem rangeLeft_eq {κ ν : Type} {enc : κ → Value} {encV : ν → Value} {q : κ → Prop} {w0 w : World} {is : List HP} (HS : SH w0 w is) (n : Nat) {g r : Nat} {m : List (κ × ν)} {left : List κ} (hn : is[n]? = some (mpr g r enc encV q m left)) : leftNo w g r = left.length := by
  obtain ⟨_, es, clock, since, seen, c0, h1, h2, _, _, _, _, _, _, _, h⟩ := HS.at n hn
  simp only [leftNo, h1, h2]
  have := congrArg List.length h
  rw [List.length_map, List.length_map] at this
  rw [← this, ← Array.length_toList]
  simp [Go.leftOf]
def FellPost (w0 : World) (F : HP) (L : List Cn) (gO gc go gm gs gp : Nat) (s : Seen) (e : Ending) (w' : World) : Prop := e = .returned (.tuple #[]) ∧ ∃ C' O', Mid L s.node [] C' O' ∧ SH w0 w' [mpC gc C', mpI go O', blk gs s.enc 28, blk gp [.pointer (some ⟨gO, 0, none⟩)] 58, opB gO gc go gm, F]
set_option maxHeartbeats 3200000 in
set_option maxRecDepth 100000 in
theorem fell_any {w0 : World} {F : HP} (gO gc go gm gs gp : Nat) (s : Seen) (L : List Cn) (C : CM) (O M : IM) (w : World) (hrel0 : Rel L C O M)
    (HS0 : SH w0 w [mpC gc C, mpI go O, blk gs s.enc 28, blk gp [.pointer (some ⟨gO, 0, none⟩)] 58, opB gO gc go gm, F]) :
    Calls Try.prog 48 #[.map (some gc), .func (.func 49) #[] #[.pointer (some ⟨gs, 0, none⟩), .pointer (some ⟨gp, 0, none⟩)]] w (FellPost w0 F L gO gc go gm gs gp s) := by
  have HR := Aside0.mk hrel0
  clear hrel0
  have HS := Aside0.mk HS0
  clear HS0
  go_enter Try.func48, Try.ntmps48
  go_wp2_with (first | ((with_reducible refine gRg rfl ?_); refine sh_range HS.out rfl rfl rfl 0 rfl Try.underlying77 ?_; clear HS; intro r w1 hr1 HS1; (simp only [aZ, aS] at HS1); have HS := Aside0.mk HS1; clear HS1; try simp only [aP, aN, aT, aZ, aS]) | ((first | ((first | ((with_reducible refine gA rfl ?_); refine sh_alloc HS.out rfl rfl (zeT _ (by decide)) ?_) | ((with_reducible refine gB rfl ?_); refine bx HS.out rfl rfl ?_; first | refine bv (v := .agg (List.toArray _)) rfl ?_ | refine bv (v := .int _ _) rfl ?_ | refine bv (v := .slice _ _ _) rfl ?_ | refine bv (v := .bool _) rfl ?_ | refine bv (v := .pointer _) rfl ?_ | refine bv (v := .string _) rfl ?_ | refine bv (v := .map _) rfl ?_ | refine bv (v := .func _ _ _) rfl ?_) | ((with_reducible refine gL rfl ?_); refine sh_lit HS.out rfl rfl (by go_simp; exact ⟨⟨rfl, rfl⟩, rfl⟩) ?_)); clear HS; intro g w1 hg HS1; (simp only [zeF, segOf, aL, aC, aE] at HS1); have HS := Aside0.mk HS1; clear HS1) | ((with_reducible refine gLd rfl ?_); refine ld2 HS.out rfl rfl rfl (by repeat (first | exact AtI.here | apply AtI.there)) ?_; (first | refine LdK.one ((agT _ (by decide)).trans rfl) rfl ?_ | (refine LdK.agg ((agT _ (by decide)).trans rfl) (szT _ (by decide)) (lb rfl) ?_; try simp only [szL, aP, aN, aT, aZ, aS, aD, aF, aJ, aK, aM, aO]))) | ((with_reducible refine gSt rfl ?_); refine st2 HS.out rfl rfl rfl rfl (by repeat (first | exact AtI.here | apply AtI.there)) ?_; (first | refine sv (u := .agg (List.toArray _)) rfl ?_ | refine sv (u := .int _ _) rfl ?_ | refine sv (u := .slice _ _ _) rfl ?_ | refine sv (u := .bool _) rfl ?_ | refine sv (u := .pointer _) rfl ?_ | refine sv (u := .string _) rfl ?_ | refine sv (u := .map _) rfl ?_ | refine sv (u := .func _ _ _) rfl ?_); refine sw (szT _ (by decide)) rfl (lb rfl) ?_; clear HS; intro w1 HS1; (simp only [segOf, aL, aZ, aS, putSeg] at HS1); have HS := Aside0.mk HS1; clear HS1)); try simp only [aP, aN, aT, aZ, aS]))
  go_loopw [8] (fun _ wr => ∃ (left : List Cn) (C' : CM) (O' : IM), Aside0 (Mid L s.node left C' O') ∧ Aside0 (SH w0 wr [mpr gc r pairKey (Value.int .i64) (fun _ => True) C' left, mpI go O', blk gs s.enc 28, blk gp [.pointer (some ⟨gO, 0, none⟩)] 58, opB gO gc go gm, F])) (fun _ wr => leftNo wr gc r)
  case atStart => exact ⟨_, _, _, ⟨Mid.start HR.out s.node⟩, HS⟩
  case round =>
    clear HS
    obtain ⟨left, C', O', HM, HS⟩ := hrel
    have HLEFT := Aside0.mk (rangeLeft_eq HS.out 0 rfl)
    go_wp2_with (first | ((with_reducible refine gNx rfl ?_); refine sh_next HS.out rfl rfl rfl 0 rfl pairKey_inj ?_ ?_))
    · intro hl0
      subst hl0
      go_wp2
      go_end0
      exact ⟨rfl, C', O', HM.out, (HS.out.rangeEnd 0 rfl).pick [0, 1, 2, 3, 4, 5] rfl (by decide)⟩
    · intro k1 k2 v l1 l2 w1 hl hv HS1 hen
      clear HS
      obtain ⟨k, hk9⟩ : ∃ k : Cn, (k1, k2) = k := ⟨_, rfl⟩
      have e1 : k1 = k.1 := congrArg Prod.fst hk9
      have e2 : k2 = k.2 := congrArg Prod.snd hk9
      subst e1 e2
      clear hk9
      have HS := Aside0.mk (show SH w0 w1 [mpr gc r pairKey (Value.int .i64) (fun _ => True) C' (l1 ++ l2), mpI go O', blk gs s.enc 28, blk gp [.pointer (some ⟨gO, 0, none⟩)] 58, opB gO gc go gm, F] from HS1)
      clear HS1
      subst hl
      have HV := Aside0.mk hv
      clear hv
      unfold pairKey at hen ⊢
      cases hb : (k.1 == s.node) with
      | false =>
        go_wp2_with (first | (go_at_call 49; (with_reducible refine (del_any gO gc go gm gs gp s O' k v _ (SH.pack (is := [_, _, _, _, _]) [_, _] HS.out)).mono ?_); rintro e w2 ⟨rfl, HS2⟩; rw [hb] at HS2 ⊢; have HSN := (show SH w0 w2 [_, _, _, _, _, _, _] from SH.unpack (is := [_, _, _, _, _]) [_, _] HS2); clear HS2; clear HS; have HS := Aside0.mk HSN; clear HSN) | ((first | ((first | ((with_reducible refine gA rfl ?_); refine sh_alloc HS.out rfl rfl (zeT _ (by decide)) ?_) | ((with_reducible refine gB rfl ?_); refine bx HS.out rfl rfl ?_; first | refine bv (v := .agg (List.toArray _)) rfl ?_ | refine bv (v := .int _ _) rfl ?_ | refine bv (v := .slice _ _ _) rfl ?_ | refine bv (v := .bool _) rfl ?_ | refine bv (v := .pointer _) rfl ?_ | refine bv (v := .string _) rfl ?_ | refine bv (v := .map _) rfl ?_ | refine bv (v := .func _ _ _) rfl ?_) | ((with_reducible refine gL rfl ?_); refine sh_lit HS.out rfl rfl (by go_simp; exact ⟨⟨rfl, rfl⟩, rfl⟩) ?_)); clear HS; intro g w1 hg HS1; (simp only [zeF, segOf, aL, aC, aE] at HS1); have HS := Aside0.mk HS1; clear HS1) | ((with_reducible refine gLd rfl ?_); refine ld2 HS.out rfl rfl rfl (by repeat (first | exact AtI.here | apply AtI.there)) ?_; (first | refine LdK.one ((agT _ (by decide)).trans rfl) rfl ?_ | (refine LdK.agg ((agT _ (by decide)).trans rfl) (szT _ (by decide)) (lb rfl) ?_; try simp only [szL, aP, aN, aT, aZ, aS, aD, aF, aJ, aK, aM, aO]))) | ((with_reducible refine gSt rfl ?_); refine st2 HS.out rfl rfl rfl rfl (by repeat (first | exact AtI.here | apply AtI.there)) ?_; (first | refine sv (u := .agg (List.toArray _)) rfl ?_ | refine sv (u := .int _ _) rfl ?_ | refine sv (u := .slice _ _ _) rfl ?_ | refine sv (u := .bool _) rfl ?_ | refine sv (u := .pointer _) rfl ?_ | refine sv (u := .string _) rfl ?_ | refine sv (u := .map _) rfl ?_ | refine sv (u := .func _ _ _) rfl ?_); refine sw (szT _ (by decide)) rfl (lb rfl) ?_; clear HS; intro w1 HS1; (simp only [segOf, aL, aZ, aS, putSeg] at HS1); have HS := Aside0.mk HS1; clear HS1)); try simp only [aP, aN, aT, aZ, aS]))
        go_roundw
        case rel => exact ⟨_, _, _, ⟨HM.out.keep (by simpa using hb)⟩, ⟨HS.out.pick [0, 1, 2, 3, 4, 5] rfl (by decide)⟩⟩
        case measure => rw [HLEFT.out, rangeLeft_eq HS.out 0 rfl]; simp
      | true =>
        have hk : k.1 = s.node := by simpa using hb
        have HDR := Aside0.mk (Mid.drop HR.out HM.out hk)
        clear hk
        go_wp2_with (first | (go_at_call 49; (with_reducible refine (del_any gO gc go gm gs gp s O' k v _ (SH.pack (is := [_, _, _, _, _]) [_, _] HS.out)).mono ?_); rintro e w2 ⟨rfl, HS2⟩; rw [hb] at HS2 ⊢; have HSN := (show SH w0 w2 [_, _, _, _, _, _, _] from SH.unpack (is := [_, _, _, _, _]) [_, _] HS2); clear HS2; clear HS; have HS := Aside0.mk HSN; clear HSN) | ((with_reducible refine gC (b := .delete) rfl ?_); refine sh_deleteR HS.out rfl rfl rfl 0 rfl k rfl trivial Try.underlying77 pairKeyOK pairKey_inj HDR.out.2 ?_; clear HS; intro w1 HS1; (simp only [aZ, aS] at HS1); have HS := Aside0.mk HS1; clear HS1; try simp only [aP, aN, aT, aZ, aS]) | ((first | ((first | ((with_reducible refine gA rfl ?_); refine sh_alloc HS.out rfl rfl (zeT _ (by decide)) ?_) | ((with_reducible refine gB rfl ?_); refine bx HS.out rfl rfl ?_; first | refine bv (v := .agg (List.toArray _)) rfl ?_ | refine bv (v := .int _ _) rfl ?_ | refine bv (v := .slice _ _ _) rfl ?_ | refine bv (v := .bool _) rfl ?_ | refine bv (v := .pointer _) rfl ?_ | refine bv (v := .string _) rfl ?_ | refine bv (v := .map _) rfl ?_ | refine bv (v := .func _ _ _) rfl ?_) | ((with_reducible refine gL rfl ?_); refine sh_lit HS.out rfl rfl (by go_simp; exact ⟨⟨rfl, rfl⟩, rfl⟩) ?_)); clear HS; intro g w1 hg HS1; (simp only [zeF, segOf, aL, aC, aE] at HS1); have HS := Aside0.mk HS1; clear HS1) | ((with_reducible refine gLd rfl ?_); refine ld2 HS.out rfl rfl rfl (by repeat (first | exact AtI.here | apply AtI.there)) ?_; (first | refine LdK.one ((agT _ (by decide)).trans rfl) rfl ?_ | (refine LdK.agg ((agT _ (by decide)).trans rfl) (szT _ (by decide)) (lb rfl) ?_; try simp only [szL, aP, aN, aT, aZ, aS, aD, aF, aJ, aK, aM, aO]))) | ((with_reducible refine gSt rfl ?_); refine st2 HS.out rfl rfl rfl rfl (by repeat (first | exact AtI.here | apply AtI.there)) ?_; (first | refine sv (u := .agg (List.toArray _)) rfl ?_ | refine sv (u := .int _ _) rfl ?_ | refine sv (u := .slice _ _ _) rfl ?_ | refine sv (u := .bool _) rfl ?_ | refine sv (u := .pointer _) rfl ?_ | refine sv (u := .string _) rfl ?_ | refine sv (u := .map _) rfl ?_ | refine sv (u := .func _ _ _) rfl ?_); refine sw (szT _ (by decide)) rfl (lb rfl) ?_; clear HS; intro w1 HS1; (simp only [segOf, aL, aZ, aS, putSeg] at HS1); have HS := Aside0.mk HS1; clear HS1)); try simp only [aP, aN, aT, aZ, aS]))
        go_roundw
        case rel => exact ⟨_, _, _, ⟨HDR.out.1⟩, ⟨HS.out.pick [0, 1, 2, 3, 4, 5] rfl (by decide)⟩⟩
        case measure => rw [HLEFT.out, rangeLeft_eq HS.out 0 rfl]; simp
end Go.Proofs.Ytkggchahhpmpbaa.Jue
