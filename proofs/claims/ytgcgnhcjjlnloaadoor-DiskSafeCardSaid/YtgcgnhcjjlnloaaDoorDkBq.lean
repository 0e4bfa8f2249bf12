/- Lemmas towards the law: what of the text DkB it needs. -/
import Derived.Test.YtgcgnhcjjlnloaaDoorDkAq
namespace Go.Proofs.YtgcgnhcjjlnloaaDoor.Dk
open Go.RowKit Go.Proofs.YtgcgnhcjjlnloaaDoorW.PrintWords Go.Proofs.YtgcgnhcjjlnloaaDoor.Sl
set_option linter.unusedVariables false
set_option linter.unusedSimpArgs false
def PowerPost (w0 : World) (F : HP) (gD gM : Nat) (left : Int) (armed off : Bool) (m : FM) (L : List (Option Addr × List Int)) (S : Nat → Prop) (Bd : Nat) (e : Ending) (w' : World) : Prop :=
  e = .returned (.tuple #[]) ∧ ∃ L', MOk Bd (if off then crashM (namesOf m) m [] else m) L' ∧ (∀ p ∈ L, p ∈ L') ∧ SH w0 w' [blk gD [.map (some gM), .int .i64 left, .bool (if off then false else armed), .bool false] 52, mpF gM (if off then crashM (namesOf m) m [] else m), poolI L' S, F]
set_option maxHeartbeats 3200000 in
set_option maxRecDepth 100000 in
theorem power_any {w0 w : World} {F : HP} (gD gM : Nat) (left : Int) (armed off : Bool) (m : FM) (L : List (Option Addr × List Int)) (S : Nat → Prop) (Bd : Nat) (hm : KeysOk m) (hok : MOk Bd m L) (hBd : Bd ≤ 70368744177664) (HS0 : SH w0 w [blk gD [.map (some gM), .int .i64 left, .bool armed, .bool off] 52, mpF gM m, poolI L S, F]) :
    Calls Tryd.prog 18 #[.pointer (some ⟨gD, 0, none⟩)] w (PowerPost w0 F gD gM left armed off m L S Bd) := by
  have HS := Aside0.mk HS0
  clear HS0
  have HOK := Aside0.mk hok
  clear hok
  cases off with
  | false =>
    go_enter Tryd.func18, Tryd.ntmps18
    go_wp2_with (first | ((first | ((first | ((with_reducible refine gA rfl ?_); refine sh_alloc HS.out rfl rfl (zeT _ (by decide)) ?_) | ((with_reducible refine gB rfl ?_); refine bx HS.out rfl rfl ?_; first | refine bv (v := .agg (List.toArray _)) rfl ?_ | refine bv (v := .int _ _) rfl ?_ | refine bv (v := .slice _ _ _) rfl ?_ | refine bv (v := .bool _) rfl ?_ | refine bv (v := .pointer _) rfl ?_ | refine bv (v := .string _) rfl ?_ | refine bv (v := .map _) rfl ?_ | refine bv (v := .func _ _ _) rfl ?_) | ((with_reducible refine gL rfl ?_); refine sh_lit HS.out rfl rfl (by go_simp; exact ⟨⟨rfl, rfl⟩, rfl⟩) ?_)); clear HS; intro g w1 hg HS1; (simp only [zeF, segOf, aL, aC, aE] at HS1); have HS := Aside0.mk HS1; clear HS1) | ((with_reducible refine gLd rfl ?_); refine ld2 HS.out rfl rfl rfl (by repeat (first | exact AtI.here | apply AtI.there)) ?_; (first | refine LdK.one ((agT _ (by decide)).trans rfl) rfl ?_ | (refine LdK.agg ((agT _ (by decide)).trans rfl) (szT _ (by decide)) (lb rfl) ?_; try simp only [szL, aP, aN, aT, aZ, aS, aD, aF, aJ, aK, aM, aO]))) | ((with_reducible refine gSt rfl ?_); refine st2 HS.out rfl rfl rfl rfl (by repeat (first | exact AtI.here | apply AtI.there)) ?_; (first | refine sv (u := .agg (List.toArray _)) rfl ?_ | refine sv (u := .int _ _) rfl ?_ | refine sv (u := .slice _ _ _) rfl ?_ | refine sv (u := .bool _) rfl ?_ | refine sv (u := .pointer _) rfl ?_ | refine sv (u := .string _) rfl ?_ | refine sv (u := .map _) rfl ?_ | refine sv (u := .func _ _ _) rfl ?_); refine sw (szT _ (by decide)) rfl (lb rfl) ?_; clear HS; intro w1 HS1; (simp only [segOf, aL, aZ, aS, putSeg] at HS1); have HS := Aside0.mk HS1; clear HS1)); try simp only [aP, aN, aT, aZ, aS]))
    go_end0
    exact ⟨rfl, L, HOK.out, fun p hp => hp, HS.out⟩
  | true =>
    go_enter Tryd.func18, Tryd.ntmps18
    go_wp2_with (first | (go_at_call 17; (with_reducible refine (crash_any gD gM left armed true m L S Bd hm HOK.out hBd none 0 0 [] (fun w _ _ => Rd.nil _ _ _ _) (Nat.le_refl 0) HS.out).mono ?_); rintro e w2 ⟨rfl, L2, hok2, hL2, HS9⟩; clear HS; have HS := Aside0.mk HS9; clear HS9; have HOK2 := Aside0.mk hok2; clear hok2; have HL2 := Aside0.mk hL2; clear hL2) | ((first | ((first | ((with_reducible refine gA rfl ?_); refine sh_alloc HS.out rfl rfl (zeT _ (by decide)) ?_) | ((with_reducible refine gB rfl ?_); refine bx HS.out rfl rfl ?_; first | refine bv (v := .agg (List.toArray _)) rfl ?_ | refine bv (v := .int _ _) rfl ?_ | refine bv (v := .slice _ _ _) rfl ?_ | refine bv (v := .bool _) rfl ?_ | refine bv (v := .pointer _) rfl ?_ | refine bv (v := .string _) rfl ?_ | refine bv (v := .map _) rfl ?_ | refine bv (v := .func _ _ _) rfl ?_) | ((with_reducible refine gL rfl ?_); refine sh_lit HS.out rfl rfl (by go_simp; exact ⟨⟨rfl, rfl⟩, rfl⟩) ?_)); clear HS; intro g w1 hg HS1; (simp only [zeF, segOf, aL, aC, aE] at HS1); have HS := Aside0.mk HS1; clear HS1) | ((with_reducible refine gLd rfl ?_); refine ld2 HS.out rfl rfl rfl (by repeat (first | exact AtI.here | apply AtI.there)) ?_; (first | refine LdK.one ((agT _ (by decide)).trans rfl) rfl ?_ | (refine LdK.agg ((agT _ (by decide)).trans rfl) (szT _ (by decide)) (lb rfl) ?_; try simp only [szL, aP, aN, aT, aZ, aS, aD, aF, aJ, aK, aM, aO]))) | ((with_reducible refine gSt rfl ?_); refine st2 HS.out rfl rfl rfl rfl (by repeat (first | exact AtI.here | apply AtI.there)) ?_; (first | refine sv (u := .agg (List.toArray _)) rfl ?_ | refine sv (u := .int _ _) rfl ?_ | refine sv (u := .slice _ _ _) rfl ?_ | refine sv (u := .bool _) rfl ?_ | refine sv (u := .pointer _) rfl ?_ | refine sv (u := .string _) rfl ?_ | refine sv (u := .map _) rfl ?_ | refine sv (u := .func _ _ _) rfl ?_); refine sw (szT _ (by decide)) rfl (lb rfl) ?_; clear HS; intro w1 HS1; (simp only [segOf, aL, aZ, aS, putSeg] at HS1); have HS := Aside0.mk HS1; clear HS1)); try simp only [aP, aN, aT, aZ, aS]))
    go_end0
    exact ⟨rfl, L2, HOK2.out, HL2.out, HS.out⟩
theorem clone_map (g : Nat) (m : FM) (w : World) (hok : (mpF g m).ok w) : Calls Tryd.prog 41 #[.map (some g)] w (fun e w' => ∃ g2, e = .returned (.map (some g2)) ∧ SH w w' [mpF g2 m]) := by
  obtain ⟨es, clock, hb, h2⟩ := hok
  refine (AnyW.maps_Clone Tryd.cloneL g es clock w hb).mono ?_
  rintro e w' ⟨rfl, rfl⟩
  refine ⟨_, rfl, ?_⟩
  have hp := (SH.start w).push (below_alloc (Below.refl _ w) (.map es clock)) (i := mpF w.heap.size m) ⟨es, clock, heap_alloc_new _ _, h2⟩ (fun b hb => by cases hb; exact ⟨Nat.le_refl _, by simp⟩)
  simpa using hp
set_option maxHeartbeats 3200000 in
set_option maxRecDepth 100000 in
theorem cloneD_any {w0 w : World} {F : HP} (gD gM : Nat) (left : Int) (armed off : Bool) (m : FM) (HS0 : SH w0 w [blk gD [.map (some gM), .int .i64 left, .bool armed, .bool off] 52, mpF gM m, F]) :
    Calls Tryd.prog 30 #[.pointer (some ⟨gD, 0, none⟩)] w (fun e w' => ∃ g2 gM2, e = .returned (.pointer (some ⟨g2, 0, none⟩)) ∧ SH w0 w' [blk gD [.map (some gM), .int .i64 left, .bool armed, .bool off] 52, mpF gM m, F, blk g2 [.map (some gM2), .int .i64 left, .bool armed, .bool off] 52, mpF gM2 m]) := by
  have HS := Aside0.mk HS0
  clear HS0
  go_enter Tryd.func30, Tryd.ntmps30
  go_wp2_with (first | (go_at_call 41; (with_reducible refine (clone_map gM m _ (HS.out.at 1 rfl)).mono ?_); rintro e w2 ⟨gq, rfl, HS1⟩;  have HS2 := HS.out.call HS1; clear HS HS1; simp only [aC, aE] at HS2; have HS := Aside0.mk HS2; clear HS2) | ((fail_if_success (have _ := gc)); ((with_reducible refine gA rfl ?_); refine sh_alloc HS.out rfl rfl (zeT _ (by decide)) ?_; clear HS; intro gc w1 hgc HS1; (simp only [zeF, segOf, aL, aC, aE] at HS1); have HS := Aside0.mk HS1; clear HS1; try simp only [aP, aN, aT, aZ, aS])) | ((first | ((first | ((with_reducible refine gA rfl ?_); refine sh_alloc HS.out rfl rfl (zeT _ (by decide)) ?_) | ((with_reducible refine gB rfl ?_); refine bx HS.out rfl rfl ?_; first | refine bv (v := .agg (List.toArray _)) rfl ?_ | refine bv (v := .int _ _) rfl ?_ | refine bv (v := .slice _ _ _) rfl ?_ | refine bv (v := .bool _) rfl ?_ | refine bv (v := .pointer _) rfl ?_ | refine bv (v := .string _) rfl ?_ | refine bv (v := .map _) rfl ?_ | refine bv (v := .func _ _ _) rfl ?_) | ((with_reducible refine gL rfl ?_); refine sh_lit HS.out rfl rfl (by go_simp; exact ⟨⟨rfl, rfl⟩, rfl⟩) ?_)); clear HS; intro g w1 hg HS1; (simp only [zeF, segOf, aL, aC, aE] at HS1); have HS := Aside0.mk HS1; clear HS1) | ((with_reducible refine gLd rfl ?_); refine ld2 HS.out rfl rfl rfl (by repeat (first | exact AtI.here | apply AtI.there)) ?_; (first | refine LdK.one ((agT _ (by decide)).trans rfl) rfl ?_ | (refine LdK.agg ((agT _ (by decide)).trans rfl) (szT _ (by decide)) (lb rfl) ?_; try simp only [szL, aP, aN, aT, aZ, aS, aD, aF, aJ, aK, aM, aO]))) | ((with_reducible refine gSt rfl ?_); refine st2 HS.out rfl rfl rfl rfl (by repeat (first | exact AtI.here | apply AtI.there)) ?_; (first | refine sv (u := .agg (List.toArray _)) rfl ?_ | refine sv (u := .int _ _) rfl ?_ | refine sv (u := .slice _ _ _) rfl ?_ | refine sv (u := .bool _) rfl ?_ | refine sv (u := .pointer _) rfl ?_ | refine sv (u := .string _) rfl ?_ | refine sv (u := .map _) rfl ?_ | refine sv (u := .func _ _ _) rfl ?_); refine sw (szT _ (by decide)) rfl (lb rfl) ?_; clear HS; intro w1 HS1; (simp only [segOf, aL, aZ, aS, putSeg] at HS1); have HS := Aside0.mk HS1; clear HS1)); try simp only [aP, aN, aT, aZ, aS]))

  go_ret
  exact ⟨gc, gq, rfl, HS.out⟩
end Go.Proofs.YtgcgnhcjjlnloaaDoor.Dk
