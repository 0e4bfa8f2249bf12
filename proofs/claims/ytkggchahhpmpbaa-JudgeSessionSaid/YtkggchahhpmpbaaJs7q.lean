/- Lemmas towards the law: what of the text Js7 it needs. -/
import Derived.Test.YtkggchahhpmpbaaJs6q
namespace Go.Proofs.Ytkggchahhpmpbaa.Jud
open Go.RowKit Go.Proofs.YtkggchahhpmpbaaW.PrintWords Go.Proofs.Ytkggchahhpmpbaa.Sl
set_option linter.unusedVariables false
set_option linter.unusedSimpArgs false
def SfPost (w0 : World) (F : HP) (gS : Nat) (l : List Frm) (e : Ending) (w' : World) : Prop := ∃ (A : Option Addr) (c : Nat) (S : Nat → Prop), e = .returned (.int .i64 0) ∧ SH w0 w' [blk gS [.string (bs []), .bool false, .slice A l.length c, .int .i64 0, .bool false, .string (bs []), .slice none 0 0] 42, row frmK 63 (.slice A l.length c) l S, F]
set_option maxHeartbeats 6400000 in
set_option maxRecDepth 100000 in
theorem sfeed_any {w0 : World} {F : HP} (gS : Nat) (l : List Frm) (w : World) (hv : ∀ f ∈ l, valid f) (hl : l.length ≤ 1000) (HS0 : SH w0 w [blk gS [.string (bs []), .bool false, .slice none 0 0, .int .i64 0, .bool false, .string (bs []), .slice none 0 0] 42, F]) :
    Calls Try.prog 15 #[.pointer (some ⟨gS, 0, none⟩), .string (bs (encAll l))] w (SfPost w0 F gS l) := by
  have HS := Aside0.mk HS0
  clear HS0
  have HF := Aside0.mk (fun w1 h => rfeed_any (w0 := w0) (F := F) gS (.slice none 0 0) (.int .i64 0) (.bool false) (.string (bs [])) (.slice none 0 0) l w1 hv hl h)
  clear hv
  obtain ⟨s0, hs0⟩ : ∃ s0, bs (encAll l) = s0 := ⟨_, rfl⟩
  rw [hs0] at HF ⊢
  clear hs0
  obtain ⟨sE, hsE⟩ : ∃ sE, bs [] = sE := ⟨_, rfl⟩
  unfold RfPost at HF
  unfold SfPost
  rw [hsE] at HS HF ⊢
  clear hsE
  go_enter Try.func15, Try.ntmps15
  go_upto_region 6 with (first | ((first | ((first | ((with_reducible refine gA rfl ?_); refine sh_alloc HS.out rfl rfl (zeT _ (by decide)) ?_) | ((with_reducible refine gB rfl ?_); refine bx HS.out rfl rfl ?_; first | refine bv (v := .agg (List.toArray _)) rfl ?_ | refine bv (v := .int _ _) rfl ?_ | refine bv (v := .slice _ _ _) rfl ?_ | refine bv (v := .bool _) rfl ?_ | refine bv (v := .pointer _) rfl ?_ | refine bv (v := .string _) rfl ?_ | refine bv (v := .map _) rfl ?_ | refine bv (v := .func _ _ _) rfl ?_) | ((with_reducible refine gL rfl ?_); refine sh_lit HS.out rfl rfl (by go_simp; exact ⟨⟨rfl, rfl⟩, rfl⟩) ?_)); clear HS; intro g w1 hg HS1; (simp only [Frm.enc, Rep.enc, zeF, segOf, aL, aC, aE] at HS1); have HS := Aside0.mk HS1; clear HS1) | ((with_reducible refine gLd rfl ?_); refine ld2 HS.out rfl rfl rfl (by repeat (first | exact AtI.here | apply AtI.there)) ?_; (first | refine LdK.one ((agT _ (by decide)).trans rfl) rfl ?_ | (refine LdK.agg ((agT _ (by decide)).trans rfl) (szT _ (by decide)) (lb rfl) ?_; try simp only [szL, aP, aN, aT, aZ, aS, aD, aF, aJ, aK, aM, aO]))) | ((with_reducible refine gSt rfl ?_); refine st2 HS.out rfl rfl rfl rfl (by repeat (first | exact AtI.here | apply AtI.there)) ?_; (first | refine sv (u := .agg (List.toArray _)) rfl ?_ | refine sv (u := .int _ _) rfl ?_ | refine sv (u := .slice _ _ _) rfl ?_ | refine sv (u := .bool _) rfl ?_ | refine sv (u := .pointer _) rfl ?_ | refine sv (u := .string _) rfl ?_ | refine sv (u := .map _) rfl ?_ | refine sv (u := .func _ _ _) rfl ?_); refine sw (szT _ (by decide)) rfl (lb rfl) ?_; clear HS; intro w1 HS1; (simp only [Frm.enc, Rep.enc, segOf, aL, aZ, aS, putSeg] at HS1); have HS := Aside0.mk HS1; clear HS1)); try simp only [aP, aN, aT, aZ, aS]))
  have HC := Aside0.mk (HS.out.pick [0] rfl (by decide))
  refine kheld_start [24] mixed HC.out (fun HC1 => ?_)
  have HS1 := HS.out.drew
  clear HS HC
  have HS := Aside0.mk HS1
  have HC := Aside0.mk HC1
  clear HS1 HC1
  refine k_any 0 (v := _) (by simp only [aG, aH, aI]; rfl) (by kernel_rfl) (by kernel_rfl) (by kernel_rfl) (by kernel_rfl) (by exact fun _ _ _ h => h) (.inr HC.out) (by kernel_rfl) (fun w => by (repeat (rename ∀ (_ : Act) (_ : World), _ => hK9; clear hK9)); go_simp; rfl) ?_
  (try simp only [aP, aN, aT, aZ, aS])
  refine k_any 1 (v := _) (by simp only [aG, aH, aI]; rfl) (by kernel_rfl) (by kernel_rfl) (by kernel_rfl) (by kernel_rfl) (by exact fun _ _ _ h => h) (.inr HC.out) (by kernel_rfl) (fun w => by (repeat (rename ∀ (_ : Act) (_ : World), _ => hK9; clear hK9)); go_simp; rfl) ?_
  (try simp only [aP, aN, aT, aZ, aS])
  refine k_any 2 (v := _) (by simp only [aG, aH, aI]; rfl) (by kernel_rfl) (by kernel_rfl) (by kernel_rfl) (by kernel_rfl) (by exact fun _ _ _ h => h) (.inr HC.out) (by kernel_rfl) (fun w => by (repeat (rename ∀ (_ : Act) (_ : World), _ => hK9; clear hK9)); go_simp; rfl) ?_
  (try simp only [aP, aN, aT, aZ, aS])
  refine k_any 3 (v := _) (by simp only [aG, aH, aI]; rfl) (by kernel_rfl) (by kernel_rfl) (by kernel_rfl) (by kernel_rfl) (by exact fun _ _ _ h => h) (.inr HC.out) (by kernel_rfl) (fun w => by (repeat (rename ∀ (_ : Act) (_ : World), _ => hK9; clear hK9)); go_simp; rfl) ?_
  (try simp only [aP, aN, aT, aZ, aS])
  refine k_load 4 (by simp only [aG, aH, aI]; rfl) (by kernel_rfl) (by kernel_rfl) (by kernel_rfl) (by kernel_rfl) (by exact fun _ _ _ h => h) HC.out (by kernel_rfl) rfl rfl 0 rfl ((agT _ (by decide)).trans rfl) rfl ?_
  (try simp only [aP, aN, aT, aZ, aS])
  refine k_any 5 (v := _) (by simp only [aG, aH, aI]; rfl) (by kernel_rfl) (by kernel_rfl) (by kernel_rfl) (by kernel_rfl) (by exact fun _ _ _ h => h) (.inr HC.out) (by kernel_rfl) (fun w => by (repeat (rename ∀ (_ : Act) (_ : World), _ => hK9; clear hK9)); go_simp; rfl) ?_
  (try simp only [aP, aN, aT, aZ, aS])
  refine k_any 6 (v := _) (by simp only [aG, aH, aI]; rfl) (by kernel_rfl) (by kernel_rfl) (by kernel_rfl) (by kernel_rfl) (by exact fun _ _ _ h => h) (.inr HC.out) (by kernel_rfl) (fun w => by (repeat (rename ∀ (_ : Act) (_ : World), _ => hK9; clear hK9)); go_simp; rfl) ?_
  (try simp only [aP, aN, aT, aZ, aS])
  refine k_any 7 (v := _) (by simp only [aG, aH, aI]; rfl) (by kernel_rfl) (by kernel_rfl) (by kernel_rfl) (by kernel_rfl) (by exact fun _ _ _ h => h) (.inr HC.out) (by kernel_rfl) (fun w => by (repeat (rename ∀ (_ : Act) (_ : World), _ => hK9; clear hK9)); go_simp; rfl) ?_
  (try simp only [aP, aN, aT, aZ, aS])
  refine k_load 8 (by simp only [aG, aH, aI]; rfl) (by kernel_rfl) (by kernel_rfl) (by kernel_rfl) (by kernel_rfl) (by exact fun _ _ _ h => h) HC.out (by kernel_rfl) rfl rfl 0 rfl ((agT _ (by decide)).trans rfl) rfl ?_
  (try simp only [aP, aN, aT, aZ, aS])
  refine k_any 9 (v := _) (by simp only [aG, aH, aI]; rfl) (by kernel_rfl) (by kernel_rfl) (by kernel_rfl) (by kernel_rfl) (by exact fun _ _ _ h => h) (.inr HC.out) (by kernel_rfl) (fun w => by (repeat (rename ∀ (_ : Act) (_ : World), _ => hK9; clear hK9)); go_simp; rfl) ?_
  (try simp only [aP, aN, aT, aZ, aS])
  refine k_any 10 (v := _) (by simp only [aG, aH, aI]; rfl) (by kernel_rfl) (by kernel_rfl) (by kernel_rfl) (by kernel_rfl) (by exact fun _ _ _ h => h) (.inr HC.out) (by kernel_rfl) (fun w => by (repeat (rename ∀ (_ : Act) (_ : World), _ => hK9; clear hK9)); go_simp; rfl) ?_
  (try simp only [aP, aN, aT, aZ, aS])
  refine k_any 11 (v := _) (by simp only [aG, aH, aI]; rfl) (by kernel_rfl) (by kernel_rfl) (by kernel_rfl) (by kernel_rfl) (by exact fun _ _ _ h => h) (.inr HC.out) (by kernel_rfl) (fun w => by (repeat (rename ∀ (_ : Act) (_ : World), _ => hK9; clear hK9)); go_simp; rfl) ?_
  (try simp only [aP, aN, aT, aZ, aS])
  refine k_any 12 (v := _) (by simp only [aG, aH, aI]; rfl) (by kernel_rfl) (by kernel_rfl) (by kernel_rfl) (by kernel_rfl) (by exact fun _ _ _ h => h) (.inr HC.out) (by kernel_rfl) (fun w => by (repeat (rename ∀ (_ : Act) (_ : World), _ => hK9; clear hK9)); go_simp; rfl) ?_
  (try simp only [aP, aN, aT, aZ, aS])
  refine k_load 13 (by simp only [aG, aH, aI]; rfl) (by kernel_rfl) (by kernel_rfl) (by kernel_rfl) (by kernel_rfl) (by exact fun _ _ _ h => h) HC.out (by kernel_rfl) rfl rfl 0 rfl ((agT _ (by decide)).trans rfl) rfl ?_
  (try simp only [aP, aN, aT, aZ, aS])
  refine k_any 14 (v := _) (by simp only [aG, aH, aI]; rfl) (by kernel_rfl) (by kernel_rfl) (by kernel_rfl) (by kernel_rfl) (by exact fun _ _ _ h => h) (.inr HC.out) (by kernel_rfl) (fun w => by (repeat (rename ∀ (_ : Act) (_ : World), _ => hK9; clear hK9)); go_simp; rfl) ?_
  (try simp only [aP, aN, aT, aZ, aS])
  refine k_any 15 (v := _) (by simp only [aG, aH, aI]; rfl) (by kernel_rfl) (by kernel_rfl) (by kernel_rfl) (by kernel_rfl) (by exact fun _ _ _ h => h) (.inr HC.out) (by kernel_rfl) (fun w => by (repeat (rename ∀ (_ : Act) (_ : World), _ => hK9; clear hK9)); go_simp; rfl) ?_
  (try simp only [aP, aN, aT, aZ, aS])
  refine k_any 16 (v := _) (by simp only [aG, aH, aI]; rfl) (by kernel_rfl) (by kernel_rfl) (by kernel_rfl) (by kernel_rfl) (by exact fun _ _ _ h => h) (.inr HC.out) (by kernel_rfl) (fun w => by (repeat (rename ∀ (_ : Act) (_ : World), _ => hK9; clear hK9)); go_simp; rfl) ?_
  (try simp only [aP, aN, aT, aZ, aS])
  refine k_any 17 (v := _) (by simp only [aG, aH, aI]; rfl) (by kernel_rfl) (by kernel_rfl) (by kernel_rfl) (by kernel_rfl) (by exact fun _ _ _ h => h) (.inr HC.out) (by kernel_rfl) (fun w => by (repeat (rename ∀ (_ : Act) (_ : World), _ => hK9; clear hK9)); go_simp; rfl) ?_
  (try simp only [aP, aN, aT, aZ, aS])
  refine k_any 18 (v := _) (by simp only [aG, aH, aI]; rfl) (by kernel_rfl) (by kernel_rfl) (by kernel_rfl) (by kernel_rfl) (by exact fun _ _ _ h => h) (.inr HC.out) (by kernel_rfl) (fun w => by (repeat (rename ∀ (_ : Act) (_ : World), _ => hK9; clear hK9)); go_simp; rfl) ?_
  (try simp only [aP, aN, aT, aZ, aS])
  refine k_any 19 (v := _) (by simp only [aG, aH, aI]; rfl) (by kernel_rfl) (by kernel_rfl) (by kernel_rfl) (by kernel_rfl) (by exact fun _ _ _ h => h) (.inr HC.out) (by kernel_rfl) (fun w => by (repeat (rename ∀ (_ : Act) (_ : World), _ => hK9; clear hK9)); go_simp; rfl) ?_
  (try simp only [aP, aN, aT, aZ, aS])
  refine k_call 20 (by simp only [aG, aH, aI]; rfl) (by kernel_rfl) (by kernel_rfl) rfl (vs := #[.pointer (some ⟨gS, 0, none⟩), .string s0]) (by kernel_rfl) (fnT _ (by decide)) (HF.out _ HS.out) (fun e w2 hpost => ?_); obtain ⟨A1, c1, S1, rfl, hc1, HSN⟩ := hpost; skip; have HC1 := HSN.pick [0] rfl (by decide); refine ⟨_, rfl, HC1, ?_⟩; clear HS HC; have HS := Aside0.mk HSN; have HC := Aside0.mk HC1; clear HSN HC1
  (try simp only [aP, aN, aT, aZ, aS])
  refine k_one 21 (by simp only [aG, aH, aI]; rfl) (by kernel_rfl) ?_
  ((with_reducible refine gC (b := .append) rfl ?_); refine sh_append_nil Frm.len Frm.one HS.out rfl rfl rfl rfl (row_rds (hl := Frm.len) (h1 := Frm.one) 2 rfl _ HS.out) Try.underlying30 infoFrm rfl (by decide) (by decide) (by omega) ?_; clear HS; intro v1 w1 S1 HS1; (simp only [aC, aE] at HS1); have HS := Aside0.mk HS1; clear HS1; try simp only [aP, aN, aT, aZ, aS]; obtain ⟨A2, c2, rfl, hc2, _⟩ := row_rd HS.out 3 rfl)
  have HC1 := HS.out.pick [0] rfl (by decide)
  clear HC
  have HC := Aside0.mk HC1
  clear HC1
  refine k_nil (.inr HC.out) ?_
  (try simp only [aP, aN, aT, aZ, aS])
  refine k_any 22 (v := _) (by simp only [aG, aH, aI]; rfl) (by kernel_rfl) (by kernel_rfl) (by kernel_rfl) (by kernel_rfl) (by exact fun _ _ _ h => h) (.inr HC.out) (by kernel_rfl) (fun w => by (repeat (rename ∀ (_ : Act) (_ : World), _ => hK9; clear hK9)); go_simp; rfl) ?_
  (try simp only [aP, aN, aT, aZ, aS])
  refine k_any 23 (v := _) (by simp only [aG, aH, aI]; rfl) (by kernel_rfl) (by kernel_rfl) (by kernel_rfl) (by kernel_rfl) (by exact fun _ _ _ h => h) (.inr HC.out) (by kernel_rfl) (fun w => by (repeat (rename ∀ (_ : Act) (_ : World), _ => hK9; clear hK9)); go_simp; rfl) ?_
  (try simp only [aP, aN, aT, aZ, aS])
  refine k_one 24 (by simp only [aG, aH, aI]; rfl) (by kernel_rfl) ?_
  ((with_reducible refine gSt rfl ?_); refine st2 HS.out rfl rfl rfl rfl (by repeat (first | exact AtI.here | apply AtI.there)) ?_; (first | refine sv (u := .agg (List.toArray _)) rfl ?_ | refine sv (u := .int _ _) rfl ?_ | refine sv (u := .slice _ _ _) rfl ?_ | refine sv (u := .bool _) rfl ?_ | refine sv (u := .pointer _) rfl ?_ | refine sv (u := .string _) rfl ?_ | refine sv (u := .map _) rfl ?_ | refine sv (u := .func _ _ _) rfl ?_); refine sw (szT _ (by decide)) rfl (lb rfl) ?_; clear HS; intro w1 HS1; (simp only [Frm.enc, Rep.enc, segOf, aL, aZ, aS, putSeg] at HS1); have HS := Aside0.mk HS1; clear HS1; try simp only [aP, aN, aT, aZ, aS])
  refine k_nil (.inl (by kernel_rfl)) ?_
  (try simp only [aP, aN, aT, aZ, aS])
  refine k_done (by kernel_rfl) ?_ _
  go_wp2_with (first | ((first | ((first | ((with_reducible refine gA rfl ?_); refine sh_alloc HS.out rfl rfl (zeT _ (by decide)) ?_) | ((with_reducible refine gB rfl ?_); refine bx HS.out rfl rfl ?_; first | refine bv (v := .agg (List.toArray _)) rfl ?_ | refine bv (v := .int _ _) rfl ?_ | refine bv (v := .slice _ _ _) rfl ?_ | refine bv (v := .bool _) rfl ?_ | refine bv (v := .pointer _) rfl ?_ | refine bv (v := .string _) rfl ?_ | refine bv (v := .map _) rfl ?_ | refine bv (v := .func _ _ _) rfl ?_) | ((with_reducible refine gL rfl ?_); refine sh_lit HS.out rfl rfl (by go_simp; exact ⟨⟨rfl, rfl⟩, rfl⟩) ?_)); clear HS; intro g w1 hg HS1; (simp only [Frm.enc, Rep.enc, zeF, segOf, aL, aC, aE] at HS1); have HS := Aside0.mk HS1; clear HS1) | ((with_reducible refine gLd rfl ?_); refine ld2 HS.out rfl rfl rfl (by repeat (first | exact AtI.here | apply AtI.there)) ?_; (first | refine LdK.one ((agT _ (by decide)).trans rfl) rfl ?_ | (refine LdK.agg ((agT _ (by decide)).trans rfl) (szT _ (by decide)) (lb rfl) ?_; try simp only [szL, aP, aN, aT, aZ, aS, aD, aF, aJ, aK, aM, aO]))) | ((with_reducible refine gSt rfl ?_); refine st2 HS.out rfl rfl rfl rfl (by repeat (first | exact AtI.here | apply AtI.there)) ?_; (first | refine sv (u := .agg (List.toArray _)) rfl ?_ | refine sv (u := .int _ _) rfl ?_ | refine sv (u := .slice _ _ _) rfl ?_ | refine sv (u := .bool _) rfl ?_ | refine sv (u := .pointer _) rfl ?_ | refine sv (u := .string _) rfl ?_ | refine sv (u := .map _) rfl ?_ | refine sv (u := .func _ _ _) rfl ?_); refine sw (szT _ (by decide)) rfl (lb rfl) ?_; clear HS; intro w1 HS1; (simp only [Frm.enc, Rep.enc, segOf, aL, aZ, aS, putSeg] at HS1); have HS := Aside0.mk HS1; clear HS1)); try simp only [aP, aN, aT, aZ, aS]))
  go_ret
  exact ⟨A2, c2, _, rfl, HS.out.pick [0, 3, 1] rfl (by decide)⟩
end Go.Proofs.Ytkggchahhpmpbaa.Jud
