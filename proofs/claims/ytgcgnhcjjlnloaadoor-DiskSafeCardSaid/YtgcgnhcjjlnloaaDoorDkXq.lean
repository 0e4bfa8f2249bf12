/- Lemmas towards the law: what of the text DkX it needs. -/
import Derived.Test.YtgcgnhcjjlnloaaDoorDkWq
namespace Go.Proofs.YtgcgnhcjjlnloaaDoor.Dk
open Go.RowKit Go.Proofs.YtgcgnhcjjlnloaaDoorW.PrintWords Go.Proofs.YtgcgnhcjjlnloaaDoor.Sl
set_option linter.unusedVariables false
set_option linter.unusedSimpArgs false
def rremF (F : List RF) (name : ByteArray) (off : Bool) : List RF := if off then F else if rfind F name < F.length then F.take (rfind F name) ++ F.drop (rfind F name + 1) else F
set_option maxHeartbeats 6400000 in
set_option maxRecDepth 100000 in
theorem rremove_any {w0 w : World} {G : HP} (gX : Nat) (A : Option Addr) (n c : Nat) (x1 : Value) (off : Bool) (F : List RF) (S : Nat → Prop) (name : ByteArray) (hn : n ≤ 1000) (HS0 : SH w0 w [blk gX [.slice A n c, x1, .bool off] 60, row rfK 65 (.slice A n c) F S, G]) :
    Calls Tryd.prog 26 #[.pointer (some ⟨gX, 0, none⟩), .string name] w (fun e w' => ∃ A' c' S', e = .returned (.int .i64 (rreadE F name off)) ∧ SH w0 w' [blk gX [.slice A' (rremF F name off).length c', x1, .bool off] 60, row rfK 65 (.slice A' (rremF F name off).length c') (rremF F name off) S', G]) := by
  have HM := Aside0.mk (row_rds (hl := RF.len) (h1 := RF.one) 1 rfl _ HS0).len.1
  obtain ⟨hnF, hnc, hc63, hrf⟩ := row_form (hl := RF.len) (h1 := RF.one) HS0 1 rfl
  clear hnF hrf
  have HS := Aside0.mk HS0
  clear HS0
  obtain ⟨i, hi⟩ : ∃ i, rfind F name = i := ⟨_, rfl⟩
  by_cases hlt : i < n
  · have hr : rfindI F name = i := rfindI_lt hi (by rw [HM.out]; exact hlt)
    have HR := Aside0.mk (row_rds (hl := RF.len) (h1 := RF.one) 1 rfl _ HS.out)
    obtain ⟨ad, rfl⟩ := HR.out.addr (by omega)
    clear HR
    obtain ⟨L1, hL1⟩ : ∃ L1, F.take i = L1 := ⟨_, rfl⟩
    obtain ⟨L2, hL2⟩ : ∃ L2, L1 ++ F.drop (i + 1) = L2 := ⟨_, rfl⟩
    have HA : ∀ o, Aside0 (rremF F name o = (if o then F else L2) ∧ rreadE F name o = (if o then 7 else 0)) := fun o => ⟨by unfold rremF; rw [hi, hL1, hL2, if_pos (show i < F.length by rw [HM.out]; exact hlt)], by unfold rreadE; rw [hi, if_pos (show i < F.length by rw [HM.out]; exact hlt)]⟩
    have HN1 := Aside0.mk (show L1.length = i by rw [← hL1, List.length_take, HM.out]; omega)
    have HL1 := Aside0.mk hL1
    have HL2 := Aside0.mk hL2
    clear hi hL1 hL2
    have hge : decide ((i : Int) < 0) = false := by rw [decide_eq_false_iff_not]; omega
    have hib : (i : Int) ≤ 1000 := by omega
    cases off
    · have hne : ¬ c = i := by omega
      have hwr : IntKind.i64.wrap ((i : Int) + 1) = ((i + 1 : Nat) : Int) := by simp [IntKind.wrap, IntKind.bits, IntKind.signed]; omega
      go_enter Tryd.func26, Tryd.ntmps26
      go_upto_region 6 with (first | (go_at_call 39; (with_reducible refine (rfind_any gX (some ad) n c x1 (.bool false) F S name hn HS.out).mono ?_); rintro e w2 ⟨rfl, HS9⟩; (rw [hr]); clear HS; have HS := Aside0.mk HS9; clear HS9) | ((first | ((first | ((with_reducible refine gA rfl ?_); refine sh_alloc HS.out rfl rfl (zeT _ (by decide)) ?_) | ((with_reducible refine gB rfl ?_); refine bx HS.out rfl rfl ?_; first | refine bv (v := .agg (List.toArray _)) rfl ?_ | refine bv (v := .int _ _) rfl ?_ | refine bv (v := .slice _ _ _) rfl ?_ | refine bv (v := .bool _) rfl ?_ | refine bv (v := .pointer _) rfl ?_) | ((with_reducible refine gL rfl ?_); refine sh_lit HS.out rfl rfl (by go_simp; exact ⟨⟨rfl, rfl⟩, rfl⟩) ?_)); clear HS; intro g w1 hg HS1; (simp only [RF.enc, zeF, segOf, aL, aC, aE] at HS1); have HS := Aside0.mk HS1; clear HS1) | ((with_reducible refine gLd rfl ?_); refine ld2 HS.out rfl rfl rfl (by repeat (first | exact AtI.here | apply AtI.there)) ?_; (first | refine LdK.one ((agT _ (by decide)).trans rfl) rfl ?_ | (refine LdK.agg ((agT _ (by decide)).trans rfl) (szT _ (by decide)) (lb rfl) ?_; try simp only [szL, aP, aN, aT, aZ, aS, aD, aF, aJ, aK, aM, aO]))) | ((with_reducible refine gSt rfl ?_); refine st2 HS.out rfl rfl rfl rfl (by repeat (first | exact AtI.here | apply AtI.there)) ?_; (first | refine sv (u := .agg (List.toArray _)) rfl ?_ | refine sv (u := .int _ _) rfl ?_ | refine sv (u := .slice _ _ _) rfl ?_ | refine sv (u := .bool _) rfl ?_ | refine sv (u := .pointer _) rfl ?_); refine sw (szT _ (by decide)) rfl (lb rfl) ?_; clear HS; intro w1 HS1; (simp only [RF.enc, segOf, aL, aZ, aS, putSeg] at HS1); have HS := Aside0.mk HS1; clear HS1)); try simp only [aP, aN, aT, aZ, aS]))
      have hq1 : (i : Int) ≤ (i : Int) + 1 := by omega
      have hq2 : i ≤ c := by omega
      have hq3 : (0 : Int) ≤ (i : Int) + 1 := by omega
      have hq4 : (i : Int) + 1 ≤ (n : Int) := by omega
      by_cases hci : c = i + 1
      · have HC := Aside0.mk (HS.out.pick [0, 1] rfl (by decide))
        refine kheld_start [18] mixed HC.out (fun HC1 => ?_)
        have HS1 := HS.out.drew
        clear HS HC
        have HS := Aside0.mk HS1
        have HC := Aside0.mk HC1
        clear HS1 HC1
        refine k_any 0 (v := _) (by simp only [aG, aH, aI]; rfl) (by kernel_rfl) (by kernel_rfl) (by kernel_rfl) (by kernel_rfl) (by exact fun _ _ _ h => h) (.inr HC.out) (by kernel_rfl) (fun w => by (repeat (rename ∀ (_ : Act) (_ : World), _ => hK9; clear hK9)); go_simp; rfl) ?_
        (try simp only [aP, aN, aT, aZ, aS])
        refine k_any 1 (v := _) (by simp only [aG, aH, aI]; rfl) (by kernel_rfl) (by kernel_rfl) (by kernel_rfl) (by kernel_rfl) (by exact fun _ _ _ h => h) (.inr HC.out) (by kernel_rfl) (fun w => by (repeat (rename ∀ (_ : Act) (_ : World), _ => hK9; clear hK9)); go_simp; rfl) ?_
        (try simp only [aP, aN, aT, aZ, aS])
        refine k_any 2 (v := _) (by simp only [aG, aH, aI]; rfl) (by kernel_rfl) (by kernel_rfl) (by kernel_rfl) (by kernel_rfl) (by exact fun _ _ _ h => h) (.inr HC.out) (by kernel_rfl) (fun w => by (repeat (rename ∀ (_ : Act) (_ : World), _ => hK9; clear hK9)); go_simp; rfl) ?_
        (try simp only [aP, aN, aT, aZ, aS])
        refine k_any 3 (v := _) (by simp only [aG, aH, aI]; rfl) (by kernel_rfl) (by kernel_rfl) (by kernel_rfl) (by kernel_rfl) (by exact fun _ _ _ h => h) (.inr HC.out) (by kernel_rfl) (fun w => by (repeat (rename ∀ (_ : Act) (_ : World), _ => hK9; clear hK9)); go_simp; rfl) ?_
        (try simp only [aP, aN, aT, aZ, aS])
        refine k_load 4 (by simp only [aG, aH, aI]; rfl) (by kernel_rfl) (by kernel_rfl) (by kernel_rfl) (by kernel_rfl) (by exact fun _ _ _ h => h) HC.out (by kernel_rfl) rfl rfl 0 rfl ((agT _ (by decide)).trans rfl) rfl ?_
        (try simp only [aP, aN, aT, aZ, aS])
        refine k_any 5 (v := _) (by simp only [aG, aH, aI]; rfl) (by kernel_rfl) (by kernel_rfl) (by kernel_rfl) (by kernel_rfl) (by exact fun _ _ _ h => h) (.inr HC.out) (by kernel_rfl) (fun w => by (repeat (rename ∀ (_ : Act) (_ : World), _ => hK9; clear hK9)); go_simp; rfl) ?_
        (try simp only [aP, aN, aT, aZ, aS])
        refine k_any 6 (v := _) (by simp only [aG, aH, aI]; rfl) (by kernel_rfl) (by kernel_rfl) (by kernel_rfl) (by kernel_rfl) (by exact fun _ _ _ h => h) (.inr HC.out) (by kernel_rfl) (fun w => by (repeat (rename ∀ (_ : Act) (_ : World), _ => hK9; clear hK9)); go_simp; rfl) ?_
        (try simp only [aP, aN, aT, aZ, aS])
        refine k_any 8 (v := _) (by simp only [aG, aH, aI]; rfl) (by kernel_rfl) (by kernel_rfl) (by kernel_rfl) (by kernel_rfl) (by exact fun _ _ _ h => h) (.inr HC.out) (by kernel_rfl) (fun w => by (repeat (rename ∀ (_ : Act) (_ : World), _ => hK9; clear hK9)); go_simp; rfl) ?_
        (try simp only [aP, aN, aT, aZ, aS])
        refine k_any 9 (v := _) (by simp only [aG, aH, aI]; rfl) (by kernel_rfl) (by kernel_rfl) (by kernel_rfl) (by kernel_rfl) (by exact fun _ _ _ h => h) (.inr HC.out) (by kernel_rfl) (fun w => by (repeat (rename ∀ (_ : Act) (_ : World), _ => hK9; clear hK9)); go_simp; rfl) ?_
        (try simp only [aP, aN, aT, aZ, aS])
        refine k_any 10 (v := _) (by simp only [aG, aH, aI]; rfl) (by kernel_rfl) (by kernel_rfl) (by kernel_rfl) (by kernel_rfl) (by exact fun _ _ _ h => h) (.inr HC.out) (by kernel_rfl) (fun w => by (repeat (rename ∀ (_ : Act) (_ : World), _ => hK9; clear hK9)); go_simp; rfl) ?_
        (try simp only [aP, aN, aT, aZ, aS])
        refine k_load 11 (by simp only [aG, aH, aI]; rfl) (by kernel_rfl) (by kernel_rfl) (by kernel_rfl) (by kernel_rfl) (by exact fun _ _ _ h => h) HC.out (by kernel_rfl) rfl rfl 0 rfl ((agT _ (by decide)).trans rfl) rfl ?_
        (try simp only [aP, aN, aT, aZ, aS])
        refine k_any 12 (v := _) (by simp only [aG, aH, aI]; rfl) (by kernel_rfl) (by kernel_rfl) (by kernel_rfl) (by kernel_rfl) (by exact fun _ _ _ h => h) (.inr HC.out) (by kernel_rfl) (fun w => by (repeat (rename ∀ (_ : Act) (_ : World), _ => hK9; clear hK9)); go_simp; rfl) ?_
        (try simp only [aP, aN, aT, aZ, aS])
        refine k_any 13 (v := _) (by simp only [aG, aH, aI]; rfl) (by kernel_rfl) (by kernel_rfl) (by kernel_rfl) (by kernel_rfl) (by exact fun _ _ _ h => h) (.inr HC.out) (by kernel_rfl) (fun w => by (repeat (rename ∀ (_ : Act) (_ : World), _ => hK9; clear hK9)); go_simp; rfl) ?_
        (try simp only [aP, aN, aT, aZ, aS])
        refine k_any 14 (v := _) (by simp only [aG, aH, aI]; rfl) (by kernel_rfl) (by kernel_rfl) (by kernel_rfl) (by kernel_rfl) (by exact fun _ _ _ h => h) (.inr HC.out) (by kernel_rfl) (fun w => by (repeat (rename ∀ (_ : Act) (_ : World), _ => hK9; clear hK9)); go_simp; rfl) ?_
        (try simp only [aP, aN, aT, aZ, aS])
        refine k_one 7 (by simp only [aG, aH, aI]; rfl) (by kernel_rfl) ?_
        ((with_reducible refine gC (b := .append) rfl ?_); refine sh_append_nil RF.len RF.one HS.out rfl rfl rfl rfl (show Rd RF.enc 3 _ _ i L1 by rw [← HL1.out]; exact rd_takeF (row_rds (hl := RF.len) (h1 := RF.one) 1 rfl _ HS.out) (by omega)) Tryd.underlying58 infoRF rfl (by decide) (by decide) (by omega) ?_; clear HS; intro v1 w1 S1 HS1; (simp only [aC, aE] at HS1); have HS := Aside0.mk HS1; clear HS1; try simp only [aP, aN, aT, aZ, aS]; obtain ⟨A1, c1, rfl, hc1, _⟩ := row_rd HS.out 3 rfl)
        have HC1 := HS.out.pick [0, 1] rfl (by decide)
        clear HC
        have HC := Aside0.mk HC1
        clear HC1
        refine k_nil (.inr HC.out) ?_
        (try simp only [aP, aN, aT, aZ, aS])
        refine k_one 15 (by simp only [aG, aH, aI]; rfl) (by kernel_rfl) ?_
        refine gC (b := .append) rfl ?_; refine sh_append (hl := RF.len) (h1 := RF.one) HS.out rfl rfl rfl 3 rfl rfl (show Rd RF.enc 3 _ _ _ (F.drop (i + 1)) by rw [List.drop_of_length_le (by rw [HM.out]; omega), show n - (i + 1) = 0 by omega]; exact Rd.nil _ _ _ _) Tryd.underlying58 infoRF rfl (by decide) (by decide) (by rw [HN1.out]; omega) ?_; clear HS; intro v1 w1 S1 HS1; (simp only [aZ, aS] at HS1); rw [HL2.out] at HS1; have HS := Aside0.mk HS1; clear HS1; obtain ⟨A2, c2, rfl, hc2, _⟩ := row_rd HS.out 3 rfl
        have HC1 := HS.out.pick [0, 1] rfl (by decide)
        clear HC
        have HC := Aside0.mk HC1
        clear HC1
        refine k_nil (.inr HC.out) ?_
        (try simp only [aP, aN, aT, aZ, aS])
        refine k_any 16 (v := _) (by simp only [aG, aH, aI]; rfl) (by kernel_rfl) (by kernel_rfl) (by kernel_rfl) (by kernel_rfl) (by exact fun _ _ _ h => h) (.inr HC.out) (by kernel_rfl) (fun w => by (repeat (rename ∀ (_ : Act) (_ : World), _ => hK9; clear hK9)); go_simp; rfl) ?_
        (try simp only [aP, aN, aT, aZ, aS])
        refine k_any 17 (v := _) (by simp only [aG, aH, aI]; rfl) (by kernel_rfl) (by kernel_rfl) (by kernel_rfl) (by kernel_rfl) (by exact fun _ _ _ h => h) (.inr HC.out) (by kernel_rfl) (fun w => by (repeat (rename ∀ (_ : Act) (_ : World), _ => hK9; clear hK9)); go_simp; rfl) ?_
        (try simp only [aP, aN, aT, aZ, aS])
        refine k_one 18 (by simp only [aG, aH, aI]; rfl) (by kernel_rfl) ?_
        ((first | ((first | ((with_reducible refine gA rfl ?_); refine sh_alloc HS.out rfl rfl (zeT _ (by decide)) ?_) | ((with_reducible refine gB rfl ?_); refine bx HS.out rfl rfl ?_; first | refine bv (v := .agg (List.toArray _)) rfl ?_ | refine bv (v := .int _ _) rfl ?_ | refine bv (v := .slice _ _ _) rfl ?_ | refine bv (v := .bool _) rfl ?_ | refine bv (v := .pointer _) rfl ?_) | ((with_reducible refine gL rfl ?_); refine sh_lit HS.out rfl rfl (by go_simp; exact ⟨⟨rfl, rfl⟩, rfl⟩) ?_)); clear HS; intro g w1 hg HS1; (simp only [RF.enc, zeF, segOf, aL, aC, aE] at HS1); have HS := Aside0.mk HS1; clear HS1) | ((with_reducible refine gLd rfl ?_); refine ld2 HS.out rfl rfl rfl (by repeat (first | exact AtI.here | apply AtI.there)) ?_; (first | refine LdK.one ((agT _ (by decide)).trans rfl) rfl ?_ | (refine LdK.agg ((agT _ (by decide)).trans rfl) (szT _ (by decide)) (lb rfl) ?_; try simp only [szL, aP, aN, aT, aZ, aS, aD, aF, aJ, aK, aM, aO]))) | ((with_reducible refine gSt rfl ?_); refine st2 HS.out rfl rfl rfl rfl (by repeat (first | exact AtI.here | apply AtI.there)) ?_; (first | refine sv (u := .agg (List.toArray _)) rfl ?_ | refine sv (u := .int _ _) rfl ?_ | refine sv (u := .slice _ _ _) rfl ?_ | refine sv (u := .bool _) rfl ?_ | refine sv (u := .pointer _) rfl ?_); refine sw (szT _ (by decide)) rfl (lb rfl) ?_; clear HS; intro w1 HS1; (simp only [RF.enc, segOf, aL, aZ, aS, putSeg] at HS1); have HS := Aside0.mk HS1; clear HS1)); try simp only [aP, aN, aT, aZ, aS])
        refine k_nil (.inl (by kernel_rfl)) ?_
        (try simp only [aP, aN, aT, aZ, aS])
        refine k_done (by kernel_rfl) ?_ _
        go_wp2
        go_ret
        exact ⟨_, _, _, by rw [(HA false).out.2]; rfl, by rw [(HA false).out.1, if_neg (by simp)]; exact HS.out.pick [0, 3, 2] rfl (by decide)⟩
      · have HC := Aside0.mk (HS.out.pick [0, 1] rfl (by decide))
        refine kheld_start [18] mixed HC.out (fun HC1 => ?_)
        have HS1 := HS.out.drew
        clear HS HC
        have HS := Aside0.mk HS1
        have HC := Aside0.mk HC1
        clear HS1 HC1
        refine k_any 0 (v := _) (by simp only [aG, aH, aI]; rfl) (by kernel_rfl) (by kernel_rfl) (by kernel_rfl) (by kernel_rfl) (by exact fun _ _ _ h => h) (.inr HC.out) (by kernel_rfl) (fun w => by (repeat (rename ∀ (_ : Act) (_ : World), _ => hK9; clear hK9)); go_simp; rfl) ?_
        (try simp only [aP, aN, aT, aZ, aS])
        refine k_any 1 (v := _) (by simp only [aG, aH, aI]; rfl) (by kernel_rfl) (by kernel_rfl) (by kernel_rfl) (by kernel_rfl) (by exact fun _ _ _ h => h) (.inr HC.out) (by kernel_rfl) (fun w => by (repeat (rename ∀ (_ : Act) (_ : World), _ => hK9; clear hK9)); go_simp; rfl) ?_
        (try simp only [aP, aN, aT, aZ, aS])
        refine k_any 2 (v := _) (by simp only [aG, aH, aI]; rfl) (by kernel_rfl) (by kernel_rfl) (by kernel_rfl) (by kernel_rfl) (by exact fun _ _ _ h => h) (.inr HC.out) (by kernel_rfl) (fun w => by (repeat (rename ∀ (_ : Act) (_ : World), _ => hK9; clear hK9)); go_simp; rfl) ?_
        (try simp only [aP, aN, aT, aZ, aS])
        refine k_any 3 (v := _) (by simp only [aG, aH, aI]; rfl) (by kernel_rfl) (by kernel_rfl) (by kernel_rfl) (by kernel_rfl) (by exact fun _ _ _ h => h) (.inr HC.out) (by kernel_rfl) (fun w => by (repeat (rename ∀ (_ : Act) (_ : World), _ => hK9; clear hK9)); go_simp; rfl) ?_
        (try simp only [aP, aN, aT, aZ, aS])
        refine k_load 4 (by simp only [aG, aH, aI]; rfl) (by kernel_rfl) (by kernel_rfl) (by kernel_rfl) (by kernel_rfl) (by exact fun _ _ _ h => h) HC.out (by kernel_rfl) rfl rfl 0 rfl ((agT _ (by decide)).trans rfl) rfl ?_
        (try simp only [aP, aN, aT, aZ, aS])
        refine k_any 5 (v := _) (by simp only [aG, aH, aI]; rfl) (by kernel_rfl) (by kernel_rfl) (by kernel_rfl) (by kernel_rfl) (by exact fun _ _ _ h => h) (.inr HC.out) (by kernel_rfl) (fun w => by (repeat (rename ∀ (_ : Act) (_ : World), _ => hK9; clear hK9)); go_simp; rfl) ?_
        (try simp only [aP, aN, aT, aZ, aS])
        refine k_any 6 (v := _) (by simp only [aG, aH, aI]; rfl) (by kernel_rfl) (by kernel_rfl) (by kernel_rfl) (by kernel_rfl) (by exact fun _ _ _ h => h) (.inr HC.out) (by kernel_rfl) (fun w => by (repeat (rename ∀ (_ : Act) (_ : World), _ => hK9; clear hK9)); go_simp; rfl) ?_
        (try simp only [aP, aN, aT, aZ, aS])
        refine k_any 8 (v := _) (by simp only [aG, aH, aI]; rfl) (by kernel_rfl) (by kernel_rfl) (by kernel_rfl) (by kernel_rfl) (by exact fun _ _ _ h => h) (.inr HC.out) (by kernel_rfl) (fun w => by (repeat (rename ∀ (_ : Act) (_ : World), _ => hK9; clear hK9)); go_simp; rfl) ?_
        (try simp only [aP, aN, aT, aZ, aS])
        refine k_any 9 (v := _) (by simp only [aG, aH, aI]; rfl) (by kernel_rfl) (by kernel_rfl) (by kernel_rfl) (by kernel_rfl) (by exact fun _ _ _ h => h) (.inr HC.out) (by kernel_rfl) (fun w => by (repeat (rename ∀ (_ : Act) (_ : World), _ => hK9; clear hK9)); go_simp; rfl) ?_
        (try simp only [aP, aN, aT, aZ, aS])
        refine k_any 10 (v := _) (by simp only [aG, aH, aI]; rfl) (by kernel_rfl) (by kernel_rfl) (by kernel_rfl) (by kernel_rfl) (by exact fun _ _ _ h => h) (.inr HC.out) (by kernel_rfl) (fun w => by (repeat (rename ∀ (_ : Act) (_ : World), _ => hK9; clear hK9)); go_simp; rfl) ?_
        (try simp only [aP, aN, aT, aZ, aS])
        refine k_load 11 (by simp only [aG, aH, aI]; rfl) (by kernel_rfl) (by kernel_rfl) (by kernel_rfl) (by kernel_rfl) (by exact fun _ _ _ h => h) HC.out (by kernel_rfl) rfl rfl 0 rfl ((agT _ (by decide)).trans rfl) rfl ?_
        (try simp only [aP, aN, aT, aZ, aS])
        refine k_any 12 (v := _) (by simp only [aG, aH, aI]; rfl) (by kernel_rfl) (by kernel_rfl) (by kernel_rfl) (by kernel_rfl) (by exact fun _ _ _ h => h) (.inr HC.out) (by kernel_rfl) (fun w => by (repeat (rename ∀ (_ : Act) (_ : World), _ => hK9; clear hK9)); go_simp; rfl) ?_
        (try simp only [aP, aN, aT, aZ, aS])
        refine k_any 13 (v := _) (by simp only [aG, aH, aI]; rfl) (by kernel_rfl) (by kernel_rfl) (by kernel_rfl) (by kernel_rfl) (by exact fun _ _ _ h => h) (.inr HC.out) (by kernel_rfl) (fun w => by (repeat (rename ∀ (_ : Act) (_ : World), _ => hK9; clear hK9)); go_simp; rfl) ?_
        (try simp only [aP, aN, aT, aZ, aS])
        refine k_any 14 (v := _) (by simp only [aG, aH, aI]; rfl) (by kernel_rfl) (by kernel_rfl) (by kernel_rfl) (by kernel_rfl) (by exact fun _ _ _ h => h) (.inr HC.out) (by kernel_rfl) (fun w => by (repeat (rename ∀ (_ : Act) (_ : World), _ => hK9; clear hK9)); go_simp; rfl) ?_
        (try simp only [aP, aN, aT, aZ, aS])
        refine k_one 7 (by simp only [aG, aH, aI]; rfl) (by kernel_rfl) ?_
        ((with_reducible refine gC (b := .append) rfl ?_); refine sh_append_nil RF.len RF.one HS.out rfl rfl rfl rfl (show Rd RF.enc 3 _ _ i L1 by rw [← HL1.out]; exact rd_takeF (row_rds (hl := RF.len) (h1 := RF.one) 1 rfl _ HS.out) (by omega)) Tryd.underlying58 infoRF rfl (by decide) (by decide) (by omega) ?_; clear HS; intro v1 w1 S1 HS1; (simp only [aC, aE] at HS1); have HS := Aside0.mk HS1; clear HS1; try simp only [aP, aN, aT, aZ, aS]; obtain ⟨A1, c1, rfl, hc1, _⟩ := row_rd HS.out 3 rfl)
        have HC1 := HS.out.pick [0, 1] rfl (by decide)
        clear HC
        have HC := Aside0.mk HC1
        clear HC1
        refine k_nil (.inr HC.out) ?_
        (try simp only [aP, aN, aT, aZ, aS])
        refine k_one 15 (by simp only [aG, aH, aI]; rfl) (by kernel_rfl) ?_
        refine gC (b := .append) rfl ?_; refine sh_append (hl := RF.len) (h1 := RF.one) HS.out rfl rfl rfl 3 rfl rfl (rd_dropF (row_rds (hl := RF.len) (h1 := RF.one) 1 rfl _ HS.out) (by omega)) Tryd.underlying58 infoRF rfl (by decide) (by decide) (by rw [HN1.out]; omega) ?_; clear HS; intro v1 w1 S1 HS1; (simp only [aZ, aS] at HS1); rw [HL2.out] at HS1; have HS := Aside0.mk HS1; clear HS1; obtain ⟨A2, c2, rfl, hc2, _⟩ := row_rd HS.out 3 rfl
        have HC1 := HS.out.pick [0, 1] rfl (by decide)
        clear HC
        have HC := Aside0.mk HC1
        clear HC1
        refine k_nil (.inr HC.out) ?_
        (try simp only [aP, aN, aT, aZ, aS])
        refine k_any 16 (v := _) (by simp only [aG, aH, aI]; rfl) (by kernel_rfl) (by kernel_rfl) (by kernel_rfl) (by kernel_rfl) (by exact fun _ _ _ h => h) (.inr HC.out) (by kernel_rfl) (fun w => by (repeat (rename ∀ (_ : Act) (_ : World), _ => hK9; clear hK9)); go_simp; rfl) ?_
        (try simp only [aP, aN, aT, aZ, aS])
        refine k_any 17 (v := _) (by simp only [aG, aH, aI]; rfl) (by kernel_rfl) (by kernel_rfl) (by kernel_rfl) (by kernel_rfl) (by exact fun _ _ _ h => h) (.inr HC.out) (by kernel_rfl) (fun w => by (repeat (rename ∀ (_ : Act) (_ : World), _ => hK9; clear hK9)); go_simp; rfl) ?_
        (try simp only [aP, aN, aT, aZ, aS])
        refine k_one 18 (by simp only [aG, aH, aI]; rfl) (by kernel_rfl) ?_
        ((first | ((first | ((with_reducible refine gA rfl ?_); refine sh_alloc HS.out rfl rfl (zeT _ (by decide)) ?_) | ((with_reducible refine gB rfl ?_); refine bx HS.out rfl rfl ?_; first | refine bv (v := .agg (List.toArray _)) rfl ?_ | refine bv (v := .int _ _) rfl ?_ | refine bv (v := .slice _ _ _) rfl ?_ | refine bv (v := .bool _) rfl ?_ | refine bv (v := .pointer _) rfl ?_) | ((with_reducible refine gL rfl ?_); refine sh_lit HS.out rfl rfl (by go_simp; exact ⟨⟨rfl, rfl⟩, rfl⟩) ?_)); clear HS; intro g w1 hg HS1; (simp only [RF.enc, zeF, segOf, aL, aC, aE] at HS1); have HS := Aside0.mk HS1; clear HS1) | ((with_reducible refine gLd rfl ?_); refine ld2 HS.out rfl rfl rfl (by repeat (first | exact AtI.here | apply AtI.there)) ?_; (first | refine LdK.one ((agT _ (by decide)).trans rfl) rfl ?_ | (refine LdK.agg ((agT _ (by decide)).trans rfl) (szT _ (by decide)) (lb rfl) ?_; try simp only [szL, aP, aN, aT, aZ, aS, aD, aF, aJ, aK, aM, aO]))) | ((with_reducible refine gSt rfl ?_); refine st2 HS.out rfl rfl rfl rfl (by repeat (first | exact AtI.here | apply AtI.there)) ?_; (first | refine sv (u := .agg (List.toArray _)) rfl ?_ | refine sv (u := .int _ _) rfl ?_ | refine sv (u := .slice _ _ _) rfl ?_ | refine sv (u := .bool _) rfl ?_ | refine sv (u := .pointer _) rfl ?_); refine sw (szT _ (by decide)) rfl (lb rfl) ?_; clear HS; intro w1 HS1; (simp only [RF.enc, segOf, aL, aZ, aS, putSeg] at HS1); have HS := Aside0.mk HS1; clear HS1)); try simp only [aP, aN, aT, aZ, aS])
        refine k_nil (.inl (by kernel_rfl)) ?_
        (try simp only [aP, aN, aT, aZ, aS])
        refine k_done (by kernel_rfl) ?_ _
        go_wp2
        go_ret
        exact ⟨_, _, _, by rw [(HA false).out.2]; rfl, by rw [(HA false).out.1, if_neg (by simp)]; exact HS.out.pick [0, 3, 2] rfl (by decide)⟩
    · go_enter Tryd.func26, Tryd.ntmps26
      go_wp2_with (first | (go_at_call 39; (with_reducible refine (rfind_any gX (some ad) n c x1 (.bool true) F S name hn HS.out).mono ?_); rintro e w2 ⟨rfl, HS9⟩; (rw [hr]); clear HS; have HS := Aside0.mk HS9; clear HS9) | ((first | ((first | ((with_reducible refine gA rfl ?_); refine sh_alloc HS.out rfl rfl (zeT _ (by decide)) ?_) | ((with_reducible refine gB rfl ?_); refine bx HS.out rfl rfl ?_; first | refine bv (v := .agg (List.toArray _)) rfl ?_ | refine bv (v := .int _ _) rfl ?_ | refine bv (v := .slice _ _ _) rfl ?_ | refine bv (v := .bool _) rfl ?_ | refine bv (v := .pointer _) rfl ?_) | ((with_reducible refine gL rfl ?_); refine sh_lit HS.out rfl rfl (by go_simp; exact ⟨⟨rfl, rfl⟩, rfl⟩) ?_)); clear HS; intro g w1 hg HS1; (simp only [RF.enc, zeF, segOf, aL, aC, aE] at HS1); have HS := Aside0.mk HS1; clear HS1) | ((with_reducible refine gLd rfl ?_); refine ld2 HS.out rfl rfl rfl (by repeat (first | exact AtI.here | apply AtI.there)) ?_; (first | refine LdK.one ((agT _ (by decide)).trans rfl) rfl ?_ | (refine LdK.agg ((agT _ (by decide)).trans rfl) (szT _ (by decide)) (lb rfl) ?_; try simp only [szL, aP, aN, aT, aZ, aS, aD, aF, aJ, aK, aM, aO]))) | ((with_reducible refine gSt rfl ?_); refine st2 HS.out rfl rfl rfl rfl (by repeat (first | exact AtI.here | apply AtI.there)) ?_; (first | refine sv (u := .agg (List.toArray _)) rfl ?_ | refine sv (u := .int _ _) rfl ?_ | refine sv (u := .slice _ _ _) rfl ?_ | refine sv (u := .bool _) rfl ?_ | refine sv (u := .pointer _) rfl ?_); refine sw (szT _ (by decide)) rfl (lb rfl) ?_; clear HS; intro w1 HS1; (simp only [RF.enc, segOf, aL, aZ, aS, putSeg] at HS1); have HS := Aside0.mk HS1; clear HS1)); try simp only [aP, aN, aT, aZ, aS]))
      go_ret
      exact ⟨_, _, _, by rw [(HA true).out.2]; rfl, by rw [(HA true).out.1, if_pos (by simp), HM.out]; exact HS.out⟩
  · have hr : rfindI F name = -1 := rfindI_ge (by rw [hi, HM.out]; exact hlt)
    have HA : ∀ o, Aside0 (rremF F name o = F ∧ rreadE F name o = (if o then 7 else 4)) := fun o => ⟨by unfold rremF; rw [hi, if_neg (show ¬ i < F.length by rw [HM.out]; exact hlt)]; cases o <;> rfl, by unfold rreadE; rw [hi, if_neg (show ¬ i < F.length by rw [HM.out]; exact hlt)]⟩
    clear hi
    cases off
    all_goals
      go_enter Tryd.func26, Tryd.ntmps26
      go_wp2_with (first | (go_at_call 39; (with_reducible refine (rfind_any gX A n c x1 _ F S name hn HS.out).mono ?_); rintro e w2 ⟨rfl, HS9⟩; (rw [hr]); clear HS; have HS := Aside0.mk HS9; clear HS9) | ((first | ((first | ((with_reducible refine gA rfl ?_); refine sh_alloc HS.out rfl rfl (zeT _ (by decide)) ?_) | ((with_reducible refine gB rfl ?_); refine bx HS.out rfl rfl ?_; first | refine bv (v := .agg (List.toArray _)) rfl ?_ | refine bv (v := .int _ _) rfl ?_ | refine bv (v := .slice _ _ _) rfl ?_ | refine bv (v := .bool _) rfl ?_ | refine bv (v := .pointer _) rfl ?_) | ((with_reducible refine gL rfl ?_); refine sh_lit HS.out rfl rfl (by go_simp; exact ⟨⟨rfl, rfl⟩, rfl⟩) ?_)); clear HS; intro g w1 hg HS1; (simp only [RF.enc, zeF, segOf, aL, aC, aE] at HS1); have HS := Aside0.mk HS1; clear HS1) | ((with_reducible refine gLd rfl ?_); refine ld2 HS.out rfl rfl rfl (by repeat (first | exact AtI.here | apply AtI.there)) ?_; (first | refine LdK.one ((agT _ (by decide)).trans rfl) rfl ?_ | (refine LdK.agg ((agT _ (by decide)).trans rfl) (szT _ (by decide)) (lb rfl) ?_; try simp only [szL, aP, aN, aT, aZ, aS, aD, aF, aJ, aK, aM, aO]))) | ((with_reducible refine gSt rfl ?_); refine st2 HS.out rfl rfl rfl rfl (by repeat (first | exact AtI.here | apply AtI.there)) ?_; (first | refine sv (u := .agg (List.toArray _)) rfl ?_ | refine sv (u := .int _ _) rfl ?_ | refine sv (u := .slice _ _ _) rfl ?_ | refine sv (u := .bool _) rfl ?_ | refine sv (u := .pointer _) rfl ?_); refine sw (szT _ (by decide)) rfl (lb rfl) ?_; clear HS; intro w1 HS1; (simp only [RF.enc, segOf, aL, aZ, aS, putSeg] at HS1); have HS := Aside0.mk HS1; clear HS1)); try simp only [aP, aN, aT, aZ, aS]))
      go_ret
      exact ⟨_, _, _, by rw [(HA _).out.2]; rfl, by rw [(HA _).out.1, HM.out]; exact HS.out⟩
end Go.Proofs.YtgcgnhcjjlnloaaDoor.Dk
