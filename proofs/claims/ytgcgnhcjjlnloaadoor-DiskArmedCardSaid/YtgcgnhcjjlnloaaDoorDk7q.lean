/- Lemmas towards the law: what of the text Dk7 it needs. -/
import Derived.Test.YtgcgnhcjjlnloaaDoorDk6q
namespace Go.Proofs.YtgcgnhcjjlnloaaDoor.Dk
open Go.RowKit Go.Proofs.YtgcgnhcjjlnloaaDoorW.PrintWords Go.Proofs.YtgcgnhcjjlnloaaDoor.Sl
set_option linter.unusedVariables false
set_option linter.unusedSimpArgs false
def looseOf (o : Option Fi) : Int := ((o.getD fi0).xs.length : Int) - ((o.getD fi0).safe : Int)
set_option maxHeartbeats 1600000 in
set_option maxRecDepth 100000 in
theorem new_any (w : World) : Calls Tryd.prog 7 #[] w (fun e w' => ∃ gD gM, e = .returned (.pointer (some ⟨gD, 0, none⟩)) ∧ SH w w' [blk gD [.map (some gM), .int .i64 0, .bool false, .bool false] 52, mpF gM []]) := by
  have HS := Aside0.mk (SH.start w)
  go_enter Tryd.func7, Tryd.ntmps7
  go_wp2_with (first | ((fail_if_success (have _ := gm)); ((with_reducible refine gMm rfl ?_); refine sh_makeMap HS.out rfl rfl strV Fi.enc (fun _ => True) ?_; clear HS; intro gm w1 hgm HS1; (simp only [aC, aE] at HS1); have HS := Aside0.mk HS1; clear HS1; try simp only [aP, aN, aT, aZ, aS])) | ((fail_if_success (have _ := gb)); ((with_reducible refine gB rfl ?_); refine bx HS.out rfl rfl ?_; (first | refine bv (v := .agg (List.toArray _)) rfl ?_ | refine bv (v := .int _ _) rfl ?_ | refine bv (v := .slice _ _ _) rfl ?_ | refine bv (v := .bool _) rfl ?_ | refine bv (v := .pointer _) rfl ?_); clear HS; intro gb w1 hgb HS1; (simp only [segOf, aL, aC, aE] at HS1); have HS := Aside0.mk HS1; clear HS1; try simp only [aP, aN, aT, aZ, aS])) | ((first | ((first | ((with_reducible refine gA rfl ?_); refine sh_alloc HS.out rfl rfl (zeT _ (by decide)) ?_) | ((with_reducible refine gB rfl ?_); refine bx HS.out rfl rfl ?_; first | refine bv (v := .agg (List.toArray _)) rfl ?_ | refine bv (v := .int _ _) rfl ?_ | refine bv (v := .slice _ _ _) rfl ?_ | refine bv (v := .bool _) rfl ?_ | refine bv (v := .pointer _) rfl ?_) | ((with_reducible refine gL rfl ?_); refine sh_lit HS.out rfl rfl (by go_simp; exact ⟨⟨rfl, rfl⟩, rfl⟩) ?_)); clear HS; intro g w1 hg HS1; (simp only [zeF, segOf, aL, aC, aE] at HS1); have HS := Aside0.mk HS1; clear HS1)); try simp only [aP, aN, aT, aZ, aS]))
  go_ret
  exact ⟨gb, gm, rfl, HS.out.pick [1, 0] rfl (by decide)⟩
set_option maxHeartbeats 1600000 in
set_option maxRecDepth 100000 in
theorem on_any {w0 w : World} {F : HP} (gD : Nat) (x0 x1 x2 : Value) (off : Bool) (HS0 : SH w0 w [blk gD [x0, x1, x2, .bool off] 52, F]) : Calls Tryd.prog 10 #[.pointer (some ⟨gD, 0, none⟩)] w (fun e w' => e = .returned (.bool (!off)) ∧ SH w0 w' [blk gD [x0, x1, x2, .bool off] 52, F]) := by
  have HS := Aside0.mk HS0
  clear HS0
  go_enter Tryd.func10, Tryd.ntmps10
  go_wp2_with (first | ((first | ((first | ((with_reducible refine gA rfl ?_); refine sh_alloc HS.out rfl rfl (zeT _ (by decide)) ?_) | ((with_reducible refine gB rfl ?_); refine bx HS.out rfl rfl ?_; first | refine bv (v := .agg (List.toArray _)) rfl ?_ | refine bv (v := .int _ _) rfl ?_ | refine bv (v := .slice _ _ _) rfl ?_ | refine bv (v := .bool _) rfl ?_ | refine bv (v := .pointer _) rfl ?_) | ((with_reducible refine gL rfl ?_); refine sh_lit HS.out rfl rfl (by go_simp; exact ⟨⟨rfl, rfl⟩, rfl⟩) ?_)); clear HS; intro g w1 hg HS1; (simp only [zeF, segOf, aL, aC, aE] at HS1); have HS := Aside0.mk HS1; clear HS1) | ((with_reducible refine gLd rfl ?_); refine ld2 HS.out rfl rfl rfl (by repeat (first | exact AtI.here | apply AtI.there)) ?_; (first | refine LdK.one ((agT _ (by decide)).trans rfl) rfl ?_ | (refine LdK.agg ((agT _ (by decide)).trans rfl) (szT _ (by decide)) (lb rfl) ?_; try simp only [szL, aP, aN, aT, aZ, aS, aD, aF, aJ, aK, aM, aO]))) | ((with_reducible refine gSt rfl ?_); refine st2 HS.out rfl rfl rfl rfl (by repeat (first | exact AtI.here | apply AtI.there)) ?_; (first | refine sv (u := .agg (List.toArray _)) rfl ?_ | refine sv (u := .int _ _) rfl ?_ | refine sv (u := .slice _ _ _) rfl ?_ | refine sv (u := .bool _) rfl ?_ | refine sv (u := .pointer _) rfl ?_); refine sw (szT _ (by decide)) rfl (lb rfl) ?_; clear HS; intro w1 HS1; (simp only [segOf, aL, aZ, aS, putSeg] at HS1); have HS := Aside0.mk HS1; clear HS1)); try simp only [aP, aN, aT, aZ, aS]))
  go_ret
  exact ⟨rfl, HS.out⟩
set_option maxHeartbeats 1600000 in
set_option maxRecDepth 100000 in
theorem arm_any {w0 w : World} {F : HP} (gD : Nat) (x0 : Value) (left : Int) (armed off : Bool) (n : Int) (HS0 : SH w0 w [blk gD [x0, .int .i64 left, .bool armed, .bool off] 52, F]) : Calls Tryd.prog 8 #[.pointer (some ⟨gD, 0, none⟩), .int .i64 n] w (fun e w' => e = .returned (.tuple #[]) ∧ SH w0 w' [blk gD [x0, .int .i64 (if off then left else n), .bool (if off then armed else decide (0 ≤ n)), .bool off] 52, F]) := by
  have HS := Aside0.mk HS0
  clear HS0
  cases off
  all_goals
    simp only [if_true, Bool.false_eq_true, if_false]
    go_enter Tryd.func8, Tryd.ntmps8
    go_wp2_with (first | ((first | ((first | ((with_reducible refine gA rfl ?_); refine sh_alloc HS.out rfl rfl (zeT _ (by decide)) ?_) | ((with_reducible refine gB rfl ?_); refine bx HS.out rfl rfl ?_; first | refine bv (v := .agg (List.toArray _)) rfl ?_ | refine bv (v := .int _ _) rfl ?_ | refine bv (v := .slice _ _ _) rfl ?_ | refine bv (v := .bool _) rfl ?_ | refine bv (v := .pointer _) rfl ?_) | ((with_reducible refine gL rfl ?_); refine sh_lit HS.out rfl rfl (by go_simp; exact ⟨⟨rfl, rfl⟩, rfl⟩) ?_)); clear HS; intro g w1 hg HS1; (simp only [zeF, segOf, aL, aC, aE] at HS1); have HS := Aside0.mk HS1; clear HS1) | ((with_reducible refine gLd rfl ?_); refine ld2 HS.out rfl rfl rfl (by repeat (first | exact AtI.here | apply AtI.there)) ?_; (first | refine LdK.one ((agT _ (by decide)).trans rfl) rfl ?_ | (refine LdK.agg ((agT _ (by decide)).trans rfl) (szT _ (by decide)) (lb rfl) ?_; try simp only [szL, aP, aN, aT, aZ, aS, aD, aF, aJ, aK, aM, aO]))) | ((with_reducible refine gSt rfl ?_); refine st2 HS.out rfl rfl rfl rfl (by repeat (first | exact AtI.here | apply AtI.there)) ?_; (first | refine sv (u := .agg (List.toArray _)) rfl ?_ | refine sv (u := .int _ _) rfl ?_ | refine sv (u := .slice _ _ _) rfl ?_ | refine sv (u := .bool _) rfl ?_ | refine sv (u := .pointer _) rfl ?_); refine sw (szT _ (by decide)) rfl (lb rfl) ?_; clear HS; intro w1 HS1; (simp only [segOf, aL, aZ, aS, putSeg] at HS1); have HS := Aside0.mk HS1; clear HS1)); try simp only [aP, aN, aT, aZ, aS]))
    go_end0
    exact ⟨rfl, HS.out⟩
set_option maxHeartbeats 3200000 in
set_option maxRecDepth 100000 in
theorem loose_any {w0 w : World} {F : HP} (gD gM : Nat) (x1 x2 x3 : Value) (m : FM) (name : ByteArray) (o : Option Fi) (hg : mget m name = o) (ho : ∀ f, o = some f → f.safe ≤ f.xs.length ∧ f.xs.length ≤ 9223372036854775807) (HS0 : SH w0 w [blk gD [.map (some gM), x1, x2, x3] 52, mpF gM m, F]) : Calls Tryd.prog 16 #[.pointer (some ⟨gD, 0, none⟩), .string name] w (fun e w' => e = .returned (.int .i64 (looseOf o)) ∧ SH w0 w' [blk gD [.map (some gM), x1, x2, x3] 52, mpF gM m, F]) := by
  have HS := Aside0.mk HS0
  clear HS0
  have HG := Aside0.mk hg
  clear hg
  rcases o with _ | ⟨A, c, xs, safe⟩
  · go_enter Tryd.func16, Tryd.ntmps16
    go_upto_region 1 with (fail)
    have HC := Aside0.mk (HS.out.pick [0, 1] rfl (by decide))
    refine kheld_start [] mixed HC.out (fun HC1 => ?_)
    have HS1 := HS.out.drew
    clear HS HC
    have HS := Aside0.mk HS1
    have HC := Aside0.mk HC1
    clear HS1 HC1
    refine k_any 0 (v := _) (by simp only [aG, aH, aI]; rfl) (by kernel_rfl) (by kernel_rfl) (by kernel_rfl) (by kernel_rfl) (by exact fun _ _ _ h => h) (.inr HC.out) (by kernel_rfl) (fun w => by (repeat (rename ∀ (_ : Act) (_ : World), _ => hK9; clear hK9)); go_simp; rfl) ?_
    (try simp only [aP, aN, aT, aZ, aS])
    refine k_any 1 (v := _) (by simp only [aG, aH, aI]; rfl) (by kernel_rfl) (by kernel_rfl) (by kernel_rfl) (by kernel_rfl) (by exact fun _ _ _ h => h) (.inr HC.out) (by kernel_rfl) (fun w => by (repeat (rename ∀ (_ : Act) (_ : World), _ => hK9; clear hK9)); go_simp; rfl) ?_
    (try simp only [aP, aN, aT, aZ, aS])
    refine k_any 2 (v := _) (by simp only [aG, aH, aI]; rfl) (by kernel_rfl) (by kernel_rfl) (by kernel_rfl) (by kernel_rfl) (by exact fun _ _ _ h => h) (.inr HC.out) (by kernel_rfl) (fun w => by (repeat (rename ∀ (_ : Act) (_ : World), _ => hK9; clear hK9)); go_simp; rfl) ?_
    (try simp only [aP, aN, aT, aZ, aS])
    refine k_load 3 (by simp only [aG, aH, aI]; rfl) (by kernel_rfl) (by kernel_rfl) (by kernel_rfl) (by kernel_rfl) (by exact fun _ _ _ h => h) HC.out (by kernel_rfl) rfl rfl 0 rfl ((agT _ (by decide)).trans rfl) rfl ?_
    (try simp only [aP, aN, aT, aZ, aS])
    refine k_any 4 (v := _) (by simp only [aG, aH, aI]; rfl) (by kernel_rfl) (by kernel_rfl) (by kernel_rfl) (by kernel_rfl) (by exact fun _ _ _ h => h) (.inr HC.out) (by kernel_rfl) (fun w => by (repeat (rename ∀ (_ : Act) (_ : World), _ => hK9; clear hK9)); go_simp; rfl) ?_
    (try simp only [aP, aN, aT, aZ, aS])
    refine k_val 5 (v := .agg #[.slice none 0 0, .int .i64 0]) (by simp only [aG, aH, aI]; rfl) (by kernel_rfl) (by kernel_rfl) (by kernel_rfl) (by kernel_rfl) (by exact fun _ _ _ h => h) HC.out (by kernel_rfl) (fun w hs => run_lk1 hs rfl rfl 1 rfl name rfl trivial Tryd.underlying50 ownStr (z := fi0) fileZero (by rw [HG.out]; rfl)) ?_
    (try simp only [aP, aN, aT, aZ, aS])
    refine k_any 6 (v := _) (by simp only [aG, aH, aI]; rfl) (by kernel_rfl) (by kernel_rfl) (by kernel_rfl) (by kernel_rfl) (by exact fun _ _ _ h => h) (.inr HC.out) (by kernel_rfl) (fun w => by (repeat (rename ∀ (_ : Act) (_ : World), _ => hK9; clear hK9)); go_simp; rfl) ?_
    (try simp only [aP, aN, aT, aZ, aS])
    refine k_any 7 (v := _) (by simp only [aG, aH, aI]; rfl) (by kernel_rfl) (by kernel_rfl) (by kernel_rfl) (by kernel_rfl) (by exact fun _ _ _ h => h) (.inr HC.out) (by kernel_rfl) (fun w => by (repeat (rename ∀ (_ : Act) (_ : World), _ => hK9; clear hK9)); go_simp; rfl) ?_
    (try simp only [aP, aN, aT, aZ, aS])
    refine k_any 8 (v := _) (by simp only [aG, aH, aI]; rfl) (by kernel_rfl) (by kernel_rfl) (by kernel_rfl) (by kernel_rfl) (by exact fun _ _ _ h => h) (.inr HC.out) (by kernel_rfl) (fun w => by (repeat (rename ∀ (_ : Act) (_ : World), _ => hK9; clear hK9)); go_simp; rfl) ?_
    (try simp only [aP, aN, aT, aZ, aS])
    refine k_any 9 (v := _) (by simp only [aG, aH, aI]; rfl) (by kernel_rfl) (by kernel_rfl) (by kernel_rfl) (by kernel_rfl) (by exact fun _ _ _ h => h) (.inr HC.out) (by kernel_rfl) (fun w => by (repeat (rename ∀ (_ : Act) (_ : World), _ => hK9; clear hK9)); go_simp; rfl) ?_
    (try simp only [aP, aN, aT, aZ, aS])
    refine k_any 10 (v := _) (by simp only [aG, aH, aI]; rfl) (by kernel_rfl) (by kernel_rfl) (by kernel_rfl) (by kernel_rfl) (by exact fun _ _ _ h => h) (.inr HC.out) (by kernel_rfl) (fun w => by (repeat (rename ∀ (_ : Act) (_ : World), _ => hK9; clear hK9)); go_simp; rfl) ?_
    (try simp only [aP, aN, aT, aZ, aS])
    refine k_load 11 (by simp only [aG, aH, aI]; rfl) (by kernel_rfl) (by kernel_rfl) (by kernel_rfl) (by kernel_rfl) (by exact fun _ _ _ h => h) HC.out (by kernel_rfl) rfl rfl 0 rfl ((agT _ (by decide)).trans rfl) rfl ?_
    (try simp only [aP, aN, aT, aZ, aS])
    refine k_any 12 (v := _) (by simp only [aG, aH, aI]; rfl) (by kernel_rfl) (by kernel_rfl) (by kernel_rfl) (by kernel_rfl) (by exact fun _ _ _ h => h) (.inr HC.out) (by kernel_rfl) (fun w => by (repeat (rename ∀ (_ : Act) (_ : World), _ => hK9; clear hK9)); go_simp; rfl) ?_
    (try simp only [aP, aN, aT, aZ, aS])
    refine k_val 13 (v := .agg #[.slice none 0 0, .int .i64 0]) (by simp only [aG, aH, aI]; rfl) (by kernel_rfl) (by kernel_rfl) (by kernel_rfl) (by kernel_rfl) (by exact fun _ _ _ h => h) HC.out (by kernel_rfl) (fun w hs => run_lk1 hs rfl rfl 1 rfl name rfl trivial Tryd.underlying50 ownStr (z := fi0) fileZero (by rw [HG.out]; rfl)) ?_
    (try simp only [aP, aN, aT, aZ, aS])
    refine k_any 14 (v := _) (by simp only [aG, aH, aI]; rfl) (by kernel_rfl) (by kernel_rfl) (by kernel_rfl) (by kernel_rfl) (by exact fun _ _ _ h => h) (.inr HC.out) (by kernel_rfl) (fun w => by (repeat (rename ∀ (_ : Act) (_ : World), _ => hK9; clear hK9)); go_simp; rfl) ?_
    (try simp only [aP, aN, aT, aZ, aS])
    refine k_any 15 (v := _) (by simp only [aG, aH, aI]; rfl) (by kernel_rfl) (by kernel_rfl) (by kernel_rfl) (by kernel_rfl) (by exact fun _ _ _ h => h) (.inr HC.out) (by kernel_rfl) (fun w => by (repeat (rename ∀ (_ : Act) (_ : World), _ => hK9; clear hK9)); go_simp; rfl) ?_
    (try simp only [aP, aN, aT, aZ, aS])
    refine k_any 16 (v := _) (by simp only [aG, aH, aI]; rfl) (by kernel_rfl) (by kernel_rfl) (by kernel_rfl) (by kernel_rfl) (by exact fun _ _ _ h => h) (.inr HC.out) (by kernel_rfl) (fun w => by (repeat (rename ∀ (_ : Act) (_ : World), _ => hK9; clear hK9)); go_simp; rfl) ?_
    (try simp only [aP, aN, aT, aZ, aS])
    refine k_done (by kernel_rfl) ?_ _
    go_wp2
    go_ret
    exact ⟨by rfl, HS.out⟩
  · have hl := ho _ rfl
    simp only at hl
    have hwr : IntKind.i64.wrap ((xs.length : Int) - (safe : Int)) = (xs.length : Int) - (safe : Int) := by simp [IntKind.wrap, IntKind.bits, IntKind.signed]; omega
    clear ho
    go_enter Tryd.func16, Tryd.ntmps16
    go_upto_region 1 with (fail)
    have HC := Aside0.mk (HS.out.pick [0, 1] rfl (by decide))
    refine kheld_start [] mixed HC.out (fun HC1 => ?_)
    have HS1 := HS.out.drew
    clear HS HC
    have HS := Aside0.mk HS1
    have HC := Aside0.mk HC1
    clear HS1 HC1
    refine k_any 0 (v := _) (by simp only [aG, aH, aI]; rfl) (by kernel_rfl) (by kernel_rfl) (by kernel_rfl) (by kernel_rfl) (by exact fun _ _ _ h => h) (.inr HC.out) (by kernel_rfl) (fun w => by (repeat (rename ∀ (_ : Act) (_ : World), _ => hK9; clear hK9)); go_simp; rfl) ?_
    (try simp only [aP, aN, aT, aZ, aS])
    refine k_any 1 (v := _) (by simp only [aG, aH, aI]; rfl) (by kernel_rfl) (by kernel_rfl) (by kernel_rfl) (by kernel_rfl) (by exact fun _ _ _ h => h) (.inr HC.out) (by kernel_rfl) (fun w => by (repeat (rename ∀ (_ : Act) (_ : World), _ => hK9; clear hK9)); go_simp; rfl) ?_
    (try simp only [aP, aN, aT, aZ, aS])
    refine k_any 2 (v := _) (by simp only [aG, aH, aI]; rfl) (by kernel_rfl) (by kernel_rfl) (by kernel_rfl) (by kernel_rfl) (by exact fun _ _ _ h => h) (.inr HC.out) (by kernel_rfl) (fun w => by (repeat (rename ∀ (_ : Act) (_ : World), _ => hK9; clear hK9)); go_simp; rfl) ?_
    (try simp only [aP, aN, aT, aZ, aS])
    refine k_load 3 (by simp only [aG, aH, aI]; rfl) (by kernel_rfl) (by kernel_rfl) (by kernel_rfl) (by kernel_rfl) (by exact fun _ _ _ h => h) HC.out (by kernel_rfl) rfl rfl 0 rfl ((agT _ (by decide)).trans rfl) rfl ?_
    (try simp only [aP, aN, aT, aZ, aS])
    refine k_any 4 (v := _) (by simp only [aG, aH, aI]; rfl) (by kernel_rfl) (by kernel_rfl) (by kernel_rfl) (by kernel_rfl) (by exact fun _ _ _ h => h) (.inr HC.out) (by kernel_rfl) (fun w => by (repeat (rename ∀ (_ : Act) (_ : World), _ => hK9; clear hK9)); go_simp; rfl) ?_
    (try simp only [aP, aN, aT, aZ, aS])
    refine k_val 5 (v := .agg #[.slice A xs.length c, .int .i64 safe]) (by simp only [aG, aH, aI]; rfl) (by kernel_rfl) (by kernel_rfl) (by kernel_rfl) (by kernel_rfl) (by exact fun _ _ _ h => h) HC.out (by kernel_rfl) (fun w hs => run_lk1 hs rfl rfl 1 rfl name rfl trivial Tryd.underlying50 ownStr (z := fi0) fileZero (by rw [HG.out]; rfl)) ?_
    (try simp only [aP, aN, aT, aZ, aS])
    refine k_any 6 (v := _) (by simp only [aG, aH, aI]; rfl) (by kernel_rfl) (by kernel_rfl) (by kernel_rfl) (by kernel_rfl) (by exact fun _ _ _ h => h) (.inr HC.out) (by kernel_rfl) (fun w => by (repeat (rename ∀ (_ : Act) (_ : World), _ => hK9; clear hK9)); go_simp; rfl) ?_
    (try simp only [aP, aN, aT, aZ, aS])
    refine k_any 7 (v := _) (by simp only [aG, aH, aI]; rfl) (by kernel_rfl) (by kernel_rfl) (by kernel_rfl) (by kernel_rfl) (by exact fun _ _ _ h => h) (.inr HC.out) (by kernel_rfl) (fun w => by (repeat (rename ∀ (_ : Act) (_ : World), _ => hK9; clear hK9)); go_simp; rfl) ?_
    (try simp only [aP, aN, aT, aZ, aS])
    refine k_any 8 (v := _) (by simp only [aG, aH, aI]; rfl) (by kernel_rfl) (by kernel_rfl) (by kernel_rfl) (by kernel_rfl) (by exact fun _ _ _ h => h) (.inr HC.out) (by kernel_rfl) (fun w => by (repeat (rename ∀ (_ : Act) (_ : World), _ => hK9; clear hK9)); go_simp; rfl) ?_
    (try simp only [aP, aN, aT, aZ, aS])
    refine k_any 9 (v := _) (by simp only [aG, aH, aI]; rfl) (by kernel_rfl) (by kernel_rfl) (by kernel_rfl) (by kernel_rfl) (by exact fun _ _ _ h => h) (.inr HC.out) (by kernel_rfl) (fun w => by (repeat (rename ∀ (_ : Act) (_ : World), _ => hK9; clear hK9)); go_simp; rfl) ?_
    (try simp only [aP, aN, aT, aZ, aS])
    refine k_any 10 (v := _) (by simp only [aG, aH, aI]; rfl) (by kernel_rfl) (by kernel_rfl) (by kernel_rfl) (by kernel_rfl) (by exact fun _ _ _ h => h) (.inr HC.out) (by kernel_rfl) (fun w => by (repeat (rename ∀ (_ : Act) (_ : World), _ => hK9; clear hK9)); go_simp; rfl) ?_
    (try simp only [aP, aN, aT, aZ, aS])
    refine k_load 11 (by simp only [aG, aH, aI]; rfl) (by kernel_rfl) (by kernel_rfl) (by kernel_rfl) (by kernel_rfl) (by exact fun _ _ _ h => h) HC.out (by kernel_rfl) rfl rfl 0 rfl ((agT _ (by decide)).trans rfl) rfl ?_
    (try simp only [aP, aN, aT, aZ, aS])
    refine k_any 12 (v := _) (by simp only [aG, aH, aI]; rfl) (by kernel_rfl) (by kernel_rfl) (by kernel_rfl) (by kernel_rfl) (by exact fun _ _ _ h => h) (.inr HC.out) (by kernel_rfl) (fun w => by (repeat (rename ∀ (_ : Act) (_ : World), _ => hK9; clear hK9)); go_simp; rfl) ?_
    (try simp only [aP, aN, aT, aZ, aS])
    refine k_val 13 (v := .agg #[.slice A xs.length c, .int .i64 safe]) (by simp only [aG, aH, aI]; rfl) (by kernel_rfl) (by kernel_rfl) (by kernel_rfl) (by kernel_rfl) (by exact fun _ _ _ h => h) HC.out (by kernel_rfl) (fun w hs => run_lk1 hs rfl rfl 1 rfl name rfl trivial Tryd.underlying50 ownStr (z := fi0) fileZero (by rw [HG.out]; rfl)) ?_
    (try simp only [aP, aN, aT, aZ, aS])
    refine k_any 14 (v := _) (by simp only [aG, aH, aI]; rfl) (by kernel_rfl) (by kernel_rfl) (by kernel_rfl) (by kernel_rfl) (by exact fun _ _ _ h => h) (.inr HC.out) (by kernel_rfl) (fun w => by (repeat (rename ∀ (_ : Act) (_ : World), _ => hK9; clear hK9)); go_simp; rfl) ?_
    (try simp only [aP, aN, aT, aZ, aS])
    refine k_any 15 (v := _) (by simp only [aG, aH, aI]; rfl) (by kernel_rfl) (by kernel_rfl) (by kernel_rfl) (by kernel_rfl) (by exact fun _ _ _ h => h) (.inr HC.out) (by kernel_rfl) (fun w => by (repeat (rename ∀ (_ : Act) (_ : World), _ => hK9; clear hK9)); go_simp; rfl) ?_
    (try simp only [aP, aN, aT, aZ, aS])
    refine k_any 16 (v := _) (by simp only [aG, aH, aI]; rfl) (by kernel_rfl) (by kernel_rfl) (by kernel_rfl) (by kernel_rfl) (by exact fun _ _ _ h => h) (.inr HC.out) (by kernel_rfl) (fun w => by (repeat (rename ∀ (_ : Act) (_ : World), _ => hK9; clear hK9)); go_simp; rfl) ?_
    (try simp only [aP, aN, aT, aZ, aS])
    refine k_done (by kernel_rfl) ?_ _
    go_wp2
    go_ret
    exact ⟨by rfl, HS.out⟩
set_option maxHeartbeats 3200000 in
set_option maxRecDepth 100000 in
theorem read_any {w0 w : World} {F : HP} (gD gM : Nat) (left : Int) (armed off : Bool) (m : FM) (L : List (Option Addr × List Int)) (S : Nat → Prop) (name : ByteArray) (o : Option Fi) (hg : mget m name = o) (ho : ∀ f, o = some f → (f.A, f.xs) ∈ L ∧ f.xs.length ≤ 140737488351232) (HS0 : SH w0 w [blk gD [.map (some gM), .int .i64 left, .bool armed, .bool off] 52, mpF gM m, poolI L S, F]) : Calls Tryd.prog 15 #[.pointer (some ⟨gD, 0, none⟩), .string name] w (fun e w' => ∃ v S', e = .returned (.tuple #[v, .int .i64 (findE off o)]) ∧ SH w0 w' [blk gD [.map (some gM), .int .i64 left, .bool armed, .bool off] 52, mpF gM m, poolI L S, F, row u8K 5 v (findF off o).xs S']) := by
  have HS := Aside0.mk HS0
  clear HS0
  have HG := Aside0.mk hg
  clear hg
  rcases off with _ | _ <;> rcases o with _ | ⟨A, c, xs, safe⟩

  · clear ho
    go_enter Tryd.func15, Tryd.ntmps15
    go_wp2_with (first | (go_at_call 34; (with_reducible refine (find_any gD gM (.int .i64 left) (.bool armed) false m name (none) HG.out (SH.pack (is := [_, _]) [_, _] HS.out)).mono ?_); rintro e w2 ⟨rfl, HS9⟩; clear HS; have HS := Aside0.mk (SH.unpack (is := [_, _]) [_, _] HS9); clear HS9; simp only [aC, aE] at HS; simp only [findF, findE, if_true, Bool.false_eq_true, if_false, Option.getD_none, Option.getD_some, Option.isSome_none, Option.isSome_some, Fi.enc, fi0]; try simp only [aP, aN, aT, aZ, aS]) | (go_at_call 35; (with_reducible refine (clone_any none 0 [] _ (Rd.nil _ _ _ _) (Nat.zero_le _)).mono ?_); rintro e w2 ⟨v1, S1, rfl, HS1⟩;  have HS2 := HS.out.call HS1; clear HS HS1; simp only [aC, aE] at HS2; have HS := Aside0.mk HS2; clear HS2) | ((first | ((first | ((with_reducible refine gA rfl ?_); refine sh_alloc HS.out rfl rfl (zeT _ (by decide)) ?_) | ((with_reducible refine gB rfl ?_); refine bx HS.out rfl rfl ?_; first | refine bv (v := .agg (List.toArray _)) rfl ?_ | refine bv (v := .int _ _) rfl ?_ | refine bv (v := .slice _ _ _) rfl ?_ | refine bv (v := .bool _) rfl ?_ | refine bv (v := .pointer _) rfl ?_) | ((with_reducible refine gL rfl ?_); refine sh_lit HS.out rfl rfl (by go_simp; exact ⟨⟨rfl, rfl⟩, rfl⟩) ?_)); clear HS; intro g w1 hg HS1; (simp only [zeF, segOf, aL, aC, aE] at HS1); have HS := Aside0.mk HS1; clear HS1) | ((with_reducible refine gLd rfl ?_); refine ld2 HS.out rfl rfl rfl (by repeat (first | exact AtI.here | apply AtI.there)) ?_; (first | refine LdK.one ((agT _ (by decide)).trans rfl) rfl ?_ | (refine LdK.agg ((agT _ (by decide)).trans rfl) (szT _ (by decide)) (lb rfl) ?_; try simp only [szL, aP, aN, aT, aZ, aS, aD, aF, aJ, aK, aM, aO]))) | ((with_reducible refine gSt rfl ?_); refine st2 HS.out rfl rfl rfl rfl (by repeat (first | exact AtI.here | apply AtI.there)) ?_; (first | refine sv (u := .agg (List.toArray _)) rfl ?_ | refine sv (u := .int _ _) rfl ?_ | refine sv (u := .slice _ _ _) rfl ?_ | refine sv (u := .bool _) rfl ?_ | refine sv (u := .pointer _) rfl ?_); refine sw (szT _ (by decide)) rfl (lb rfl) ?_; clear HS; intro w1 HS1; (simp only [segOf, aL, aZ, aS, putSeg] at HS1); have HS := Aside0.mk HS1; clear HS1)); try simp only [aP, aN, aT, aZ, aS]))
    go_ret2
    exact ⟨_, _, rfl, HS.out.pick [0, 1, 2, 3, 5] rfl (by decide)⟩
  · obtain ⟨hpl, hlim⟩ := ho _ rfl
    have HPL := Aside0.mk hpl
    clear hpl ho
    simp only at hlim
    go_enter Tryd.func15, Tryd.ntmps15
    go_wp2_with (first | (go_at_call 34; (with_reducible refine (find_any gD gM (.int .i64 left) (.bool armed) false m name (some ⟨A, c, xs, safe⟩) HG.out (SH.pack (is := [_, _]) [_, _] HS.out)).mono ?_); rintro e w2 ⟨rfl, HS9⟩; clear HS; have HS := Aside0.mk (SH.unpack (is := [_, _]) [_, _] HS9); clear HS9; simp only [aC, aE] at HS; simp only [findF, findE, if_true, Bool.false_eq_true, if_false, Option.getD_none, Option.getD_some, Option.isSome_none, Option.isSome_some, Fi.enc, fi0]; try simp only [aP, aN, aT, aZ, aS]) | (go_at_call 35; (with_reducible refine (clone_any A c xs _ (pool_rd HS.out 2 rfl HPL.out) hlim).mono ?_); rintro e w2 ⟨v1, S1, rfl, HS1⟩;  have HS2 := HS.out.call HS1; clear HS HS1; simp only [aC, aE] at HS2; have HS := Aside0.mk HS2; clear HS2) | ((first | ((first | ((with_reducible refine gA rfl ?_); refine sh_alloc HS.out rfl rfl (zeT _ (by decide)) ?_) | ((with_reducible refine gB rfl ?_); refine bx HS.out rfl rfl ?_; first | refine bv (v := .agg (List.toArray _)) rfl ?_ | refine bv (v := .int _ _) rfl ?_ | refine bv (v := .slice _ _ _) rfl ?_ | refine bv (v := .bool _) rfl ?_ | refine bv (v := .pointer _) rfl ?_) | ((with_reducible refine gL rfl ?_); refine sh_lit HS.out rfl rfl (by go_simp; exact ⟨⟨rfl, rfl⟩, rfl⟩) ?_)); clear HS; intro g w1 hg HS1; (simp only [zeF, segOf, aL, aC, aE] at HS1); have HS := Aside0.mk HS1; clear HS1) | ((with_reducible refine gLd rfl ?_); refine ld2 HS.out rfl rfl rfl (by repeat (first | exact AtI.here | apply AtI.there)) ?_; (first | refine LdK.one ((agT _ (by decide)).trans rfl) rfl ?_ | (refine LdK.agg ((agT _ (by decide)).trans rfl) (szT _ (by decide)) (lb rfl) ?_; try simp only [szL, aP, aN, aT, aZ, aS, aD, aF, aJ, aK, aM, aO]))) | ((with_reducible refine gSt rfl ?_); refine st2 HS.out rfl rfl rfl rfl (by repeat (first | exact AtI.here | apply AtI.there)) ?_; (first | refine sv (u := .agg (List.toArray _)) rfl ?_ | refine sv (u := .int _ _) rfl ?_ | refine sv (u := .slice _ _ _) rfl ?_ | refine sv (u := .bool _) rfl ?_ | refine sv (u := .pointer _) rfl ?_); refine sw (szT _ (by decide)) rfl (lb rfl) ?_; clear HS; intro w1 HS1; (simp only [segOf, aL, aZ, aS, putSeg] at HS1); have HS := Aside0.mk HS1; clear HS1)); try simp only [aP, aN, aT, aZ, aS]))
    go_ret2
    exact ⟨_, _, rfl, HS.out.pick [0, 1, 2, 3, 5] rfl (by decide)⟩
  · clear ho
    go_enter Tryd.func15, Tryd.ntmps15
    go_wp2_with (first | (go_at_call 34; (with_reducible refine (find_any gD gM (.int .i64 left) (.bool armed) true m name (none) HG.out (SH.pack (is := [_, _]) [_, _] HS.out)).mono ?_); rintro e w2 ⟨rfl, HS9⟩; clear HS; have HS := Aside0.mk (SH.unpack (is := [_, _]) [_, _] HS9); clear HS9; simp only [aC, aE] at HS; simp only [findF, findE, if_true, Bool.false_eq_true, if_false, Option.getD_none, Option.getD_some, Option.isSome_none, Option.isSome_some, Fi.enc, fi0]; try simp only [aP, aN, aT, aZ, aS]) | (go_at_call 35; (with_reducible refine (clone_any none 0 [] _ (Rd.nil _ _ _ _) (Nat.zero_le _)).mono ?_); rintro e w2 ⟨v1, S1, rfl, HS1⟩;  have HS2 := HS.out.call HS1; clear HS HS1; simp only [aC, aE] at HS2; have HS := Aside0.mk HS2; clear HS2) | ((first | ((first | ((with_reducible refine gA rfl ?_); refine sh_alloc HS.out rfl rfl (zeT _ (by decide)) ?_) | ((with_reducible refine gB rfl ?_); refine bx HS.out rfl rfl ?_; first | refine bv (v := .agg (List.toArray _)) rfl ?_ | refine bv (v := .int _ _) rfl ?_ | refine bv (v := .slice _ _ _) rfl ?_ | refine bv (v := .bool _) rfl ?_ | refine bv (v := .pointer _) rfl ?_) | ((with_reducible refine gL rfl ?_); refine sh_lit HS.out rfl rfl (by go_simp; exact ⟨⟨rfl, rfl⟩, rfl⟩) ?_)); clear HS; intro g w1 hg HS1; (simp only [zeF, segOf, aL, aC, aE] at HS1); have HS := Aside0.mk HS1; clear HS1) | ((with_reducible refine gLd rfl ?_); refine ld2 HS.out rfl rfl rfl (by repeat (first | exact AtI.here | apply AtI.there)) ?_; (first | refine LdK.one ((agT _ (by decide)).trans rfl) rfl ?_ | (refine LdK.agg ((agT _ (by decide)).trans rfl) (szT _ (by decide)) (lb rfl) ?_; try simp only [szL, aP, aN, aT, aZ, aS, aD, aF, aJ, aK, aM, aO]))) | ((with_reducible refine gSt rfl ?_); refine st2 HS.out rfl rfl rfl rfl (by repeat (first | exact AtI.here | apply AtI.there)) ?_; (first | refine sv (u := .agg (List.toArray _)) rfl ?_ | refine sv (u := .int _ _) rfl ?_ | refine sv (u := .slice _ _ _) rfl ?_ | refine sv (u := .bool _) rfl ?_ | refine sv (u := .pointer _) rfl ?_); refine sw (szT _ (by decide)) rfl (lb rfl) ?_; clear HS; intro w1 HS1; (simp only [segOf, aL, aZ, aS, putSeg] at HS1); have HS := Aside0.mk HS1; clear HS1)); try simp only [aP, aN, aT, aZ, aS]))
    go_ret2
    exact ⟨_, _, rfl, HS.out.pick [0, 1, 2, 3, 5] rfl (by decide)⟩
  · clear ho
    go_enter Tryd.func15, Tryd.ntmps15
    go_wp2_with (first | (go_at_call 34; (with_reducible refine (find_any gD gM (.int .i64 left) (.bool armed) true m name (some ⟨A, c, xs, safe⟩) HG.out (SH.pack (is := [_, _]) [_, _] HS.out)).mono ?_); rintro e w2 ⟨rfl, HS9⟩; clear HS; have HS := Aside0.mk (SH.unpack (is := [_, _]) [_, _] HS9); clear HS9; simp only [aC, aE] at HS; simp only [findF, findE, if_true, Bool.false_eq_true, if_false, Option.getD_none, Option.getD_some, Option.isSome_none, Option.isSome_some, Fi.enc, fi0]; try simp only [aP, aN, aT, aZ, aS]) | (go_at_call 35; (with_reducible refine (clone_any none 0 [] _ (Rd.nil _ _ _ _) (Nat.zero_le _)).mono ?_); rintro e w2 ⟨v1, S1, rfl, HS1⟩;  have HS2 := HS.out.call HS1; clear HS HS1; simp only [aC, aE] at HS2; have HS := Aside0.mk HS2; clear HS2) | ((first | ((first | ((with_reducible refine gA rfl ?_); refine sh_alloc HS.out rfl rfl (zeT _ (by decide)) ?_) | ((with_reducible refine gB rfl ?_); refine bx HS.out rfl rfl ?_; first | refine bv (v := .agg (List.toArray _)) rfl ?_ | refine bv (v := .int _ _) rfl ?_ | refine bv (v := .slice _ _ _) rfl ?_ | refine bv (v := .bool _) rfl ?_ | refine bv (v := .pointer _) rfl ?_) | ((with_reducible refine gL rfl ?_); refine sh_lit HS.out rfl rfl (by go_simp; exact ⟨⟨rfl, rfl⟩, rfl⟩) ?_)); clear HS; intro g w1 hg HS1; (simp only [zeF, segOf, aL, aC, aE] at HS1); have HS := Aside0.mk HS1; clear HS1) | ((with_reducible refine gLd rfl ?_); refine ld2 HS.out rfl rfl rfl (by repeat (first | exact AtI.here | apply AtI.there)) ?_; (first | refine LdK.one ((agT _ (by decide)).trans rfl) rfl ?_ | (refine LdK.agg ((agT _ (by decide)).trans rfl) (szT _ (by decide)) (lb rfl) ?_; try simp only [szL, aP, aN, aT, aZ, aS, aD, aF, aJ, aK, aM, aO]))) | ((with_reducible refine gSt rfl ?_); refine st2 HS.out rfl rfl rfl rfl (by repeat (first | exact AtI.here | apply AtI.there)) ?_; (first | refine sv (u := .agg (List.toArray _)) rfl ?_ | refine sv (u := .int _ _) rfl ?_ | refine sv (u := .slice _ _ _) rfl ?_ | refine sv (u := .bool _) rfl ?_ | refine sv (u := .pointer _) rfl ?_); refine sw (szT _ (by decide)) rfl (lb rfl) ?_; clear HS; intro w1 HS1; (simp only [segOf, aL, aZ, aS, putSeg] at HS1); have HS := Aside0.mk HS1; clear HS1)); try simp only [aP, aN, aT, aZ, aS]))
    go_ret2
    exact ⟨_, _, rfl, HS.out.pick [0, 1, 2, 3, 5] rfl (by decide)⟩
def syncM (off : Bool) (m : FM) (name : ByteArray) (o : Option Fi) : FM := if off then m else match o with
  | some f => mput m name { f with safe := f.xs.length }
  | none => m
set_option maxHeartbeats 3200000 in
set_option maxRecDepth 100000 in
theorem sync_any {w0 w : World} {F : HP} (gD gM : Nat) (left : Int) (armed off : Bool) (m : FM) (L : List (Option Addr × List Int)) (S : Nat → Prop) (name : ByteArray) (o : Option Fi) (hg : mget m name = o) (HS0 : SH w0 w [blk gD [.map (some gM), .int .i64 left, .bool armed, .bool off] 52, mpF gM m, poolI L S, F]) : Calls Tryd.prog 19 #[.pointer (some ⟨gD, 0, none⟩), .string name] w (fun e w' => e = .returned (.int .i64 (findE off o)) ∧ SH w0 w' [blk gD [.map (some gM), .int .i64 left, .bool armed, .bool off] 52, mpF gM (syncM off m name o), poolI L S, F]) := by
  have HS := Aside0.mk HS0
  clear HS0
  have HG := Aside0.mk hg
  clear hg
  rcases off with _ | _ <;> rcases o with _ | ⟨A, c, xs, safe⟩
  · go_enter Tryd.func19, Tryd.ntmps19
    go_wp2_with (first | (go_at_call 34; (with_reducible refine (find_any gD gM (.int .i64 left) (.bool armed) false m name (none) HG.out (SH.pack (is := [_, _]) [_, _] HS.out)).mono ?_); rintro e w2 ⟨rfl, HS9⟩; clear HS; have HS := Aside0.mk (SH.unpack (is := [_, _]) [_, _] HS9); clear HS9; simp only [aC, aE] at HS; simp only [findF, findE, if_true, Bool.false_eq_true, if_false, Option.getD_none, Option.getD_some, Option.isSome_none, Option.isSome_some, Fi.enc, fi0]; try simp only [aP, aN, aT, aZ, aS]) | ((first | ((first | ((with_reducible refine gA rfl ?_); refine sh_alloc HS.out rfl rfl (zeT _ (by decide)) ?_) | ((with_reducible refine gB rfl ?_); refine bx HS.out rfl rfl ?_; first | refine bv (v := .agg (List.toArray _)) rfl ?_ | refine bv (v := .int _ _) rfl ?_ | refine bv (v := .slice _ _ _) rfl ?_ | refine bv (v := .bool _) rfl ?_ | refine bv (v := .pointer _) rfl ?_) | ((with_reducible refine gL rfl ?_); refine sh_lit HS.out rfl rfl (by go_simp; exact ⟨⟨rfl, rfl⟩, rfl⟩) ?_)); clear HS; intro g w1 hg HS1; (simp only [zeF, segOf, aL, aC, aE] at HS1); have HS := Aside0.mk HS1; clear HS1) | ((with_reducible refine gLd rfl ?_); refine ld2 HS.out rfl rfl rfl (by repeat (first | exact AtI.here | apply AtI.there)) ?_; (first | refine LdK.one ((agT _ (by decide)).trans rfl) rfl ?_ | (refine LdK.agg ((agT _ (by decide)).trans rfl) (szT _ (by decide)) (lb rfl) ?_; try simp only [szL, aP, aN, aT, aZ, aS, aD, aF, aJ, aK, aM, aO]))) | ((with_reducible refine gSt rfl ?_); refine st2 HS.out rfl rfl rfl rfl (by repeat (first | exact AtI.here | apply AtI.there)) ?_; (first | refine sv (u := .agg (List.toArray _)) rfl ?_ | refine sv (u := .int _ _) rfl ?_ | refine sv (u := .slice _ _ _) rfl ?_ | refine sv (u := .bool _) rfl ?_ | refine sv (u := .pointer _) rfl ?_); refine sw (szT _ (by decide)) rfl (lb rfl) ?_; clear HS; intro w1 HS1; (simp only [segOf, aL, aZ, aS, putSeg] at HS1); have HS := Aside0.mk HS1; clear HS1)); try simp only [aP, aN, aT, aZ, aS]))
    go_ret
    exact ⟨rfl, HS.out.pick [0, 1, 2, 3] rfl (by decide)⟩
  · go_enter Tryd.func19, Tryd.ntmps19
    go_upto_region 4 with (first | (go_at_call 34; (with_reducible refine (find_any gD gM (.int .i64 left) (.bool armed) false m name (some ⟨A, c, xs, safe⟩) HG.out (SH.pack (is := [_, _]) [_, _] HS.out)).mono ?_); rintro e w2 ⟨rfl, HS9⟩; clear HS; have HS := Aside0.mk (SH.unpack (is := [_, _]) [_, _] HS9); clear HS9; simp only [aC, aE] at HS; simp only [findF, findE, if_true, Bool.false_eq_true, if_false, Option.getD_none, Option.getD_some, Option.isSome_none, Option.isSome_some, Fi.enc, fi0]; try simp only [aP, aN, aT, aZ, aS]) | ((first | ((first | ((with_reducible refine gA rfl ?_); refine sh_alloc HS.out rfl rfl (zeT _ (by decide)) ?_) | ((with_reducible refine gB rfl ?_); refine bx HS.out rfl rfl ?_; first | refine bv (v := .agg (List.toArray _)) rfl ?_ | refine bv (v := .int _ _) rfl ?_ | refine bv (v := .slice _ _ _) rfl ?_ | refine bv (v := .bool _) rfl ?_ | refine bv (v := .pointer _) rfl ?_) | ((with_reducible refine gL rfl ?_); refine sh_lit HS.out rfl rfl (by go_simp; exact ⟨⟨rfl, rfl⟩, rfl⟩) ?_)); clear HS; intro g w1 hg HS1; (simp only [zeF, segOf, aL, aC, aE] at HS1); have HS := Aside0.mk HS1; clear HS1) | ((with_reducible refine gLd rfl ?_); refine ld2 HS.out rfl rfl rfl (by repeat (first | exact AtI.here | apply AtI.there)) ?_; (first | refine LdK.one ((agT _ (by decide)).trans rfl) rfl ?_ | (refine LdK.agg ((agT _ (by decide)).trans rfl) (szT _ (by decide)) (lb rfl) ?_; try simp only [szL, aP, aN, aT, aZ, aS, aD, aF, aJ, aK, aM, aO]))) | ((with_reducible refine gSt rfl ?_); refine st2 HS.out rfl rfl rfl rfl (by repeat (first | exact AtI.here | apply AtI.there)) ?_; (first | refine sv (u := .agg (List.toArray _)) rfl ?_ | refine sv (u := .int _ _) rfl ?_ | refine sv (u := .slice _ _ _) rfl ?_ | refine sv (u := .bool _) rfl ?_ | refine sv (u := .pointer _) rfl ?_); refine sw (szT _ (by decide)) rfl (lb rfl) ?_; clear HS; intro w1 HS1; (simp only [segOf, aL, aZ, aS, putSeg] at HS1); have HS := Aside0.mk HS1; clear HS1)); try simp only [aP, aN, aT, aZ, aS]))
    have HC := Aside0.mk (HS.out.pick [0, 4] rfl (by decide))
    refine kheld_start [] mixed HC.out (fun HC1 => ?_)
    have HS1 := HS.out.drew
    clear HS HC
    have HS := Aside0.mk HS1
    have HC := Aside0.mk HC1
    clear HS1 HC1
    refine k_any 0 (v := _) (by simp only [aG, aH, aI]; rfl) (by kernel_rfl) (by kernel_rfl) (by kernel_rfl) (by kernel_rfl) (by exact fun _ _ _ h => h) (.inr HC.out) (by kernel_rfl) (fun w => by (repeat (rename ∀ (_ : Act) (_ : World), _ => hK9; clear hK9)); go_simp; rfl) ?_
    (try simp only [aP, aN, aT, aZ, aS])
    refine k_any 1 (v := _) (by simp only [aG, aH, aI]; rfl) (by kernel_rfl) (by kernel_rfl) (by kernel_rfl) (by kernel_rfl) (by exact fun _ _ _ h => h) (.inr HC.out) (by kernel_rfl) (fun w => by (repeat (rename ∀ (_ : Act) (_ : World), _ => hK9; clear hK9)); go_simp; rfl) ?_
    (try simp only [aP, aN, aT, aZ, aS])
    refine k_any 2 (v := _) (by simp only [aG, aH, aI]; rfl) (by kernel_rfl) (by kernel_rfl) (by kernel_rfl) (by kernel_rfl) (by exact fun _ _ _ h => h) (.inr HC.out) (by kernel_rfl) (fun w => by (repeat (rename ∀ (_ : Act) (_ : World), _ => hK9; clear hK9)); go_simp; rfl) ?_
    (try simp only [aP, aN, aT, aZ, aS])
    refine k_load 3 (by simp only [aG, aH, aI]; rfl) (by kernel_rfl) (by kernel_rfl) (by kernel_rfl) (by kernel_rfl) (by exact fun _ _ _ h => h) HC.out (by kernel_rfl) rfl rfl 0 rfl ((agT _ (by decide)).trans rfl) rfl ?_
    (try simp only [aP, aN, aT, aZ, aS])
    refine k_any 4 (v := _) (by simp only [aG, aH, aI]; rfl) (by kernel_rfl) (by kernel_rfl) (by kernel_rfl) (by kernel_rfl) (by exact fun _ _ _ h => h) (.inr HC.out) (by kernel_rfl) (fun w => by (repeat (rename ∀ (_ : Act) (_ : World), _ => hK9; clear hK9)); go_simp; rfl) ?_
    (try simp only [aP, aN, aT, aZ, aS])
    refine k_loads 5 (by simp only [aG, aH, aI]; rfl) (by kernel_rfl) (by kernel_rfl) (by kernel_rfl) (by kernel_rfl) (v := _) (by exact fun _ _ _ h => h) HC.out (by kernel_rfl) rfl rfl 1 rfl ((agT _ (by decide)).trans rfl) (szT _ (by decide)) (lb rfl) rfl ?_
    (try simp only [szL, aP, aN, aT, aZ, aS, aD, aF, aJ, aK, aM, aO])
    (try simp only [aP, aN, aT, aZ, aS])
    refine k_one 6 (by simp only [aG, aH, aI]; rfl) (by kernel_rfl) ?_
    ((with_reducible refine gMu rfl ?_); refine sh_update HS.out rfl rfl rfl rfl 1 rfl name rfl trivial (Fi.mk A c xs xs.length) rfl Tryd.underlying50 ownStr ?_; clear HS; intro w1 HS1; (simp only [aZ, aS] at HS1); have HS := Aside0.mk HS1; clear HS1; try simp only [aP, aN, aT, aZ, aS])
    have HC1 := HS.out.pick [0, 4] rfl (by decide)
    clear HC
    have HC := Aside0.mk HC1
    clear HC1
    refine k_nil (.inr HC.out) ?_
    (try simp only [aP, aN, aT, aZ, aS])
    refine k_done (by kernel_rfl) ?_ _
    go_wp2_with (first | ((first | ((first | ((with_reducible refine gA rfl ?_); refine sh_alloc HS.out rfl rfl (zeT _ (by decide)) ?_) | ((with_reducible refine gB rfl ?_); refine bx HS.out rfl rfl ?_; first | refine bv (v := .agg (List.toArray _)) rfl ?_ | refine bv (v := .int _ _) rfl ?_ | refine bv (v := .slice _ _ _) rfl ?_ | refine bv (v := .bool _) rfl ?_ | refine bv (v := .pointer _) rfl ?_) | ((with_reducible refine gL rfl ?_); refine sh_lit HS.out rfl rfl (by go_simp; exact ⟨⟨rfl, rfl⟩, rfl⟩) ?_)); clear HS; intro g w1 hg HS1; (simp only [zeF, segOf, aL, aC, aE] at HS1); have HS := Aside0.mk HS1; clear HS1) | ((with_reducible refine gLd rfl ?_); refine ld2 HS.out rfl rfl rfl (by repeat (first | exact AtI.here | apply AtI.there)) ?_; (first | refine LdK.one ((agT _ (by decide)).trans rfl) rfl ?_ | (refine LdK.agg ((agT _ (by decide)).trans rfl) (szT _ (by decide)) (lb rfl) ?_; try simp only [szL, aP, aN, aT, aZ, aS, aD, aF, aJ, aK, aM, aO]))) | ((with_reducible refine gSt rfl ?_); refine st2 HS.out rfl rfl rfl rfl (by repeat (first | exact AtI.here | apply AtI.there)) ?_; (first | refine sv (u := .agg (List.toArray _)) rfl ?_ | refine sv (u := .int _ _) rfl ?_ | refine sv (u := .slice _ _ _) rfl ?_ | refine sv (u := .bool _) rfl ?_ | refine sv (u := .pointer _) rfl ?_); refine sw (szT _ (by decide)) rfl (lb rfl) ?_; clear HS; intro w1 HS1; (simp only [segOf, aL, aZ, aS, putSeg] at HS1); have HS := Aside0.mk HS1; clear HS1)); try simp only [aP, aN, aT, aZ, aS]))
    go_ret
    exact ⟨rfl, HS.out.pick [0, 1, 2, 3] rfl (by decide)⟩
  · go_enter Tryd.func19, Tryd.ntmps19
    go_wp2_with (first | (go_at_call 34; (with_reducible refine (find_any gD gM (.int .i64 left) (.bool armed) true m name (none) HG.out (SH.pack (is := [_, _]) [_, _] HS.out)).mono ?_); rintro e w2 ⟨rfl, HS9⟩; clear HS; have HS := Aside0.mk (SH.unpack (is := [_, _]) [_, _] HS9); clear HS9; simp only [aC, aE] at HS; simp only [findF, findE, if_true, Bool.false_eq_true, if_false, Option.getD_none, Option.getD_some, Option.isSome_none, Option.isSome_some, Fi.enc, fi0]; try simp only [aP, aN, aT, aZ, aS]) | ((first | ((first | ((with_reducible refine gA rfl ?_); refine sh_alloc HS.out rfl rfl (zeT _ (by decide)) ?_) | ((with_reducible refine gB rfl ?_); refine bx HS.out rfl rfl ?_; first | refine bv (v := .agg (List.toArray _)) rfl ?_ | refine bv (v := .int _ _) rfl ?_ | refine bv (v := .slice _ _ _) rfl ?_ | refine bv (v := .bool _) rfl ?_ | refine bv (v := .pointer _) rfl ?_) | ((with_reducible refine gL rfl ?_); refine sh_lit HS.out rfl rfl (by go_simp; exact ⟨⟨rfl, rfl⟩, rfl⟩) ?_)); clear HS; intro g w1 hg HS1; (simp only [zeF, segOf, aL, aC, aE] at HS1); have HS := Aside0.mk HS1; clear HS1) | ((with_reducible refine gLd rfl ?_); refine ld2 HS.out rfl rfl rfl (by repeat (first | exact AtI.here | apply AtI.there)) ?_; (first | refine LdK.one ((agT _ (by decide)).trans rfl) rfl ?_ | (refine LdK.agg ((agT _ (by decide)).trans rfl) (szT _ (by decide)) (lb rfl) ?_; try simp only [szL, aP, aN, aT, aZ, aS, aD, aF, aJ, aK, aM, aO]))) | ((with_reducible refine gSt rfl ?_); refine st2 HS.out rfl rfl rfl rfl (by repeat (first | exact AtI.here | apply AtI.there)) ?_; (first | refine sv (u := .agg (List.toArray _)) rfl ?_ | refine sv (u := .int _ _) rfl ?_ | refine sv (u := .slice _ _ _) rfl ?_ | refine sv (u := .bool _) rfl ?_ | refine sv (u := .pointer _) rfl ?_); refine sw (szT _ (by decide)) rfl (lb rfl) ?_; clear HS; intro w1 HS1; (simp only [segOf, aL, aZ, aS, putSeg] at HS1); have HS := Aside0.mk HS1; clear HS1)); try simp only [aP, aN, aT, aZ, aS]))
    go_ret
    exact ⟨rfl, HS.out.pick [0, 1, 2, 3] rfl (by decide)⟩
  · go_enter Tryd.func19, Tryd.ntmps19
    go_wp2_with (first | (go_at_call 34; (with_reducible refine (find_any gD gM (.int .i64 left) (.bool armed) true m name (some ⟨A, c, xs, safe⟩) HG.out (SH.pack (is := [_, _]) [_, _] HS.out)).mono ?_); rintro e w2 ⟨rfl, HS9⟩; clear HS; have HS := Aside0.mk (SH.unpack (is := [_, _]) [_, _] HS9); clear HS9; simp only [aC, aE] at HS; simp only [findF, findE, if_true, Bool.false_eq_true, if_false, Option.getD_none, Option.getD_some, Option.isSome_none, Option.isSome_some, Fi.enc, fi0]; try simp only [aP, aN, aT, aZ, aS]) | ((first | ((first | ((with_reducible refine gA rfl ?_); refine sh_alloc HS.out rfl rfl (zeT _ (by decide)) ?_) | ((with_reducible refine gB rfl ?_); refine bx HS.out rfl rfl ?_; first | refine bv (v := .agg (List.toArray _)) rfl ?_ | refine bv (v := .int _ _) rfl ?_ | refine bv (v := .slice _ _ _) rfl ?_ | refine bv (v := .bool _) rfl ?_ | refine bv (v := .pointer _) rfl ?_) | ((with_reducible refine gL rfl ?_); refine sh_lit HS.out rfl rfl (by go_simp; exact ⟨⟨rfl, rfl⟩, rfl⟩) ?_)); clear HS; intro g w1 hg HS1; (simp only [zeF, segOf, aL, aC, aE] at HS1); have HS := Aside0.mk HS1; clear HS1) | ((with_reducible refine gLd rfl ?_); refine ld2 HS.out rfl rfl rfl (by repeat (first | exact AtI.here | apply AtI.there)) ?_; (first | refine LdK.one ((agT _ (by decide)).trans rfl) rfl ?_ | (refine LdK.agg ((agT _ (by decide)).trans rfl) (szT _ (by decide)) (lb rfl) ?_; try simp only [szL, aP, aN, aT, aZ, aS, aD, aF, aJ, aK, aM, aO]))) | ((with_reducible refine gSt rfl ?_); refine st2 HS.out rfl rfl rfl rfl (by repeat (first | exact AtI.here | apply AtI.there)) ?_; (first | refine sv (u := .agg (List.toArray _)) rfl ?_ | refine sv (u := .int _ _) rfl ?_ | refine sv (u := .slice _ _ _) rfl ?_ | refine sv (u := .bool _) rfl ?_ | refine sv (u := .pointer _) rfl ?_); refine sw (szT _ (by decide)) rfl (lb rfl) ?_; clear HS; intro w1 HS1; (simp only [segOf, aL, aZ, aS, putSeg] at HS1); have HS := Aside0.mk HS1; clear HS1)); try simp only [aP, aN, aT, aZ, aS]))
    go_ret
    exact ⟨rfl, HS.out.pick [0, 1, 2, 3] rfl (by decide)⟩
end Go.Proofs.YtgcgnhcjjlnloaaDoor.Dk
