/- Lemmas towards the law: what of the text Jue1 it needs. -/
import Derived.Test.YtkggchahhpmpbaaJue0q
namespace Go.Proofs.Ytkggchahhpmpbaa.Jue
open Go.RowKit Go.Proofs.YtkggchahhpmpbaaW.PrintWords Go.Proofs.Ytkggchahhpmpbaa.Sl
set_option linter.unusedVariables false
set_option linter.unusedSimpArgs false
theorem run_part_int {P : Program} {e : TypeId} {k : IntKind} (hu : P.underlying e = some (.int k)) (cs : Array Value) (i : Nat) (v : Value) (h : cs[i]? = some v) (w : World) : (part e cs i).run P w = .ok v w := by
  simp [part, isAgg, underlying, hu, h, go_sem]
theorem run_eqInt {P : Program} {d : Nat} {e : TypeId} {k : IntKind} (hu : P.underlying e = some (.int k)) (x y : Int) (w : World) : (Op.equalIn (d + 1) e (.int k x) (.int k y)).run P w = .ok (x == y) w := by
  rw [Op.equalIn]
  simp only [Sem.run_bind, run_underlying hu, Result.andThen_ok]
  simp
theorem fieldsOf_of {P : Program} {t : TypeId} {fs : Array Field} (h : P.underlying t = some (.struct fs)) : P.fieldsOf t = fs := by simp [Program.fieldsOf, h]
theorem pairKeyOK : KeyOK Try.prog 56 pairKey (fun _ => True) where
  eq := fun x y w _ _ => by
    show (Op.equalIn (9999 + 1) _ (.agg #[.int .i64 x.1, .int .i64 x.2]) (.agg #[.int .i64 y.1, .int .i64 y.2])).run _ _ = _
    have hf := fieldsOf_of Try.underlying56
    rw [run_equalIn_struct (P := Try.prog) w 9999 56 _ _ (by rw [hf]; exact Try.underlying56) (by kernel_rfl), hf]
    have a1 := run_part_int (P := Try.prog) Try.underlying3 #[.int .i64 x.1, .int .i64 x.2] 0 (.int .i64 x.1) rfl w
    have a2 := run_part_int (P := Try.prog) Try.underlying3 #[.int .i64 y.1, .int .i64 y.2] 0 (.int .i64 y.1) rfl w
    have a3 := run_part_int (P := Try.prog) Try.underlying3 #[.int .i64 x.1, .int .i64 x.2] 1 (.int .i64 x.2) rfl w
    have a4 := run_part_int (P := Try.prog) Try.underlying3 #[.int .i64 y.1, .int .i64 y.2] 1 (.int .i64 y.2) rfl w
    have b1 : (Op.equalIn 9999 3 (.int .i64 x.1) (.int .i64 y.1)).run Try.prog w = _ := run_eqInt (P := Try.prog) (d := 9998) Try.underlying3 x.1 y.1 w
    have b2 : (Op.equalIn 9999 3 (.int .i64 x.2) (.int .i64 y.2)).run Try.prog w = _ := run_eqInt (P := Try.prog) (d := 9998) Try.underlying3 x.2 y.2 w
    simp only [Op.eqFields, Sem.run_bind, a1, a2, a3, a4, b1, b2, Result.andThen_ok]
    have e : decide (x = y) = (x.1 == y.1 && x.2 == y.2) := by
      rw [Bool.eq_iff_iff]
      simp [Prod.ext_iff]
    rw [e]
    cases hh' : (x.1 == y.1) <;> cases hh : (x.2 == y.2) <;> simp [a1, a2, a3, a4, b1, b2, hh, hh']
  chk := fun b x w _ => by
    rw [Instr.checkKey]
    have a1 := run_part_int (P := Try.prog) Try.underlying3 #[.int .i64 x.1, .int .i64 x.2] 0 (.int .i64 x.1) rfl w
    have a3 := run_part_int (P := Try.prog) Try.underlying3 #[.int .i64 x.1, .int .i64 x.2] 1 (.int .i64 x.2) rfl w
    have hc : ∀ y, (Instr.checkKey b 9999 3 (.int .i64 y)).run Try.prog w = .ok () w := by
      intro y
      rw [Instr.checkKey]
      simp only [Sem.run_bind, run_underlying Try.underlying3, Result.andThen_ok]
      simp
    simp only [pairKey, Sem.run_bind, run_underlying Try.underlying56, Result.andThen_ok]
    simp [a1, a3, hc]
  same := fun x _ => by simp [pairKey, Instr.sameBits]
  und := ⟨_, Try.underlying56, .inl (fun x y => rfl)⟩
theorem ownKeyOK : KeyOK Try.prog 3 (Value.int .i64) (fun _ : Int => True) := intKeyOK Try.underlying3
theorem zeroInt : (Try.prog.info? 3).bind (·.zero) = some (Value.int .i64 0) := by kernel_rfl
abbrev mpC (g : Nat) (C : CM) : HP := mp g pairKey (Value.int .i64) (fun _ => True) C
abbrev mpI (g : Nat) (M : IM) : HP := mp g (Value.int .i64) (Value.int .i64) (fun _ : Int => True) M
abbrev opB (gO gc go gm : Nat) : HP := blk gO [.map (some gc), .map (some go), .map (some gm)] 80
set_option maxHeartbeats 1600000 in
set_option maxRecDepth 100000 in
theorem del_any {w0 : World} {X F : HP} (gO gc go gm gs gp : Nat) (s : Seen) (O : IM) (k : Cn) (v : Int) (w : World)
    (HS0 : SH w0 w [X, mpI go O, blk gs s.enc 28, blk gp [.pointer (some ⟨gO, 0, none⟩)] 58, opB gO gc go gm, F]) :
    Calls Try.prog 49 #[.agg #[.int .i64 k.1, .int .i64 k.2], .int .i64 v, .pointer (some ⟨gs, 0, none⟩), .pointer (some ⟨gp, 0, none⟩)] w
      (fun e w' => e = .returned (.bool (k.1 == s.node)) ∧ SH w0 w' [X, mpI go (if k.1 == s.node then mdel O k.2 else O), blk gs s.enc 28, blk gp [.pointer (some ⟨gO, 0, none⟩)] 58, opB gO gc go gm, F]) := by
  unfold Seen.enc at HS0 ⊢
  have HS := Aside0.mk HS0
  clear HS0
  cases hb : (k.1 == s.node)
  · go_enter Try.func49, Try.ntmps49
    go_wp2_with (first | ((first | ((first | ((with_reducible refine gA rfl ?_); refine sh_alloc HS.out rfl rfl (zeT _ (by decide)) ?_) | ((with_reducible refine gB rfl ?_); refine bx HS.out rfl rfl ?_; first | refine bv (v := .agg (List.toArray _)) rfl ?_ | refine bv (v := .int _ _) rfl ?_ | refine bv (v := .slice _ _ _) rfl ?_ | refine bv (v := .bool _) rfl ?_ | refine bv (v := .pointer _) rfl ?_ | refine bv (v := .string _) rfl ?_ | refine bv (v := .map _) rfl ?_ | refine bv (v := .func _ _ _) rfl ?_) | ((with_reducible refine gL rfl ?_); refine sh_lit HS.out rfl rfl (by go_simp; exact ⟨⟨rfl, rfl⟩, rfl⟩) ?_)); clear HS; intro g w1 hg HS1; (simp only [zeF, segOf, aL, aC, aE] at HS1); have HS := Aside0.mk HS1; clear HS1) | ((with_reducible refine gLd rfl ?_); refine ld2 HS.out rfl rfl rfl (by repeat (first | exact AtI.here | apply AtI.there)) ?_; (first | refine LdK.one ((agT _ (by decide)).trans rfl) rfl ?_ | (refine LdK.agg ((agT _ (by decide)).trans rfl) (szT _ (by decide)) (lb rfl) ?_; try simp only [szL, aP, aN, aT, aZ, aS, aD, aF, aJ, aK, aM, aO]))) | ((with_reducible refine gSt rfl ?_); refine st2 HS.out rfl rfl rfl rfl (by repeat (first | exact AtI.here | apply AtI.there)) ?_; (first | refine sv (u := .agg (List.toArray _)) rfl ?_ | refine sv (u := .int _ _) rfl ?_ | refine sv (u := .slice _ _ _) rfl ?_ | refine sv (u := .bool _) rfl ?_ | refine sv (u := .pointer _) rfl ?_ | refine sv (u := .string _) rfl ?_ | refine sv (u := .map _) rfl ?_ | refine sv (u := .func _ _ _) rfl ?_); refine sw (szT _ (by decide)) rfl (lb rfl) ?_; clear HS; intro w1 HS1; (simp only [segOf, aL, aZ, aS, putSeg] at HS1); have HS := Aside0.mk HS1; clear HS1)); try simp only [aP, aN, aT, aZ, aS]))
    go_ret
    exact ⟨rfl, HS.out.pick [0, 1, 2, 3, 4, 5] rfl (by decide)⟩
  · go_enter Try.func49, Try.ntmps49
    go_upto_region 2 with (first | ((first | ((first | ((with_reducible refine gA rfl ?_); refine sh_alloc HS.out rfl rfl (zeT _ (by decide)) ?_) | ((with_reducible refine gB rfl ?_); refine bx HS.out rfl rfl ?_; first | refine bv (v := .agg (List.toArray _)) rfl ?_ | refine bv (v := .int _ _) rfl ?_ | refine bv (v := .slice _ _ _) rfl ?_ | refine bv (v := .bool _) rfl ?_ | refine bv (v := .pointer _) rfl ?_ | refine bv (v := .string _) rfl ?_ | refine bv (v := .map _) rfl ?_ | refine bv (v := .func _ _ _) rfl ?_) | ((with_reducible refine gL rfl ?_); refine sh_lit HS.out rfl rfl (by go_simp; exact ⟨⟨rfl, rfl⟩, rfl⟩) ?_)); clear HS; intro g w1 hg HS1; (simp only [zeF, segOf, aL, aC, aE] at HS1); have HS := Aside0.mk HS1; clear HS1) | ((with_reducible refine gLd rfl ?_); refine ld2 HS.out rfl rfl rfl (by repeat (first | exact AtI.here | apply AtI.there)) ?_; (first | refine LdK.one ((agT _ (by decide)).trans rfl) rfl ?_ | (refine LdK.agg ((agT _ (by decide)).trans rfl) (szT _ (by decide)) (lb rfl) ?_; try simp only [szL, aP, aN, aT, aZ, aS, aD, aF, aJ, aK, aM, aO]))) | ((with_reducible refine gSt rfl ?_); refine st2 HS.out rfl rfl rfl rfl (by repeat (first | exact AtI.here | apply AtI.there)) ?_; (first | refine sv (u := .agg (List.toArray _)) rfl ?_ | refine sv (u := .int _ _) rfl ?_ | refine sv (u := .slice _ _ _) rfl ?_ | refine sv (u := .bool _) rfl ?_ | refine sv (u := .pointer _) rfl ?_ | refine sv (u := .string _) rfl ?_ | refine sv (u := .map _) rfl ?_ | refine sv (u := .func _ _ _) rfl ?_); refine sw (szT _ (by decide)) rfl (lb rfl) ?_; clear HS; intro w1 HS1; (simp only [segOf, aL, aZ, aS, putSeg] at HS1); have HS := Aside0.mk HS1; clear HS1)); try simp only [aP, aN, aT, aZ, aS]))
    have HC := Aside0.mk (HS.out.pick [3, 4, 6] rfl (by decide))
    refine kheld_start [] mixed HC.out (fun HC1 => ?_)
    have HS1 := HS.out.drew
    clear HS HC
    have HS := Aside0.mk HS1
    have HC := Aside0.mk HC1
    clear HS1 HC1
    refine k_load 0 (by simp only [aG, aH, aI]; rfl) (by kernel_rfl) (by kernel_rfl) (by kernel_rfl) (by kernel_rfl) (by exact fun _ _ _ h => h) HC.out (by kernel_rfl) rfl rfl 0 rfl ((agT _ (by decide)).trans rfl) rfl ?_
    (try simp only [aP, aN, aT, aZ, aS])
    refine k_any 1 (v := _) (by simp only [aG, aH, aI]; rfl) (by kernel_rfl) (by kernel_rfl) (by kernel_rfl) (by kernel_rfl) (by exact fun _ _ _ h => h) (.inr HC.out) (by kernel_rfl) (fun w => by (repeat (rename ∀ (_ : Act) (_ : World), _ => hK9; clear hK9)); go_simp; rfl) ?_
    (try simp only [aP, aN, aT, aZ, aS])
    refine k_any 2 (v := _) (by simp only [aG, aH, aI]; rfl) (by kernel_rfl) (by kernel_rfl) (by kernel_rfl) (by kernel_rfl) (by exact fun _ _ _ h => h) (.inr HC.out) (by kernel_rfl) (fun w => by (repeat (rename ∀ (_ : Act) (_ : World), _ => hK9; clear hK9)); go_simp; rfl) ?_
    (try simp only [aP, aN, aT, aZ, aS])
    refine k_load 3 (by simp only [aG, aH, aI]; rfl) (by kernel_rfl) (by kernel_rfl) (by kernel_rfl) (by kernel_rfl) (by exact fun _ _ _ h => h) HC.out (by kernel_rfl) rfl rfl 1 rfl ((agT _ (by decide)).trans rfl) rfl ?_
    (try simp only [aP, aN, aT, aZ, aS])
    refine k_any 4 (v := _) (by simp only [aG, aH, aI]; rfl) (by kernel_rfl) (by kernel_rfl) (by kernel_rfl) (by kernel_rfl) (by exact fun _ _ _ h => h) (.inr HC.out) (by kernel_rfl) (fun w => by (repeat (rename ∀ (_ : Act) (_ : World), _ => hK9; clear hK9)); go_simp; rfl) ?_
    (try simp only [aP, aN, aT, aZ, aS])
    refine k_load 5 (by simp only [aG, aH, aI]; rfl) (by kernel_rfl) (by kernel_rfl) (by kernel_rfl) (by kernel_rfl) (by exact fun _ _ _ h => h) HC.out (by kernel_rfl) rfl rfl 2 rfl ((agT _ (by decide)).trans rfl) rfl ?_
    (try simp only [aP, aN, aT, aZ, aS])
    refine k_one 6 (by simp only [aG, aH, aI]; rfl) (by kernel_rfl) ?_
    ((with_reducible refine gC (b := .delete) rfl ?_); refine sh_delete HS.out rfl rfl rfl 1 rfl k.2 rfl trivial Try.underlying78 ownKeyOK ?_; clear HS; intro w1 HS1; (simp only [aZ, aS] at HS1); have HS := Aside0.mk HS1; clear HS1; try simp only [aP, aN, aT, aZ, aS])
    have HC1 := HS.out.pick [3, 4, 6] rfl (by decide)
    clear HC
    have HC := Aside0.mk HC1
    clear HC1
    refine k_nil (.inr HC.out) ?_
    (try simp only [aP, aN, aT, aZ, aS])
    refine k_done (by kernel_rfl) ?_ _
    go_wp2_with (first | ((first | ((first | ((with_reducible refine gA rfl ?_); refine sh_alloc HS.out rfl rfl (zeT _ (by decide)) ?_) | ((with_reducible refine gB rfl ?_); refine bx HS.out rfl rfl ?_; first | refine bv (v := .agg (List.toArray _)) rfl ?_ | refine bv (v := .int _ _) rfl ?_ | refine bv (v := .slice _ _ _) rfl ?_ | refine bv (v := .bool _) rfl ?_ | refine bv (v := .pointer _) rfl ?_ | refine bv (v := .string _) rfl ?_ | refine bv (v := .map _) rfl ?_ | refine bv (v := .func _ _ _) rfl ?_) | ((with_reducible refine gL rfl ?_); refine sh_lit HS.out rfl rfl (by go_simp; exact ⟨⟨rfl, rfl⟩, rfl⟩) ?_)); clear HS; intro g w1 hg HS1; (simp only [zeF, segOf, aL, aC, aE] at HS1); have HS := Aside0.mk HS1; clear HS1) | ((with_reducible refine gLd rfl ?_); refine ld2 HS.out rfl rfl rfl (by repeat (first | exact AtI.here | apply AtI.there)) ?_; (first | refine LdK.one ((agT _ (by decide)).trans rfl) rfl ?_ | (refine LdK.agg ((agT _ (by decide)).trans rfl) (szT _ (by decide)) (lb rfl) ?_; try simp only [szL, aP, aN, aT, aZ, aS, aD, aF, aJ, aK, aM, aO]))) | ((with_reducible refine gSt rfl ?_); refine st2 HS.out rfl rfl rfl rfl (by repeat (first | exact AtI.here | apply AtI.there)) ?_; (first | refine sv (u := .agg (List.toArray _)) rfl ?_ | refine sv (u := .int _ _) rfl ?_ | refine sv (u := .slice _ _ _) rfl ?_ | refine sv (u := .bool _) rfl ?_ | refine sv (u := .pointer _) rfl ?_ | refine sv (u := .string _) rfl ?_ | refine sv (u := .map _) rfl ?_ | refine sv (u := .func _ _ _) rfl ?_); refine sw (szT _ (by decide)) rfl (lb rfl) ?_; clear HS; intro w1 HS1; (simp only [segOf, aL, aZ, aS, putSeg] at HS1); have HS := Aside0.mk HS1; clear HS1)); try simp only [aP, aN, aT, aZ, aS]))
    go_ret
    exact ⟨rfl, HS.out.pick [0, 1, 2, 3, 4, 5] rfl (by decide)⟩
end Go.Proofs.Ytkggchahhpmpbaa.Jue
