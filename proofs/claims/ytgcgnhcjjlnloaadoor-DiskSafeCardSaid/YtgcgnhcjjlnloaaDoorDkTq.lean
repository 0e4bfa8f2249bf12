/- Lemmas towards the law: what of the text DkT it needs. -/
import Derived.Test.YtgcgnhcjjlnloaaDoorDkRq
namespace Go.Proofs.YtgcgnhcjjlnloaaDoor.Dk
open Go.RowKit Go.Proofs.YtgcgnhcjjlnloaaDoorW.PrintWords Go.Proofs.YtgcgnhcjjlnloaaDoor.Sl
set_option linter.unusedVariables false
set_option linter.unusedSimpArgs false
theorem addf (a : Addr) (n j : Nat) (hj : j ≠ 0) : Value.pointer (some { block := (a.add n).block, off := (a.add n).off + j }) = Value.pointer (some (a.add (n + j))) := by
  unfold Addr.add
  by_cases h : n = 0
  · subst h
    simp [hj]
  · rw [if_neg h, if_neg (by omega)]
    simp [Nat.add_assoc]
theorem rfindI_lt {F : List RF} {name : ByteArray} {i : Nat} (hi : rfind F name = i) (h : i < F.length) : rfindI F name = i := by
  unfold rfindI
  rw [hi, if_pos h]
theorem rfindI_ge {F : List RF} {name : ByteArray} (h : ¬ rfind F name < F.length) : rfindI F name = -1 := by
  unfold rfindI
  rw [if_neg h]
section
variable {w0 w : World} {G : HP}
set_option maxHeartbeats 1600000 in
set_option maxRecDepth 100000 in
theorem rnew_any (w : World) : Calls Tryd.prog 11 #[] w (fun e w' => ∃ gX, e = .returned (.pointer (some ⟨gX, 0, none⟩)) ∧ SH w w' [blk gX [.slice none 0 0, .int .i64 (-1), .bool false] 60, row rfK 65 (.slice none 0 0) [] (fun _ => False)]) := by
  have HS := Aside0.mk (SH.start w)
  go_enter Tryd.func11, Tryd.ntmps11
  go_wp2_with (first | ((fail_if_success (have _ := gb)); ((with_reducible refine gB rfl ?_); refine bx HS.out rfl rfl ?_; (first | refine bv (v := .agg (List.toArray _)) rfl ?_ | refine bv (v := .int _ _) rfl ?_ | refine bv (v := .slice _ _ _) rfl ?_ | refine bv (v := .bool _) rfl ?_ | refine bv (v := .pointer _) rfl ?_); clear HS; intro gb w1 hgb HS1; (simp only [RF.enc, segOf, aL, aC, aE] at HS1); have HS := Aside0.mk HS1; clear HS1; try simp only [aP, aN, aT, aZ, aS])) | ((first | ((first | ((with_reducible refine gA rfl ?_); refine sh_alloc HS.out rfl rfl (zeT _ (by decide)) ?_) | ((with_reducible refine gB rfl ?_); refine bx HS.out rfl rfl ?_; first | refine bv (v := .agg (List.toArray _)) rfl ?_ | refine bv (v := .int _ _) rfl ?_ | refine bv (v := .slice _ _ _) rfl ?_ | refine bv (v := .bool _) rfl ?_ | refine bv (v := .pointer _) rfl ?_) | ((with_reducible refine gL rfl ?_); refine sh_lit HS.out rfl rfl (by go_simp; exact ⟨⟨rfl, rfl⟩, rfl⟩) ?_)); clear HS; intro g w1 hg HS1; (simp only [RF.enc, zeF, segOf, aL, aC, aE] at HS1); have HS := Aside0.mk HS1; clear HS1)); try simp only [aP, aN, aT, aZ, aS]))
  go_ret
  exact ⟨_, rfl, SH.nil rfK 65 HS.out⟩
def rreadB (F : List RF) (name : ByteArray) (off : Bool) : ByteArray := if off then ⟨#[]⟩ else (F.getD (rfind F name) default).b
def rreadE (F : List RF) (name : ByteArray) (off : Bool) : Int := if off then 7 else if rfind F name < F.length then 0 else 4
set_option maxHeartbeats 1600000 in
set_option maxRecDepth 100000 in
theorem rread_any (gX : Nat) (A : Option Addr) (n c : Nat) (x1 : Value) (off : Bool) (F : List RF) (S : Nat → Prop) (name : ByteArray) (hn : n ≤ 1000) (HS0 : SH w0 w [blk gX [.slice A n c, x1, .bool off] 60, row rfK 65 (.slice A n c) F S, G]) :
    Calls Tryd.prog 23 #[.pointer (some ⟨gX, 0, none⟩), .string name] w (fun e w' => e = .returned (.tuple #[.string (rreadB F name off), .int .i64 (rreadE F name off)]) ∧ SH w0 w' [blk gX [.slice A n c, x1, .bool off] 60, row rfK 65 (.slice A n c) F S, G]) := by
  have HM := Aside0.mk (row_rds (hl := RF.len) (h1 := RF.one) 1 rfl _ HS0).len.1
  have HS := Aside0.mk HS0
  clear HS0
  obtain ⟨i, hi⟩ : ∃ i, rfind F name = i := ⟨_, rfl⟩
  have HI := Aside0.mk hi
  by_cases hlt : i < n
  · have hr : rfindI F name = i := rfindI_lt hi (by rw [HM.out]; exact hlt)
    have HR := Aside0.mk (row_rds (hl := RF.len) (h1 := RF.one) 1 rfl _ HS.out)
    obtain ⟨ad, rfl⟩ := HR.out.addr (by omega)
    clear HR
    obtain ⟨f, hf⟩ : ∃ f, F.getD i default = f := ⟨_, rfl⟩
    have HX := Aside0.mk hf
    have HA : ∀ o, Aside0 (rreadB F name o = (if o then ⟨#[]⟩ else f.b) ∧ rreadE F name o = (if o then 7 else 0)) := fun o => ⟨by unfold rreadB; rw [hi, hf], by unfold rreadE; rw [hi, if_pos (show i < F.length by rw [HM.out]; exact hlt)]⟩
    clear hf hi
    have hge : decide ((i : Int) < 0) = false := by rw [decide_eq_false_iff_not]; omega
    have hib : (i : Int) ≤ 1000 := by omega
    cases off
    · go_enter Tryd.func23, Tryd.ntmps23
      go_upto_region 6 with (first | (go_at_call 39; (with_reducible refine (rfind_any gX (some ad) n c x1 (.bool false) F S name hn HS.out).mono ?_); rintro e w2 ⟨rfl, HS9⟩; (rw [hr]); clear HS; have HS := Aside0.mk HS9; clear HS9) | ((first | ((first | ((with_reducible refine gA rfl ?_); refine sh_alloc HS.out rfl rfl (zeT _ (by decide)) ?_) | ((with_reducible refine gB rfl ?_); refine bx HS.out rfl rfl ?_; first | refine bv (v := .agg (List.toArray _)) rfl ?_ | refine bv (v := .int _ _) rfl ?_ | refine bv (v := .slice _ _ _) rfl ?_ | refine bv (v := .bool _) rfl ?_ | refine bv (v := .pointer _) rfl ?_) | ((with_reducible refine gL rfl ?_); refine sh_lit HS.out rfl rfl (by go_simp; exact ⟨⟨rfl, rfl⟩, rfl⟩) ?_)); clear HS; intro g w1 hg HS1; (simp only [RF.enc, zeF, segOf, aL, aC, aE] at HS1); have HS := Aside0.mk HS1; clear HS1) | ((with_reducible refine gLd rfl ?_); refine ld2 HS.out rfl rfl rfl (by repeat (first | exact AtI.here | apply AtI.there)) ?_; (first | refine LdK.one ((agT _ (by decide)).trans rfl) rfl ?_ | (refine LdK.agg ((agT _ (by decide)).trans rfl) (szT _ (by decide)) (lb rfl) ?_; try simp only [szL, aP, aN, aT, aZ, aS, aD, aF, aJ, aK, aM, aO]))) | ((with_reducible refine gSt rfl ?_); refine st2 HS.out rfl rfl rfl rfl (by repeat (first | exact AtI.here | apply AtI.there)) ?_; (first | refine sv (u := .agg (List.toArray _)) rfl ?_ | refine sv (u := .int _ _) rfl ?_ | refine sv (u := .slice _ _ _) rfl ?_ | refine sv (u := .bool _) rfl ?_ | refine sv (u := .pointer _) rfl ?_); refine sw (szT _ (by decide)) rfl (lb rfl) ?_; clear HS; intro w1 HS1; (simp only [RF.enc, segOf, aL, aZ, aS, putSeg] at HS1); have HS := Aside0.mk HS1; clear HS1)); try simp only [aP, aN, aT, aZ, aS]))
      have HR := Aside0.mk (row_rds (hl := RF.len) (h1 := RF.one) 1 rfl _ HS.out)
      go_wp2_with (first | ((with_reducible refine gLd rfl ?_); refine rd_loadf HR.out rfl rfl (i := i) 1 (addf ad (i * 3) 1 (by decide)) hlt default ((agT _ (by decide)).trans rfl) (fun e => .string e.b) (fun _ => rfl) ?_; intro x hx; obtain rfl := HX.out.symm.trans hx; (try simp only [aP, aN, aT, aZ, aS])) | ((first | ((first | ((with_reducible refine gA rfl ?_); refine sh_alloc HS.out rfl rfl (zeT _ (by decide)) ?_) | ((with_reducible refine gB rfl ?_); refine bx HS.out rfl rfl ?_; first | refine bv (v := .agg (List.toArray _)) rfl ?_ | refine bv (v := .int _ _) rfl ?_ | refine bv (v := .slice _ _ _) rfl ?_ | refine bv (v := .bool _) rfl ?_ | refine bv (v := .pointer _) rfl ?_) | ((with_reducible refine gL rfl ?_); refine sh_lit HS.out rfl rfl (by go_simp; exact ⟨⟨rfl, rfl⟩, rfl⟩) ?_)); clear HS; intro g w1 hg HS1; (simp only [RF.enc, zeF, segOf, aL, aC, aE] at HS1); have HS := Aside0.mk HS1; clear HS1) | ((with_reducible refine gLd rfl ?_); refine ld2 HS.out rfl rfl rfl (by repeat (first | exact AtI.here | apply AtI.there)) ?_; (first | refine LdK.one ((agT _ (by decide)).trans rfl) rfl ?_ | (refine LdK.agg ((agT _ (by decide)).trans rfl) (szT _ (by decide)) (lb rfl) ?_; try simp only [szL, aP, aN, aT, aZ, aS, aD, aF, aJ, aK, aM, aO]))) | ((with_reducible refine gSt rfl ?_); refine st2 HS.out rfl rfl rfl rfl (by repeat (first | exact AtI.here | apply AtI.there)) ?_; (first | refine sv (u := .agg (List.toArray _)) rfl ?_ | refine sv (u := .int _ _) rfl ?_ | refine sv (u := .slice _ _ _) rfl ?_ | refine sv (u := .bool _) rfl ?_ | refine sv (u := .pointer _) rfl ?_); refine sw (szT _ (by decide)) rfl (lb rfl) ?_; clear HS; intro w1 HS1; (simp only [RF.enc, segOf, aL, aZ, aS, putSeg] at HS1); have HS := Aside0.mk HS1; clear HS1)); try simp only [aP, aN, aT, aZ, aS]))
      go_ret2
      exact ⟨by rw [(HA false).out.1, (HA false).out.2]; rfl, HS.out⟩
    · go_enter Tryd.func23, Tryd.ntmps23
      go_wp2_with (first | (go_at_call 39; (with_reducible refine (rfind_any gX (some ad) n c x1 (.bool true) F S name hn HS.out).mono ?_); rintro e w2 ⟨rfl, HS9⟩; (rw [hr]); clear HS; have HS := Aside0.mk HS9; clear HS9) | ((first | ((first | ((with_reducible refine gA rfl ?_); refine sh_alloc HS.out rfl rfl (zeT _ (by decide)) ?_) | ((with_reducible refine gB rfl ?_); refine bx HS.out rfl rfl ?_; first | refine bv (v := .agg (List.toArray _)) rfl ?_ | refine bv (v := .int _ _) rfl ?_ | refine bv (v := .slice _ _ _) rfl ?_ | refine bv (v := .bool _) rfl ?_ | refine bv (v := .pointer _) rfl ?_) | ((with_reducible refine gL rfl ?_); refine sh_lit HS.out rfl rfl (by go_simp; exact ⟨⟨rfl, rfl⟩, rfl⟩) ?_)); clear HS; intro g w1 hg HS1; (simp only [RF.enc, zeF, segOf, aL, aC, aE] at HS1); have HS := Aside0.mk HS1; clear HS1) | ((with_reducible refine gLd rfl ?_); refine ld2 HS.out rfl rfl rfl (by repeat (first | exact AtI.here | apply AtI.there)) ?_; (first | refine LdK.one ((agT _ (by decide)).trans rfl) rfl ?_ | (refine LdK.agg ((agT _ (by decide)).trans rfl) (szT _ (by decide)) (lb rfl) ?_; try simp only [szL, aP, aN, aT, aZ, aS, aD, aF, aJ, aK, aM, aO]))) | ((with_reducible refine gSt rfl ?_); refine st2 HS.out rfl rfl rfl rfl (by repeat (first | exact AtI.here | apply AtI.there)) ?_; (first | refine sv (u := .agg (List.toArray _)) rfl ?_ | refine sv (u := .int _ _) rfl ?_ | refine sv (u := .slice _ _ _) rfl ?_ | refine sv (u := .bool _) rfl ?_ | refine sv (u := .pointer _) rfl ?_); refine sw (szT _ (by decide)) rfl (lb rfl) ?_; clear HS; intro w1 HS1; (simp only [RF.enc, segOf, aL, aZ, aS, putSeg] at HS1); have HS := Aside0.mk HS1; clear HS1)); try simp only [aP, aN, aT, aZ, aS]))
      go_ret2
      exact ⟨by rw [(HA true).out.1, (HA true).out.2]; rfl, HS.out⟩
  · have hr : rfindI F name = -1 := rfindI_ge (by rw [hi, HM.out]; exact hlt)
    have HA : ∀ o, Aside0 (rreadB F name o = ⟨#[]⟩ ∧ rreadE F name o = (if o then 7 else 4)) := fun o => ⟨by unfold rreadB; rw [hi, List.getD_eq_getElem?_getD, List.getElem?_eq_none (by rw [HM.out]; omega)]; cases o <;> rfl, by unfold rreadE; rw [hi, if_neg (show ¬ i < F.length by rw [HM.out]; exact hlt)]⟩
    clear hi
    cases off
    all_goals
      go_enter Tryd.func23, Tryd.ntmps23
      go_wp2_with (first | (go_at_call 39; (with_reducible refine (rfind_any gX A n c x1 _ F S name hn HS.out).mono ?_); rintro e w2 ⟨rfl, HS9⟩; (rw [hr]); clear HS; have HS := Aside0.mk HS9; clear HS9) | ((first | ((first | ((with_reducible refine gA rfl ?_); refine sh_alloc HS.out rfl rfl (zeT _ (by decide)) ?_) | ((with_reducible refine gB rfl ?_); refine bx HS.out rfl rfl ?_; first | refine bv (v := .agg (List.toArray _)) rfl ?_ | refine bv (v := .int _ _) rfl ?_ | refine bv (v := .slice _ _ _) rfl ?_ | refine bv (v := .bool _) rfl ?_ | refine bv (v := .pointer _) rfl ?_) | ((with_reducible refine gL rfl ?_); refine sh_lit HS.out rfl rfl (by go_simp; exact ⟨⟨rfl, rfl⟩, rfl⟩) ?_)); clear HS; intro g w1 hg HS1; (simp only [RF.enc, zeF, segOf, aL, aC, aE] at HS1); have HS := Aside0.mk HS1; clear HS1) | ((with_reducible refine gLd rfl ?_); refine ld2 HS.out rfl rfl rfl (by repeat (first | exact AtI.here | apply AtI.there)) ?_; (first | refine LdK.one ((agT _ (by decide)).trans rfl) rfl ?_ | (refine LdK.agg ((agT _ (by decide)).trans rfl) (szT _ (by decide)) (lb rfl) ?_; try simp only [szL, aP, aN, aT, aZ, aS, aD, aF, aJ, aK, aM, aO]))) | ((with_reducible refine gSt rfl ?_); refine st2 HS.out rfl rfl rfl rfl (by repeat (first | exact AtI.here | apply AtI.there)) ?_; (first | refine sv (u := .agg (List.toArray _)) rfl ?_ | refine sv (u := .int _ _) rfl ?_ | refine sv (u := .slice _ _ _) rfl ?_ | refine sv (u := .bool _) rfl ?_ | refine sv (u := .pointer _) rfl ?_); refine sw (szT _ (by decide)) rfl (lb rfl) ?_; clear HS; intro w1 HS1; (simp only [RF.enc, segOf, aL, aZ, aS, putSeg] at HS1); have HS := Aside0.mk HS1; clear HS1)); try simp only [aP, aN, aT, aZ, aS]))
      go_ret2
      exact ⟨by rw [(HA _).out.1, (HA _).out.2]; rfl, HS.out⟩
set_option maxHeartbeats 1600000 in
set_option maxRecDepth 100000 in
theorem rset_any (gX : Nat) (x0 : Value) (arm : Int) (off : Bool) (k : Int) (HS0 : SH w0 w [blk gX [x0, .int .i64 arm, .bool off] 60, G]) :
    Calls Tryd.prog 27 #[.pointer (some ⟨gX, 0, none⟩), .int .i64 k] w (fun e w' => e = .returned (.tuple #[]) ∧ SH w0 w' [blk gX [x0, .int .i64 (if off then arm else max k (-1)), .bool off] 60, G]) := by
  have HS := Aside0.mk HS0
  clear HS0
  cases off
  all_goals
    go_enter Tryd.func27, Tryd.ntmps27
    go_wp2_with (first | ((first | ((first | ((with_reducible refine gA rfl ?_); refine sh_alloc HS.out rfl rfl (zeT _ (by decide)) ?_) | ((with_reducible refine gB rfl ?_); refine bx HS.out rfl rfl ?_; first | refine bv (v := .agg (List.toArray _)) rfl ?_ | refine bv (v := .int _ _) rfl ?_ | refine bv (v := .slice _ _ _) rfl ?_ | refine bv (v := .bool _) rfl ?_ | refine bv (v := .pointer _) rfl ?_) | ((with_reducible refine gL rfl ?_); refine sh_lit HS.out rfl rfl (by go_simp; exact ⟨⟨rfl, rfl⟩, rfl⟩) ?_)); clear HS; intro g w1 hg HS1; (simp only [RF.enc, zeF, segOf, aL, aC, aE] at HS1); have HS := Aside0.mk HS1; clear HS1) | ((with_reducible refine gLd rfl ?_); refine ld2 HS.out rfl rfl rfl (by repeat (first | exact AtI.here | apply AtI.there)) ?_; (first | refine LdK.one ((agT _ (by decide)).trans rfl) rfl ?_ | (refine LdK.agg ((agT _ (by decide)).trans rfl) (szT _ (by decide)) (lb rfl) ?_; try simp only [szL, aP, aN, aT, aZ, aS, aD, aF, aJ, aK, aM, aO]))) | ((with_reducible refine gSt rfl ?_); refine st2 HS.out rfl rfl rfl rfl (by repeat (first | exact AtI.here | apply AtI.there)) ?_; (first | refine sv (u := .agg (List.toArray _)) rfl ?_ | refine sv (u := .int _ _) rfl ?_ | refine sv (u := .slice _ _ _) rfl ?_ | refine sv (u := .bool _) rfl ?_ | refine sv (u := .pointer _) rfl ?_); refine sw (szT _ (by decide)) rfl (lb rfl) ?_; clear HS; intro w1 HS1; (simp only [RF.enc, segOf, aL, aZ, aS, putSeg] at HS1); have HS := Aside0.mk HS1; clear HS1)); try simp only [aP, aN, aT, aZ, aS]))
    go_end0
    exact ⟨rfl, HS.out⟩
end
end Go.Proofs.YtgcgnhcjjlnloaaDoor.Dk
