/- Lemmas towards the law: what of the text DkR it needs. -/
import Derived.Test.YtgcgnhcjjlnloaaDoorDk2q
namespace Go.Proofs.YtgcgnhcjjlnloaaDoor.Dk
open Go.RowKit Go.Proofs.YtgcgnhcjjlnloaaDoorW.PrintWords Go.Proofs.YtgcgnhcjjlnloaaDoor.Sl
set_option linter.unusedVariables false
set_option linter.unusedSimpArgs false
structure RF where
  name : ByteArray
  b : ByteArray
  safe : Int
instance : Inhabited RF := ⟨⟨⟨#[]⟩, ⟨#[]⟩, 0⟩⟩
def RF.enc (f : RF) : List Value := [.string f.name, .string f.b, .int .i64 f.safe]
theorem RF.len (f : RF) : f.enc.length = 3 := rfl
theorem RF.one (f : RF) : f.enc.all (·.oneCell') = true := rfl
def rfK : Kd RF := flk RF.enc 3 RF.len RF.one
theorem infoRF : (Tryd.prog.info? 65).map (fun i => (i.zero, i.size, i.bytes)) = some (some (.agg #[.string ⟨#[]⟩, .string ⟨#[]⟩, .int .i64 0]), 3, 40) := by kernel_rfl
/-- where a file lies -/
def rfind (F : List RF) (name : ByteArray) : Nat := F.findIdx (fun f => decide (f.name = name))
def rfindI (F : List RF) (name : ByteArray) : Int := if rfind F name < F.length then (rfind F name : Int) else -1
theorem rfind_hit {F : List RF} {name : ByteArray} {k : Nat} {f : RF} (hk : k < F.length) (hf : F.getD k default = f) (hle : k ≤ rfind F name) (he : f.name = name) : rfindI F name = k := by
  rw [List.getD_eq_getElem?_getD, List.getElem?_eq_getElem hk, Option.getD_some] at hf
  have h1 : ¬ k < rfind F name := fun h => by
    have := List.not_of_lt_findIdx h
    rw [hf] at this
    simp [he] at this
  have h2 : rfind F name = k := by omega
  unfold rfindI
  rw [h2, if_pos hk]
theorem rfind_next {F : List RF} {name : ByteArray} {k : Nat} {f : RF} (hk : k < F.length) (hf : F.getD k default = f) (hle : k ≤ rfind F name) (he : f.name ≠ name) : k + 1 ≤ rfind F name := by
  rw [List.getD_eq_getElem?_getD, List.getElem?_eq_getElem hk, Option.getD_some] at hf
  rcases Nat.lt_or_ge k (rfind F name) with h | h
  · exact h
  · have h2 : rfind F name = k := by omega
    have h3 : List.findIdx (fun f => decide (f.name = name)) F < F.length := by show rfind F name < _; omega
    have h4 := List.findIdx_getElem (w := h3)
    have h5 : List.findIdx (fun f => decide (f.name = name)) F = k := h2
    simp only [h5, hf] at h4
    exact absurd (of_decide_eq_true h4) he
theorem rfind_none {F : List RF} {name : ByteArray} (h : F.length ≤ rfind F name) : rfindI F name = -1 := by
  unfold rfindI
  rw [if_neg (by omega)]
theorem strEqT {x y : ByteArray} (h : x = y) : (x.toList == y.toList) = true := by subst h; simp
theorem strEqF {x y : ByteArray} (h : x ≠ y) : (x.toList == y.toList) = false := by
  rw [beq_eq_false_iff_ne]
  intro e
  rw [ByteArray.toList_eq, ByteArray.toList_eq] at e
  exact h (ByteArray.ext (Array.ext' e))
set_option maxHeartbeats 1600000 in
set_option maxRecDepth 100000 in
theorem rfind_any {w0 w : World} {G : HP} (gX : Nat) (A : Option Addr) (n c : Nat) (x1 x2 : Value) (F : List RF) (S : Nat → Prop) (name : ByteArray) (hn : n ≤ 1000) (HS0 : SH w0 w [blk gX [.slice A n c, x1, x2] 60, row rfK 65 (.slice A n c) F S, G]) :
    Calls Tryd.prog 39 #[.pointer (some ⟨gX, 0, none⟩), .string name] w (fun e w' => e = .returned (.int .i64 (rfindI F name)) ∧ SH w0 w' [blk gX [.slice A n c, x1, x2] 60, row rfK 65 (.slice A n c) F S, G]) := by
  have HM := Aside0.mk (row_rds (hl := RF.len) (h1 := RF.one) 1 rfl _ HS0).len.1
  have HS := Aside0.mk HS0
  clear HS0
  go_enter Tryd.func39, Tryd.ntmps39
  go_upto_region 2 with (first | ((first | ((first | ((with_reducible refine gA rfl ?_); refine sh_alloc HS.out rfl rfl (zeT _ (by decide)) ?_) | ((with_reducible refine gB rfl ?_); refine bx HS.out rfl rfl ?_; first | refine bv (v := .agg (List.toArray _)) rfl ?_ | refine bv (v := .int _ _) rfl ?_ | refine bv (v := .slice _ _ _) rfl ?_ | refine bv (v := .bool _) rfl ?_ | refine bv (v := .pointer _) rfl ?_) | ((with_reducible refine gL rfl ?_); refine sh_lit HS.out rfl rfl (by go_simp; exact ⟨⟨rfl, rfl⟩, rfl⟩) ?_)); clear HS; intro g w1 hg HS1; (simp only [RF.enc, zeF, segOf, aL, aC, aE] at HS1); have HS := Aside0.mk HS1; clear HS1) | ((with_reducible refine gLd rfl ?_); refine ld2 HS.out rfl rfl rfl (by repeat (first | exact AtI.here | apply AtI.there)) ?_; (first | refine LdK.one ((agT _ (by decide)).trans rfl) rfl ?_ | (refine LdK.agg ((agT _ (by decide)).trans rfl) (szT _ (by decide)) (lb rfl) ?_; try simp only [szL, aP, aN, aT, aZ, aS, aD, aF, aJ, aK, aM, aO]))) | ((with_reducible refine gSt rfl ?_); refine st2 HS.out rfl rfl rfl rfl (by repeat (first | exact AtI.here | apply AtI.there)) ?_; (first | refine sv (u := .agg (List.toArray _)) rfl ?_ | refine sv (u := .int _ _) rfl ?_ | refine sv (u := .slice _ _ _) rfl ?_ | refine sv (u := .bool _) rfl ?_ | refine sv (u := .pointer _) rfl ?_); refine sw (szT _ (by decide)) rfl (lb rfl) ?_; clear HS; intro w1 HS1; (simp only [RF.enc, segOf, aL, aZ, aS, putSeg] at HS1); have HS := Aside0.mk HS1; clear HS1)); try simp only [aP, aN, aT, aZ, aS]))
  go_wp2
  go_loopw [12] (fun v12 wr => ∃ k : Nat, k ≤ n ∧ v12 = .int .i64 k ∧ Aside0 (k ≤ rfind F name) ∧ Aside0 (SH w0 wr [blk gX [.slice A n c, x1, x2] 60, row rfK 65 (.slice A n c) F S, G])) (fun v12 _ => n - (intOf v12).toNat)
  case atStart => exact ⟨0, Nat.zero_le _, rfl, ⟨Nat.zero_le _⟩, HS⟩
  case round =>
    clear HS
    obtain ⟨k, hk, rfl, HK, HS⟩ := hrel
    by_cases hlt : k < n
    · have HR := Aside0.mk (row_rds (hl := RF.len) (h1 := RF.one) 1 rfl _ HS.out)
      obtain ⟨ad, rfl⟩ := HR.out.addr (by omega)
      obtain ⟨f, hf⟩ : ∃ f, F.getD k default = f := ⟨_, rfl⟩
      have HX := Aside0.mk hf
      clear hf
      by_cases he : f.name = name
      · have HE := Aside0.mk he
        have he1 := strEqT he
        have he2 : (f.name == name) = true := by rw [bb_eq, he]; simp
        clear he
        go_wp2_with (first | ((with_reducible refine gLd rfl ?_); refine rd_load HR.out rfl rfl (i := k) rfl hlt default RF.len ((agT _ (by decide)).trans rfl) (szT _ (by decide)) ?_; intro x hx; obtain rfl := HX.out.symm.trans hx; (try simp only [RF.enc, aP, aN, aT, aZ, aS])) | ((fail_if_success (have _ := gf)); ((with_reducible refine gA rfl ?_); refine sh_alloc HS.out rfl rfl (zeT _ (by decide)) ?_; clear HS; intro gf w1 hgf HS1; (simp only [RF.enc, zeF, segOf, aL, aC, aE] at HS1); have HS := Aside0.mk HS1; clear HS1; try simp only [aP, aN, aT, aZ, aS])) | ((first | ((first | ((with_reducible refine gA rfl ?_); refine sh_alloc HS.out rfl rfl (zeT _ (by decide)) ?_) | ((with_reducible refine gB rfl ?_); refine bx HS.out rfl rfl ?_; first | refine bv (v := .agg (List.toArray _)) rfl ?_ | refine bv (v := .int _ _) rfl ?_ | refine bv (v := .slice _ _ _) rfl ?_ | refine bv (v := .bool _) rfl ?_ | refine bv (v := .pointer _) rfl ?_) | ((with_reducible refine gL rfl ?_); refine sh_lit HS.out rfl rfl (by go_simp; exact ⟨⟨rfl, rfl⟩, rfl⟩) ?_)); clear HS; intro g w1 hg HS1; (simp only [RF.enc, zeF, segOf, aL, aC, aE] at HS1); have HS := Aside0.mk HS1; clear HS1) | ((with_reducible refine gLd rfl ?_); refine ld2 HS.out rfl rfl rfl (by repeat (first | exact AtI.here | apply AtI.there)) ?_; (first | refine LdK.one ((agT _ (by decide)).trans rfl) rfl ?_ | (refine LdK.agg ((agT _ (by decide)).trans rfl) (szT _ (by decide)) (lb rfl) ?_; try simp only [szL, aP, aN, aT, aZ, aS, aD, aF, aJ, aK, aM, aO]))) | ((with_reducible refine gSt rfl ?_); refine st2 HS.out rfl rfl rfl rfl (by repeat (first | exact AtI.here | apply AtI.there)) ?_; (first | refine sv (u := .agg (List.toArray _)) rfl ?_ | refine sv (u := .int _ _) rfl ?_ | refine sv (u := .slice _ _ _) rfl ?_ | refine sv (u := .bool _) rfl ?_ | refine sv (u := .pointer _) rfl ?_); refine sw (szT _ (by decide)) rfl (lb rfl) ?_; clear HS; intro w1 HS1; (simp only [RF.enc, segOf, aL, aZ, aS, putSeg] at HS1); have HS := Aside0.mk HS1; clear HS1)); try simp only [aP, aN, aT, aZ, aS]))
        go_ret
        exact ⟨by rw [rfind_hit (by rw [HM.out]; exact hlt) HX.out HK.out HE.out]; rfl, HS.out.pick [0, 1, 2] rfl (by decide)⟩
      · have HE := Aside0.mk he
        have he1 := strEqF he
        have he2 : (f.name == name) = false := by rw [bb_eq]; simp [he]
        clear he
        go_wp2_with (first | ((with_reducible refine gLd rfl ?_); refine rd_load HR.out rfl rfl (i := k) rfl hlt default RF.len ((agT _ (by decide)).trans rfl) (szT _ (by decide)) ?_; intro x hx; obtain rfl := HX.out.symm.trans hx; (try simp only [RF.enc, aP, aN, aT, aZ, aS])) | ((fail_if_success (have _ := gf)); ((with_reducible refine gA rfl ?_); refine sh_alloc HS.out rfl rfl (zeT _ (by decide)) ?_; clear HS; intro gf w1 hgf HS1; (simp only [RF.enc, zeF, segOf, aL, aC, aE] at HS1); have HS := Aside0.mk HS1; clear HS1; try simp only [aP, aN, aT, aZ, aS])) | ((first | ((first | ((with_reducible refine gA rfl ?_); refine sh_alloc HS.out rfl rfl (zeT _ (by decide)) ?_) | ((with_reducible refine gB rfl ?_); refine bx HS.out rfl rfl ?_; first | refine bv (v := .agg (List.toArray _)) rfl ?_ | refine bv (v := .int _ _) rfl ?_ | refine bv (v := .slice _ _ _) rfl ?_ | refine bv (v := .bool _) rfl ?_ | refine bv (v := .pointer _) rfl ?_) | ((with_reducible refine gL rfl ?_); refine sh_lit HS.out rfl rfl (by go_simp; exact ⟨⟨rfl, rfl⟩, rfl⟩) ?_)); clear HS; intro g w1 hg HS1; (simp only [RF.enc, zeF, segOf, aL, aC, aE] at HS1); have HS := Aside0.mk HS1; clear HS1) | ((with_reducible refine gLd rfl ?_); refine ld2 HS.out rfl rfl rfl (by repeat (first | exact AtI.here | apply AtI.there)) ?_; (first | refine LdK.one ((agT _ (by decide)).trans rfl) rfl ?_ | (refine LdK.agg ((agT _ (by decide)).trans rfl) (szT _ (by decide)) (lb rfl) ?_; try simp only [szL, aP, aN, aT, aZ, aS, aD, aF, aJ, aK, aM, aO]))) | ((with_reducible refine gSt rfl ?_); refine st2 HS.out rfl rfl rfl rfl (by repeat (first | exact AtI.here | apply AtI.there)) ?_; (first | refine sv (u := .agg (List.toArray _)) rfl ?_ | refine sv (u := .int _ _) rfl ?_ | refine sv (u := .slice _ _ _) rfl ?_ | refine sv (u := .bool _) rfl ?_ | refine sv (u := .pointer _) rfl ?_); refine sw (szT _ (by decide)) rfl (lb rfl) ?_; clear HS; intro w1 HS1; (simp only [RF.enc, segOf, aL, aZ, aS, putSeg] at HS1); have HS := Aside0.mk HS1; clear HS1)); try simp only [aP, aN, aT, aZ, aS]))
        go_roundw
        case rel => exact ⟨k + 1, by omega, by go_num, ⟨rfind_next (by rw [HM.out]; exact hlt) HX.out HK.out HE.out⟩, ⟨HS.out.pick [0, 1, 2] rfl (by decide)⟩⟩
        case measure => simp [intOf]; omega
    · obtain rfl : k = n := by omega
      go_wp2
      go_ret
      exact ⟨by rw [rfind_none (by rw [HM.out]; exact HK.out)]; rfl, HS.out⟩
end Go.Proofs.YtgcgnhcjjlnloaaDoor.Dk
