/- Lemmas towards the law: what of the text DkV it needs. -/
import Derived.Test.YtgcgnhcjjlnloaaDoorDkUq
namespace Go.Proofs.YtgcgnhcjjlnloaaDoor.Dk
open Go.RowKit Go.Proofs.YtgcgnhcjjlnloaaDoorW.PrintWords Go.Proofs.YtgcgnhcjjlnloaaDoor.Sl
set_option linter.unusedVariables false
set_option linter.unusedSimpArgs false
theorem row_form {α : Type} {enc : α → List Value} {sz : Nat} {hl : ∀ x, (enc x).length = sz} {h1 : ∀ x, (enc x).all (·.oneCell') = true} {w0 w : World} {is : List HP} (HS : SH w0 w is) (n : Nat) {e : TypeId} {A : Option Addr} {m c : Nat} {xs : List α} {S : Nat → Prop} (hn : is[n]? = some (row (flk enc sz hl h1) e (.slice A m c) xs S)) :
    m = xs.length ∧ m ≤ c ∧ c ≤ 9223372036854775807 ∧ ((A = none ∧ c = 0) ∨ ∃ g, A = some ⟨g, 0, none⟩) := by
  have HO := HS.at n hn
  have hm := (Kd.R_reads' HO).1
  obtain ⟨hok, inner, hown, hr⟩ := HO
  rcases hown.2 with ⟨hv, h0⟩ | ⟨g, cap, cur, hv, hb, hh, hnc, hcm, hcs, hx⟩
  · injection hv with h1' h2 h3
    exact ⟨hm, by omega, by omega, .inl ⟨h1', h3⟩⟩
  · injection hv with h1' h2 h3
    subst h3
    exact ⟨hm, by omega, by simpa [maxLen] using hcm, .inr ⟨g, h1'⟩⟩
theorem rd_dropF {w : World} {ad : Addr} {n : Nat} {xs : List RF} (h : Rd RF.enc 3 w (some ad) n xs) {p : Nat} (hp : p ≤ n) : Rd RF.enc 3 w (some (ad.add (p * 3))) (n - p) (xs.drop p) := by
  refine ⟨by rw [List.length_drop, h.len.1], by have := h.len.2; omega, fun hm => ⟨_, rfl, fun j q hj => ?_⟩⟩
  obtain ⟨a1, ha1, hr⟩ := h.2.2 (by omega)
  injection ha1 with ha1
  subst ha1
  rw [List.getElem?_drop] at hj
  obtain ⟨cs, h1, h2, h3⟩ := hr (p + j) q hj
  refine ⟨cs, h1, h2, fun i u hu => ?_⟩
  rw [← h3 i u hu]
  congr 1
  unfold Addr.add
  by_cases h0 : p * 3 = 0
  · rw [if_pos h0]
    have : p = 0 := by omega
    subst this
    simp
  · rw [if_neg h0]
    have e1 : ¬ (p + j) * 3 + i = 0 := by omega
    rw [if_neg e1]
    by_cases h2 : j * 3 + i = 0
    · rw [if_pos h2]
      simp <;> omega
    · rw [if_neg h2]
      simp <;> omega
theorem rd_takeF {w : World} {A : Option Addr} {n : Nat} {xs : List RF} (h : Rd RF.enc 3 w A n xs) {m : Nat} (hm : m ≤ n) : Rd RF.enc 3 w A m (xs.take m) := by
  refine ⟨by rw [List.length_take, h.len.1]; omega, by have := h.len.2; omega, fun h0 => ?_⟩
  obtain ⟨a1, ha1, hr⟩ := h.2.2 (by omega)
  refine ⟨a1, ha1, fun j q hj => ?_⟩
  rw [List.getElem?_take] at hj
  split at hj
  · exact hr j q hj
  · cases hj
/-- where a name's place is -/
def rat (F : List RF) (name : ByteArray) : Nat := F.findIdx (fun f => !Op.bytesLess f.name.toList name.toList)
def rputF (F : List RF) (name b : ByteArray) : List RF := if b.size = 0 then F else if rfind F name < F.length then F.set (rfind F name) { F.getD (rfind F name) default with b := (F.getD (rfind F name) default).b ++ b } else F.take (rat F name) ++ ⟨name, b, 0⟩ :: F.drop (rat F name)
theorem rat_le (F : List RF) (name : ByteArray) : rat F name ≤ F.length := List.findIdx_le_length
theorem rat_hit {F : List RF} {name : ByteArray} {k : Nat} {f : RF} (hk : k < F.length) (hf : F.getD k default = f) (hle : k ≤ rat F name) (he : Op.bytesLess f.name.toList name.toList = false) : rat F name = k := by
  rw [List.getD_eq_getElem?_getD, List.getElem?_eq_getElem hk, Option.getD_some] at hf
  have h1 : ¬ k < rat F name := fun h => by
    have := List.not_of_lt_findIdx h
    rw [hf] at this
    simp [he] at this
  omega
theorem rat_next {F : List RF} {name : ByteArray} {k : Nat} {f : RF} (hk : k < F.length) (hf : F.getD k default = f) (hle : k ≤ rat F name) (he : Op.bytesLess f.name.toList name.toList = true) : k + 1 ≤ rat F name := by
  rw [List.getD_eq_getElem?_getD, List.getElem?_eq_getElem hk, Option.getD_some] at hf
  rcases Nat.lt_or_ge k (rat F name) with h | h
  · exact h
  · have h2 : rat F name = k := by omega
    have h3 : List.findIdx (fun f => !Op.bytesLess f.name.toList name.toList) F < F.length := by show rat F name < _; omega
    have h4 := List.findIdx_getElem (w := h3)
    have h5 : List.findIdx (fun f => !Op.bytesLess f.name.toList name.toList) F = k := h2
    simp only [h5, hf] at h4
    rw [he] at h4
    cases h4
def RPutPost (w0 : World) (G : HP) (gX : Nat) (x1 x2 : Value) (F' : List RF) (e : Ending) (w' : World) : Prop := ∃ A' c' S', e = .returned (.tuple #[]) ∧ SH w0 w' [blk gX [.slice A' F'.length c', x1, x2] 60, row rfK 65 (.slice A' F'.length c') F' S', G]
section
variable {w0 w : World} {G : HP}
set_option maxHeartbeats 3200000 in
set_option maxRecDepth 100000 in
theorem rput_any (gX : Nat) (A : Option Addr) (n c : Nat) (x1 x2 : Value) (F : List RF) (S : Nat → Prop) (name b : ByteArray) (hn : n ≤ 1000) (hsz : ∀ f ∈ F, f.b.size ≤ 70368744177664) (hbz : b.size ≤ 70368744177664) (HS0 : SH w0 w [blk gX [.slice A n c, x1, x2] 60, row rfK 65 (.slice A n c) F S, G]) :
    Calls Tryd.prog 40 #[.pointer (some ⟨gX, 0, none⟩), .string name, .string b] w (RPutPost w0 G gX x1 x2 (rputF F name b)) := by
  have hm0 := (row_rds (hl := RF.len) (h1 := RF.one) 1 rfl _ HS0).len.1
  have HM := Aside0.mk hm0
  have HS := Aside0.mk HS0
  clear HS0
  by_cases hb : b.size = 0
  · have hb0 : b = ⟨#[]⟩ := by
      apply ByteArray.ext
      exact Array.eq_empty_of_size_eq_zero hb
    have hr : rputF F name b = F := by unfold rputF; rw [if_pos hb]
    rw [hr]
    clear hr
    subst hb0
    subst hm0
    clear HM
    go_enter Tryd.func40, Tryd.ntmps40
    go_wp2
    go_end0
    exact ⟨_, _, _, rfl, HS.out⟩
  · have hb1 : b ≠ ⟨#[]⟩ := fun h => hb (by rw [h]; rfl)
    have hb2 : b.toList.isEmpty = false := by
      rw [ByteArray.toList_eq]
      cases h : b.data.toList with
      | nil => exact absurd (by rw [← ByteArray.size_data, ← Array.length_toList, h]; rfl) hb
      | cons x l => rfl
    obtain ⟨i, hi⟩ : ∃ i, rfind F name = i := ⟨_, rfl⟩
    by_cases hlt : i < n
    · have hr : rfindI F name = i := rfindI_lt hi (by rw [HM.out]; exact hlt)
      have HR := Aside0.mk (row_rds (hl := RF.len) (h1 := RF.one) 1 rfl _ HS.out)
      obtain ⟨ad, rfl⟩ := HR.out.addr (by omega)
      clear HR
      obtain ⟨f, hf⟩ : ∃ f, F.getD i default = f := ⟨_, rfl⟩
      have HX := Aside0.mk hf
      have HA := Aside0.mk (show rputF F name b = F.set i { f with b := f.b ++ b } by unfold rputF; rw [if_neg hb, hi, hf, if_pos (show i < F.length by rw [HM.out]; exact hlt)])
      have hfm : f ∈ F := by
        rw [← hf, List.getD_eq_getElem?_getD, List.getElem?_eq_getElem (by rw [HM.out]; exact hlt), Option.getD_some]
        exact List.getElem_mem _
      have h3 := hsz f hfm
      have hcat : ¬ (9223372036854775807 : Int) < ((f.b.size + b.size : Nat) : Int) := by omega
      have hcat2 : ¬ (9223372036854775807 : Int) < (f.b.size : Int) + (b.size : Int) := by omega
      clear hf hi hfm hm0 hb1 hsz
      have hge : decide ((0 : Int) ≤ (i : Int)) = true := by rw [decide_eq_true_eq]; omega
      have hib : (i : Int) ≤ 1000 := by omega
      go_enter Tryd.func40, Tryd.ntmps40
      go_upto_region 3 with (first | (go_at_call 39; (with_reducible refine (rfind_any gX (some ad) n c x1 x2 F S name hn HS.out).mono ?_); rintro e w2 ⟨rfl, HS9⟩; (rw [hr]); clear HS; have HS := Aside0.mk HS9; clear HS9) | ((first | ((first | ((with_reducible refine gA rfl ?_); refine sh_alloc HS.out rfl rfl (zeT _ (by decide)) ?_) | ((with_reducible refine gB rfl ?_); refine bx HS.out rfl rfl ?_; first | refine bv (v := .agg (List.toArray _)) rfl ?_ | refine bv (v := .int _ _) rfl ?_ | refine bv (v := .slice _ _ _) rfl ?_ | refine bv (v := .bool _) rfl ?_ | refine bv (v := .pointer _) rfl ?_) | ((with_reducible refine gL rfl ?_); refine sh_lit HS.out rfl rfl (by go_simp; exact ⟨⟨rfl, rfl⟩, rfl⟩) ?_)); clear HS; intro g w1 hg HS1; (simp only [RF.enc, zeF, segOf, aL, aC, aE] at HS1); have HS := Aside0.mk HS1; clear HS1) | ((with_reducible refine gLd rfl ?_); refine ld2 HS.out rfl rfl rfl (by repeat (first | exact AtI.here | apply AtI.there)) ?_; (first | refine LdK.one ((agT _ (by decide)).trans rfl) rfl ?_ | (refine LdK.agg ((agT _ (by decide)).trans rfl) (szT _ (by decide)) (lb rfl) ?_; try simp only [szL, aP, aN, aT, aZ, aS, aD, aF, aJ, aK, aM, aO]))) | ((with_reducible refine gSt rfl ?_); refine st2 HS.out rfl rfl rfl rfl (by repeat (first | exact AtI.here | apply AtI.there)) ?_; (first | refine sv (u := .agg (List.toArray _)) rfl ?_ | refine sv (u := .int _ _) rfl ?_ | refine sv (u := .slice _ _ _) rfl ?_ | refine sv (u := .bool _) rfl ?_ | refine sv (u := .pointer _) rfl ?_); refine sw (szT _ (by decide)) rfl (lb rfl) ?_; clear HS; intro w1 HS1; (simp only [RF.enc, segOf, aL, aZ, aS, putSeg] at HS1); have HS := Aside0.mk HS1; clear HS1)); try simp only [aP, aN, aT, aZ, aS]))
      have HR := Aside0.mk (row_rds (hl := RF.len) (h1 := RF.one) 1 rfl _ HS.out)
      go_wp2_with (first | ((with_reducible refine gLd rfl ?_); refine rd_loadf HR.out rfl rfl (i := i) 1 (addf ad (i * 3) 1 (by decide)) hlt default ((agT _ (by decide)).trans rfl) (fun e => .string e.b) (fun _ => rfl) ?_; intro x hx; obtain rfl := HX.out.symm.trans hx; (try simp only [aP, aN, aT, aZ, aS])) | ((with_reducible refine gSt rfl ?_); refine sh_storeE (hl := RF.len) (h1 := RF.one) HS.out rfl rfl rfl (addf ad (i * 3) 1 (by decide)) 1 rfl hlt (by decide) (u := .string (f.b ++ b)) rfl rfl (szT _ (by decide)) rfl default { f with b := f.b ++ b } (by rw [HX.out]; rfl) ?_; clear HS; intro w1 S1 HS1; (simp only [aZ, aS] at HS1); have HS := Aside0.mk HS1; clear HS1) | ((first | ((first | ((with_reducible refine gA rfl ?_); refine sh_alloc HS.out rfl rfl (zeT _ (by decide)) ?_) | ((with_reducible refine gB rfl ?_); refine bx HS.out rfl rfl ?_; first | refine bv (v := .agg (List.toArray _)) rfl ?_ | refine bv (v := .int _ _) rfl ?_ | refine bv (v := .slice _ _ _) rfl ?_ | refine bv (v := .bool _) rfl ?_ | refine bv (v := .pointer _) rfl ?_) | ((with_reducible refine gL rfl ?_); refine sh_lit HS.out rfl rfl (by go_simp; exact ⟨⟨rfl, rfl⟩, rfl⟩) ?_)); clear HS; intro g w1 hg HS1; (simp only [RF.enc, zeF, segOf, aL, aC, aE] at HS1); have HS := Aside0.mk HS1; clear HS1) | ((with_reducible refine gLd rfl ?_); refine ld2 HS.out rfl rfl rfl (by repeat (first | exact AtI.here | apply AtI.there)) ?_; (first | refine LdK.one ((agT _ (by decide)).trans rfl) rfl ?_ | (refine LdK.agg ((agT _ (by decide)).trans rfl) (szT _ (by decide)) (lb rfl) ?_; try simp only [szL, aP, aN, aT, aZ, aS, aD, aF, aJ, aK, aM, aO]))) | ((with_reducible refine gSt rfl ?_); refine st2 HS.out rfl rfl rfl rfl (by repeat (first | exact AtI.here | apply AtI.there)) ?_; (first | refine sv (u := .agg (List.toArray _)) rfl ?_ | refine sv (u := .int _ _) rfl ?_ | refine sv (u := .slice _ _ _) rfl ?_ | refine sv (u := .bool _) rfl ?_ | refine sv (u := .pointer _) rfl ?_); refine sw (szT _ (by decide)) rfl (lb rfl) ?_; clear HS; intro w1 HS1; (simp only [RF.enc, segOf, aL, aZ, aS, putSeg] at HS1); have HS := Aside0.mk HS1; clear HS1)); try simp only [aP, aN, aT, aZ, aS]))
      go_end0
      unfold RPutPost
      rw [HA.out]
      have hl2 : (F.set i { f with b := f.b ++ b }).length = n := by rw [List.length_set, HM.out]
      exact ⟨_, _, _, rfl, by rw [hl2]; exact HS.out⟩
    · have hr : rfindI F name = -1 := rfindI_ge (by rw [hi, HM.out]; exact hlt)
      have HA := Aside0.mk (show rputF F name b = F.take (rat F name) ++ ⟨name, b, 0⟩ :: F.drop (rat F name) by unfold rputF; rw [if_neg hb, if_neg (show ¬ rfind F name < F.length by rw [hi, HM.out]; exact hlt)])
      obtain ⟨hnF, hnc, hc63, hrf⟩ := row_form (hl := RF.len) (h1 := RF.one) HS.out 1 rfl
      have HRF := Aside0.mk hrf
      clear hi hm0 hb1 hsz hrf hnF
      go_enter Tryd.func40, Tryd.ntmps40
      go_upto_region 4 with (first | (go_at_call 39; (with_reducible refine (rfind_any gX A n c x1 x2 F S name hn HS.out).mono ?_); rintro e w2 ⟨rfl, HS9⟩; (rw [hr]); clear HS; have HS := Aside0.mk HS9; clear HS9) | ((first | ((first | ((with_reducible refine gA rfl ?_); refine sh_alloc HS.out rfl rfl (zeT _ (by decide)) ?_) | ((with_reducible refine gB rfl ?_); refine bx HS.out rfl rfl ?_; first | refine bv (v := .agg (List.toArray _)) rfl ?_ | refine bv (v := .int _ _) rfl ?_ | refine bv (v := .slice _ _ _) rfl ?_ | refine bv (v := .bool _) rfl ?_ | refine bv (v := .pointer _) rfl ?_) | ((with_reducible refine gL rfl ?_); refine sh_lit HS.out rfl rfl (by go_simp; exact ⟨⟨rfl, rfl⟩, rfl⟩) ?_)); clear HS; intro g w1 hg HS1; (simp only [RF.enc, zeF, segOf, aL, aC, aE] at HS1); have HS := Aside0.mk HS1; clear HS1) | ((with_reducible refine gLd rfl ?_); refine ld2 HS.out rfl rfl rfl (by repeat (first | exact AtI.here | apply AtI.there)) ?_; (first | refine LdK.one ((agT _ (by decide)).trans rfl) rfl ?_ | (refine LdK.agg ((agT _ (by decide)).trans rfl) (szT _ (by decide)) (lb rfl) ?_; try simp only [szL, aP, aN, aT, aZ, aS, aD, aF, aJ, aK, aM, aO]))) | ((with_reducible refine gSt rfl ?_); refine st2 HS.out rfl rfl rfl rfl (by repeat (first | exact AtI.here | apply AtI.there)) ?_; (first | refine sv (u := .agg (List.toArray _)) rfl ?_ | refine sv (u := .int _ _) rfl ?_ | refine sv (u := .slice _ _ _) rfl ?_ | refine sv (u := .bool _) rfl ?_ | refine sv (u := .pointer _) rfl ?_); refine sw (szT _ (by decide)) rfl (lb rfl) ?_; clear HS; intro w1 HS1; (simp only [RF.enc, segOf, aL, aZ, aS, putSeg] at HS1); have HS := Aside0.mk HS1; clear HS1)); try simp only [aP, aN, aT, aZ, aS]))
      go_wp2
      go_loopw [7] (fun v7 wr => ∃ k : Nat, k ≤ n ∧ v7 = .int .i64 k ∧ Aside0 (k ≤ rat F name) ∧ Aside0 (SH w0 wr [blk gX [.slice A n c, x1, x2] 60, row rfK 65 (.slice A n c) F S, G])) (fun v7 _ => n - (intOf v7).toNat)
      case atStart => exact ⟨0, Nat.zero_le _, rfl, ⟨Nat.zero_le _⟩, HS⟩
      case round =>
        clear HS
        obtain ⟨k, hk, rfl, HK, HS⟩ := hrel
        by_cases hlt2 : k < n
        · have HR := Aside0.mk (row_rds (hl := RF.len) (h1 := RF.one) 1 rfl _ HS.out)
          obtain ⟨ad, rfl⟩ := HR.out.addr (by omega)
          obtain ⟨f, hf⟩ : ∃ f, F.getD k default = f := ⟨_, rfl⟩
          have HX := Aside0.mk hf
          clear hf
          cases he : Op.bytesLess f.name.toList name.toList with
          | true =>
            have HE := Aside0.mk he
            go_wp2_with (first | ((with_reducible refine gLd rfl ?_); refine rd_loadf HR.out rfl rfl (i := k) 0 rfl hlt2 default ((agT _ (by decide)).trans rfl) (fun e => .string e.name) (fun _ => rfl) ?_; intro x hx; obtain rfl := HX.out.symm.trans hx; (try simp only [aP, aN, aT, aZ, aS])) | ((first | ((first | ((with_reducible refine gA rfl ?_); refine sh_alloc HS.out rfl rfl (zeT _ (by decide)) ?_) | ((with_reducible refine gB rfl ?_); refine bx HS.out rfl rfl ?_; first | refine bv (v := .agg (List.toArray _)) rfl ?_ | refine bv (v := .int _ _) rfl ?_ | refine bv (v := .slice _ _ _) rfl ?_ | refine bv (v := .bool _) rfl ?_ | refine bv (v := .pointer _) rfl ?_) | ((with_reducible refine gL rfl ?_); refine sh_lit HS.out rfl rfl (by go_simp; exact ⟨⟨rfl, rfl⟩, rfl⟩) ?_)); clear HS; intro g w1 hg HS1; (simp only [RF.enc, zeF, segOf, aL, aC, aE] at HS1); have HS := Aside0.mk HS1; clear HS1) | ((with_reducible refine gLd rfl ?_); refine ld2 HS.out rfl rfl rfl (by repeat (first | exact AtI.here | apply AtI.there)) ?_; (first | refine LdK.one ((agT _ (by decide)).trans rfl) rfl ?_ | (refine LdK.agg ((agT _ (by decide)).trans rfl) (szT _ (by decide)) (lb rfl) ?_; try simp only [szL, aP, aN, aT, aZ, aS, aD, aF, aJ, aK, aM, aO]))) | ((with_reducible refine gSt rfl ?_); refine st2 HS.out rfl rfl rfl rfl (by repeat (first | exact AtI.here | apply AtI.there)) ?_; (first | refine sv (u := .agg (List.toArray _)) rfl ?_ | refine sv (u := .int _ _) rfl ?_ | refine sv (u := .slice _ _ _) rfl ?_ | refine sv (u := .bool _) rfl ?_ | refine sv (u := .pointer _) rfl ?_); refine sw (szT _ (by decide)) rfl (lb rfl) ?_; clear HS; intro w1 HS1; (simp only [RF.enc, segOf, aL, aZ, aS, putSeg] at HS1); have HS := Aside0.mk HS1; clear HS1)); try simp only [aP, aN, aT, aZ, aS]))
            go_roundw
            case rel => exact ⟨k + 1, by omega, by go_num, ⟨rat_next (by rw [HM.out]; exact hlt2) HX.out HK.out HE.out⟩, HS⟩
            case measure => simp [intOf]; omega
          | false =>
            have HE := Aside0.mk (rat_hit (by rw [HM.out]; exact hlt2) HX.out HK.out he)
            have hne : ¬ c = k := by omega
            go_upto_region 7 with (first | ((with_reducible refine gLd rfl ?_); refine rd_loadf HR.out rfl rfl (i := k) 0 rfl hlt2 default ((agT _ (by decide)).trans rfl) (fun e => .string e.name) (fun _ => rfl) ?_; intro x hx; obtain rfl := HX.out.symm.trans hx; (try simp only [aP, aN, aT, aZ, aS])) | ((first | ((first | ((with_reducible refine gA rfl ?_); refine sh_alloc HS.out rfl rfl (zeT _ (by decide)) ?_) | ((with_reducible refine gB rfl ?_); refine bx HS.out rfl rfl ?_; first | refine bv (v := .agg (List.toArray _)) rfl ?_ | refine bv (v := .int _ _) rfl ?_ | refine bv (v := .slice _ _ _) rfl ?_ | refine bv (v := .bool _) rfl ?_ | refine bv (v := .pointer _) rfl ?_) | ((with_reducible refine gL rfl ?_); refine sh_lit HS.out rfl rfl (by go_simp; exact ⟨⟨rfl, rfl⟩, rfl⟩) ?_)); clear HS; intro g w1 hg HS1; (simp only [RF.enc, zeF, segOf, aL, aC, aE] at HS1); have HS := Aside0.mk HS1; clear HS1) | ((with_reducible refine gLd rfl ?_); refine ld2 HS.out rfl rfl rfl (by repeat (first | exact AtI.here | apply AtI.there)) ?_; (first | refine LdK.one ((agT _ (by decide)).trans rfl) rfl ?_ | (refine LdK.agg ((agT _ (by decide)).trans rfl) (szT _ (by decide)) (lb rfl) ?_; try simp only [szL, aP, aN, aT, aZ, aS, aD, aF, aJ, aK, aM, aO]))) | ((with_reducible refine gSt rfl ?_); refine st2 HS.out rfl rfl rfl rfl (by repeat (first | exact AtI.here | apply AtI.there)) ?_; (first | refine sv (u := .agg (List.toArray _)) rfl ?_ | refine sv (u := .int _ _) rfl ?_ | refine sv (u := .slice _ _ _) rfl ?_ | refine sv (u := .bool _) rfl ?_ | refine sv (u := .pointer _) rfl ?_); refine sw (szT _ (by decide)) rfl (lb rfl) ?_; clear HS; intro w1 HS1; (simp only [RF.enc, segOf, aL, aZ, aS, putSeg] at HS1); have HS := Aside0.mk HS1; clear HS1)); try simp only [aP, aN, aT, aZ, aS]))
            clear HR HX he
            obtain ⟨L1, hL1⟩ : ∃ L1, F.take k = L1 := ⟨_, rfl⟩
            obtain ⟨L2, hL2⟩ : ∃ L2, L1 ++ [(⟨name, b, 0⟩ : RF)] = L2 := ⟨_, rfl⟩
            obtain ⟨L3, hL3⟩ : ∃ L3, L2 ++ F.drop k = L3 := ⟨_, rfl⟩
            have HLL := Aside0.mk (show F.take k ++ ⟨name, b, 0⟩ :: F.drop k = L3 by rw [← hL3, ← hL2, ← hL1]; simp)
            have HN1 := Aside0.mk (show L1.length = k by rw [← hL1, List.length_take, HM.out]; omega)
            have HN2 := Aside0.mk (show L2.length = k + 1 by rw [← hL2, List.length_append, HN1.out]; rfl)
            have HD := Aside0.mk (show (F.drop k).length = n - k by rw [List.length_drop, HM.out])
            have HL1 := Aside0.mk hL1
            have HL2 := Aside0.mk hL2
            have HL3 := Aside0.mk hL3
            clear hL1 hL2 hL3
            go_upto_region 8 with (first | ((with_reducible refine gC (b := .append) rfl ?_); refine sh_append_nil RF.len RF.one HS.out rfl rfl rfl rfl (show Rd RF.enc 3 _ _ k L1 by rw [← HL1.out]; exact rd_takeF (row_rds (hl := RF.len) (h1 := RF.one) 1 rfl _ HS.out) (by omega)) Tryd.underlying58 infoRF rfl (by decide) (by decide) (by omega) ?_; clear HS; intro v1 w1 S1 HS1; (simp only [aC, aE] at HS1); have HS := Aside0.mk HS1; clear HS1; try simp only [aP, aN, aT, aZ, aS]; obtain ⟨A1, c1, rfl, hc1, _⟩ := row_rd HS.out 3 rfl) | ((first | ((first | ((with_reducible refine gA rfl ?_); refine sh_alloc HS.out rfl rfl (zeT _ (by decide)) ?_) | ((with_reducible refine gB rfl ?_); refine bx HS.out rfl rfl ?_; first | refine bv (v := .agg (List.toArray _)) rfl ?_ | refine bv (v := .int _ _) rfl ?_ | refine bv (v := .slice _ _ _) rfl ?_ | refine bv (v := .bool _) rfl ?_ | refine bv (v := .pointer _) rfl ?_) | ((with_reducible refine gL rfl ?_); refine sh_lit HS.out rfl rfl (by go_simp; exact ⟨⟨rfl, rfl⟩, rfl⟩) ?_)); clear HS; intro g w1 hg HS1; (simp only [RF.enc, zeF, segOf, aL, aC, aE] at HS1); have HS := Aside0.mk HS1; clear HS1) | ((with_reducible refine gLd rfl ?_); refine ld2 HS.out rfl rfl rfl (by repeat (first | exact AtI.here | apply AtI.there)) ?_; (first | refine LdK.one ((agT _ (by decide)).trans rfl) rfl ?_ | (refine LdK.agg ((agT _ (by decide)).trans rfl) (szT _ (by decide)) (lb rfl) ?_; try simp only [szL, aP, aN, aT, aZ, aS, aD, aF, aJ, aK, aM, aO]))) | ((with_reducible refine gSt rfl ?_); refine st2 HS.out rfl rfl rfl rfl (by repeat (first | exact AtI.here | apply AtI.there)) ?_; (first | refine sv (u := .agg (List.toArray _)) rfl ?_ | refine sv (u := .int _ _) rfl ?_ | refine sv (u := .slice _ _ _) rfl ?_ | refine sv (u := .bool _) rfl ?_ | refine sv (u := .pointer _) rfl ?_); refine sw (szT _ (by decide)) rfl (lb rfl) ?_; clear HS; intro w1 HS1; (simp only [RF.enc, segOf, aL, aZ, aS, putSeg] at HS1); have HS := Aside0.mk HS1; clear HS1)); try simp only [aP, aN, aT, aZ, aS]))
            go_upto_region 9 with (first | ((with_reducible refine gC (b := .append) rfl ?_); refine sh_append (hl := RF.len) (h1 := RF.one) HS.out rfl rfl rfl 3 rfl rfl (Rd.one RF.len (⟨name, b, 0⟩ : RF) (HS.out.blk 4 rfl)) Tryd.underlying58 infoRF rfl (by decide) (by decide) (by rw [HN1.out]; omega) ?_; clear HS; intro v1 w1 S1 HS1; (simp only [aZ, aS] at HS1); rw [HL2.out] at HS1; have HS := Aside0.mk HS1; clear HS1; obtain ⟨A2, c2, rfl, hc2, _⟩ := row_rd HS.out 3 rfl; (try simp only [aP, aN, aT, aZ, aS])) | ((first | ((first | ((with_reducible refine gA rfl ?_); refine sh_alloc HS.out rfl rfl (zeT _ (by decide)) ?_) | ((with_reducible refine gB rfl ?_); refine bx HS.out rfl rfl ?_; first | refine bv (v := .agg (List.toArray _)) rfl ?_ | refine bv (v := .int _ _) rfl ?_ | refine bv (v := .slice _ _ _) rfl ?_ | refine bv (v := .bool _) rfl ?_ | refine bv (v := .pointer _) rfl ?_) | ((with_reducible refine gL rfl ?_); refine sh_lit HS.out rfl rfl (by go_simp; exact ⟨⟨rfl, rfl⟩, rfl⟩) ?_)); clear HS; intro g w1 hg HS1; (simp only [RF.enc, zeF, segOf, aL, aC, aE] at HS1); have HS := Aside0.mk HS1; clear HS1) | ((with_reducible refine gLd rfl ?_); refine ld2 HS.out rfl rfl rfl (by repeat (first | exact AtI.here | apply AtI.there)) ?_; (first | refine LdK.one ((agT _ (by decide)).trans rfl) rfl ?_ | (refine LdK.agg ((agT _ (by decide)).trans rfl) (szT _ (by decide)) (lb rfl) ?_; try simp only [szL, aP, aN, aT, aZ, aS, aD, aF, aJ, aK, aM, aO]))) | ((with_reducible refine gSt rfl ?_); refine st2 HS.out rfl rfl rfl rfl (by repeat (first | exact AtI.here | apply AtI.there)) ?_; (first | refine sv (u := .agg (List.toArray _)) rfl ?_ | refine sv (u := .int _ _) rfl ?_ | refine sv (u := .slice _ _ _) rfl ?_ | refine sv (u := .bool _) rfl ?_ | refine sv (u := .pointer _) rfl ?_); refine sw (szT _ (by decide)) rfl (lb rfl) ?_; clear HS; intro w1 HS1; (simp only [RF.enc, segOf, aL, aZ, aS, putSeg] at HS1); have HS := Aside0.mk HS1; clear HS1)); try simp only [aP, aN, aT, aZ, aS]))
            go_wp2_with (first | ((with_reducible refine gC (b := .append) rfl ?_); refine sh_append (hl := RF.len) (h1 := RF.one) HS.out rfl rfl rfl 3 rfl rfl (rd_dropF (row_rds (hl := RF.len) (h1 := RF.one) 1 rfl _ HS.out) (by omega)) Tryd.underlying58 infoRF rfl (by decide) (by decide) (by rw [HN2.out]; omega) ?_; clear HS; intro v1 w1 S1 HS1; (simp only [aZ, aS] at HS1); rw [HL3.out] at HS1; have HS := Aside0.mk HS1; clear HS1; obtain ⟨A3, c3, rfl, hc3, _⟩ := row_rd HS.out 3 rfl; (try simp only [aP, aN, aT, aZ, aS])) | ((first | ((first | ((with_reducible refine gA rfl ?_); refine sh_alloc HS.out rfl rfl (zeT _ (by decide)) ?_) | ((with_reducible refine gB rfl ?_); refine bx HS.out rfl rfl ?_; first | refine bv (v := .agg (List.toArray _)) rfl ?_ | refine bv (v := .int _ _) rfl ?_ | refine bv (v := .slice _ _ _) rfl ?_ | refine bv (v := .bool _) rfl ?_ | refine bv (v := .pointer _) rfl ?_) | ((with_reducible refine gL rfl ?_); refine sh_lit HS.out rfl rfl (by go_simp; exact ⟨⟨rfl, rfl⟩, rfl⟩) ?_)); clear HS; intro g w1 hg HS1; (simp only [RF.enc, zeF, segOf, aL, aC, aE] at HS1); have HS := Aside0.mk HS1; clear HS1) | ((with_reducible refine gLd rfl ?_); refine ld2 HS.out rfl rfl rfl (by repeat (first | exact AtI.here | apply AtI.there)) ?_; (first | refine LdK.one ((agT _ (by decide)).trans rfl) rfl ?_ | (refine LdK.agg ((agT _ (by decide)).trans rfl) (szT _ (by decide)) (lb rfl) ?_; try simp only [szL, aP, aN, aT, aZ, aS, aD, aF, aJ, aK, aM, aO]))) | ((with_reducible refine gSt rfl ?_); refine st2 HS.out rfl rfl rfl rfl (by repeat (first | exact AtI.here | apply AtI.there)) ?_; (first | refine sv (u := .agg (List.toArray _)) rfl ?_ | refine sv (u := .int _ _) rfl ?_ | refine sv (u := .slice _ _ _) rfl ?_ | refine sv (u := .bool _) rfl ?_ | refine sv (u := .pointer _) rfl ?_); refine sw (szT _ (by decide)) rfl (lb rfl) ?_; clear HS; intro w1 HS1; (simp only [RF.enc, segOf, aL, aZ, aS, putSeg] at HS1); have HS := Aside0.mk HS1; clear HS1)); try simp only [aP, aN, aT, aZ, aS]))
            all_goals
              go_end0
              unfold RPutPost
              rw [HA.out, HE.out, HLL.out]
              exact ⟨_, _, _, rfl, HS.out.pick [0, 3, 2] rfl (by decide)⟩
        · obtain rfl : k = n := by omega
          have HE := Aside0.mk (show rat F name = k by have := rat_le F name; have := HK.out; have := HM.out; omega)
          go_upto_region 7 with (first | ((first | ((first | ((with_reducible refine gA rfl ?_); refine sh_alloc HS.out rfl rfl (zeT _ (by decide)) ?_) | ((with_reducible refine gB rfl ?_); refine bx HS.out rfl rfl ?_; first | refine bv (v := .agg (List.toArray _)) rfl ?_ | refine bv (v := .int _ _) rfl ?_ | refine bv (v := .slice _ _ _) rfl ?_ | refine bv (v := .bool _) rfl ?_ | refine bv (v := .pointer _) rfl ?_) | ((with_reducible refine gL rfl ?_); refine sh_lit HS.out rfl rfl (by go_simp; exact ⟨⟨rfl, rfl⟩, rfl⟩) ?_)); clear HS; intro g w1 hg HS1; (simp only [RF.enc, zeF, segOf, aL, aC, aE] at HS1); have HS := Aside0.mk HS1; clear HS1) | ((with_reducible refine gLd rfl ?_); refine ld2 HS.out rfl rfl rfl (by repeat (first | exact AtI.here | apply AtI.there)) ?_; (first | refine LdK.one ((agT _ (by decide)).trans rfl) rfl ?_ | (refine LdK.agg ((agT _ (by decide)).trans rfl) (szT _ (by decide)) (lb rfl) ?_; try simp only [szL, aP, aN, aT, aZ, aS, aD, aF, aJ, aK, aM, aO]))) | ((with_reducible refine gSt rfl ?_); refine st2 HS.out rfl rfl rfl rfl (by repeat (first | exact AtI.here | apply AtI.there)) ?_; (first | refine sv (u := .agg (List.toArray _)) rfl ?_ | refine sv (u := .int _ _) rfl ?_ | refine sv (u := .slice _ _ _) rfl ?_ | refine sv (u := .bool _) rfl ?_ | refine sv (u := .pointer _) rfl ?_); refine sw (szT _ (by decide)) rfl (lb rfl) ?_; clear HS; intro w1 HS1; (simp only [RF.enc, segOf, aL, aZ, aS, putSeg] at HS1); have HS := Aside0.mk HS1; clear HS1)); try simp only [aP, aN, aT, aZ, aS]))
          rcases HRF.out with ⟨rfl, rfl⟩ | ⟨g, rfl⟩
          · obtain rfl : k = 0 := by omega
            obtain ⟨L1, hL1⟩ : ∃ L1, F.take 0 = L1 := ⟨_, rfl⟩
            obtain ⟨L2, hL2⟩ : ∃ L2, L1 ++ [(⟨name, b, 0⟩ : RF)] = L2 := ⟨_, rfl⟩
            obtain ⟨L3, hL3⟩ : ∃ L3, L2 ++ F.drop 0 = L3 := ⟨_, rfl⟩
            have HLL := Aside0.mk (show F.take 0 ++ ⟨name, b, 0⟩ :: F.drop 0 = L3 by rw [← hL3, ← hL2, ← hL1]; simp)
            have HN1 := Aside0.mk (show L1.length = 0 by rw [← hL1, List.length_take, HM.out]; omega)
            have HN2 := Aside0.mk (show L2.length = 0 + 1 by rw [← hL2, List.length_append, HN1.out]; rfl)
            have HD := Aside0.mk (show (F.drop 0).length = 0 - 0 by rw [List.length_drop, HM.out])
            have HL1 := Aside0.mk hL1
            have HL2 := Aside0.mk hL2
            have HL3 := Aside0.mk hL3
            clear hL1 hL2 hL3
            go_upto_region 8 with (first | ((with_reducible refine gC (b := .append) rfl ?_); refine sh_append_nil RF.len RF.one HS.out rfl rfl rfl rfl (show Rd RF.enc 3 _ _ 0 L1 by rw [← HL1.out]; exact rd_takeF (row_rds (hl := RF.len) (h1 := RF.one) 1 rfl _ HS.out) (by omega)) Tryd.underlying58 infoRF rfl (by decide) (by decide) (by omega) ?_; clear HS; intro v1 w1 S1 HS1; (simp only [aC, aE] at HS1); have HS := Aside0.mk HS1; clear HS1; try simp only [aP, aN, aT, aZ, aS]; obtain ⟨A1, c1, rfl, hc1, _⟩ := row_rd HS.out 3 rfl) | ((first | ((first | ((with_reducible refine gA rfl ?_); refine sh_alloc HS.out rfl rfl (zeT _ (by decide)) ?_) | ((with_reducible refine gB rfl ?_); refine bx HS.out rfl rfl ?_; first | refine bv (v := .agg (List.toArray _)) rfl ?_ | refine bv (v := .int _ _) rfl ?_ | refine bv (v := .slice _ _ _) rfl ?_ | refine bv (v := .bool _) rfl ?_ | refine bv (v := .pointer _) rfl ?_) | ((with_reducible refine gL rfl ?_); refine sh_lit HS.out rfl rfl (by go_simp; exact ⟨⟨rfl, rfl⟩, rfl⟩) ?_)); clear HS; intro g w1 hg HS1; (simp only [RF.enc, zeF, segOf, aL, aC, aE] at HS1); have HS := Aside0.mk HS1; clear HS1) | ((with_reducible refine gLd rfl ?_); refine ld2 HS.out rfl rfl rfl (by repeat (first | exact AtI.here | apply AtI.there)) ?_; (first | refine LdK.one ((agT _ (by decide)).trans rfl) rfl ?_ | (refine LdK.agg ((agT _ (by decide)).trans rfl) (szT _ (by decide)) (lb rfl) ?_; try simp only [szL, aP, aN, aT, aZ, aS, aD, aF, aJ, aK, aM, aO]))) | ((with_reducible refine gSt rfl ?_); refine st2 HS.out rfl rfl rfl rfl (by repeat (first | exact AtI.here | apply AtI.there)) ?_; (first | refine sv (u := .agg (List.toArray _)) rfl ?_ | refine sv (u := .int _ _) rfl ?_ | refine sv (u := .slice _ _ _) rfl ?_ | refine sv (u := .bool _) rfl ?_ | refine sv (u := .pointer _) rfl ?_); refine sw (szT _ (by decide)) rfl (lb rfl) ?_; clear HS; intro w1 HS1; (simp only [RF.enc, segOf, aL, aZ, aS, putSeg] at HS1); have HS := Aside0.mk HS1; clear HS1)); try simp only [aP, aN, aT, aZ, aS]))
            go_upto_region 9 with (first | ((with_reducible refine gC (b := .append) rfl ?_); refine sh_append (hl := RF.len) (h1 := RF.one) HS.out rfl rfl rfl 3 rfl rfl (Rd.one RF.len (⟨name, b, 0⟩ : RF) (HS.out.blk 4 rfl)) Tryd.underlying58 infoRF rfl (by decide) (by decide) (by rw [HN1.out]; omega) ?_; clear HS; intro v1 w1 S1 HS1; (simp only [aZ, aS] at HS1); rw [HL2.out] at HS1; have HS := Aside0.mk HS1; clear HS1; obtain ⟨A2, c2, rfl, hc2, _⟩ := row_rd HS.out 3 rfl; (try simp only [aP, aN, aT, aZ, aS])) | ((first | ((first | ((with_reducible refine gA rfl ?_); refine sh_alloc HS.out rfl rfl (zeT _ (by decide)) ?_) | ((with_reducible refine gB rfl ?_); refine bx HS.out rfl rfl ?_; first | refine bv (v := .agg (List.toArray _)) rfl ?_ | refine bv (v := .int _ _) rfl ?_ | refine bv (v := .slice _ _ _) rfl ?_ | refine bv (v := .bool _) rfl ?_ | refine bv (v := .pointer _) rfl ?_) | ((with_reducible refine gL rfl ?_); refine sh_lit HS.out rfl rfl (by go_simp; exact ⟨⟨rfl, rfl⟩, rfl⟩) ?_)); clear HS; intro g w1 hg HS1; (simp only [RF.enc, zeF, segOf, aL, aC, aE] at HS1); have HS := Aside0.mk HS1; clear HS1) | ((with_reducible refine gLd rfl ?_); refine ld2 HS.out rfl rfl rfl (by repeat (first | exact AtI.here | apply AtI.there)) ?_; (first | refine LdK.one ((agT _ (by decide)).trans rfl) rfl ?_ | (refine LdK.agg ((agT _ (by decide)).trans rfl) (szT _ (by decide)) (lb rfl) ?_; try simp only [szL, aP, aN, aT, aZ, aS, aD, aF, aJ, aK, aM, aO]))) | ((with_reducible refine gSt rfl ?_); refine st2 HS.out rfl rfl rfl rfl (by repeat (first | exact AtI.here | apply AtI.there)) ?_; (first | refine sv (u := .agg (List.toArray _)) rfl ?_ | refine sv (u := .int _ _) rfl ?_ | refine sv (u := .slice _ _ _) rfl ?_ | refine sv (u := .bool _) rfl ?_ | refine sv (u := .pointer _) rfl ?_); refine sw (szT _ (by decide)) rfl (lb rfl) ?_; clear HS; intro w1 HS1; (simp only [RF.enc, segOf, aL, aZ, aS, putSeg] at HS1); have HS := Aside0.mk HS1; clear HS1)); try simp only [aP, aN, aT, aZ, aS]))
            go_wp2_with (first | ((with_reducible refine gC (b := .append) rfl ?_); refine sh_append (hl := RF.len) (h1 := RF.one) HS.out rfl rfl rfl 3 rfl rfl (show Rd RF.enc 3 _ _ _ (F.drop 0) by rw [List.drop_of_length_le (by rw [HM.out]; omega)]; first | exact Rd.nil _ _ _ _ | (rw [Nat.sub_self]; exact Rd.nil _ _ _ _)) Tryd.underlying58 infoRF rfl (by decide) (by decide) (by rw [HN2.out]; omega) ?_; clear HS; intro v1 w1 S1 HS1; (simp only [aZ, aS] at HS1); rw [HL3.out] at HS1; have HS := Aside0.mk HS1; clear HS1; obtain ⟨A3, c3, rfl, hc3, _⟩ := row_rd HS.out 3 rfl; (try simp only [aP, aN, aT, aZ, aS])) | ((first | ((first | ((with_reducible refine gA rfl ?_); refine sh_alloc HS.out rfl rfl (zeT _ (by decide)) ?_) | ((with_reducible refine gB rfl ?_); refine bx HS.out rfl rfl ?_; first | refine bv (v := .agg (List.toArray _)) rfl ?_ | refine bv (v := .int _ _) rfl ?_ | refine bv (v := .slice _ _ _) rfl ?_ | refine bv (v := .bool _) rfl ?_ | refine bv (v := .pointer _) rfl ?_) | ((with_reducible refine gL rfl ?_); refine sh_lit HS.out rfl rfl (by go_simp; exact ⟨⟨rfl, rfl⟩, rfl⟩) ?_)); clear HS; intro g w1 hg HS1; (simp only [RF.enc, zeF, segOf, aL, aC, aE] at HS1); have HS := Aside0.mk HS1; clear HS1) | ((with_reducible refine gLd rfl ?_); refine ld2 HS.out rfl rfl rfl (by repeat (first | exact AtI.here | apply AtI.there)) ?_; (first | refine LdK.one ((agT _ (by decide)).trans rfl) rfl ?_ | (refine LdK.agg ((agT _ (by decide)).trans rfl) (szT _ (by decide)) (lb rfl) ?_; try simp only [szL, aP, aN, aT, aZ, aS, aD, aF, aJ, aK, aM, aO]))) | ((with_reducible refine gSt rfl ?_); refine st2 HS.out rfl rfl rfl rfl (by repeat (first | exact AtI.here | apply AtI.there)) ?_; (first | refine sv (u := .agg (List.toArray _)) rfl ?_ | refine sv (u := .int _ _) rfl ?_ | refine sv (u := .slice _ _ _) rfl ?_ | refine sv (u := .bool _) rfl ?_ | refine sv (u := .pointer _) rfl ?_); refine sw (szT _ (by decide)) rfl (lb rfl) ?_; clear HS; intro w1 HS1; (simp only [RF.enc, segOf, aL, aZ, aS, putSeg] at HS1); have HS := Aside0.mk HS1; clear HS1)); try simp only [aP, aN, aT, aZ, aS]))
            all_goals
              go_end0
              unfold RPutPost
              rw [HA.out, HE.out, HLL.out]
              exact ⟨_, _, _, rfl, HS.out.pick [0, 3, 2] rfl (by decide)⟩
          · obtain ⟨ad, had⟩ : ∃ ad : Addr, ad = ⟨g, 0, none⟩ := ⟨_, rfl⟩
            rw [← had] at HS ⊢
            clear had HRF
            obtain ⟨L1, hL1⟩ : ∃ L1, F.take k = L1 := ⟨_, rfl⟩
            obtain ⟨L2, hL2⟩ : ∃ L2, L1 ++ [(⟨name, b, 0⟩ : RF)] = L2 := ⟨_, rfl⟩
            obtain ⟨L3, hL3⟩ : ∃ L3, L2 ++ F.drop k = L3 := ⟨_, rfl⟩
            have HLL := Aside0.mk (show F.take k ++ ⟨name, b, 0⟩ :: F.drop k = L3 by rw [← hL3, ← hL2, ← hL1]; simp)
            have HN1 := Aside0.mk (show L1.length = k by rw [← hL1, List.length_take, HM.out]; omega)
            have HN2 := Aside0.mk (show L2.length = k + 1 by rw [← hL2, List.length_append, HN1.out]; rfl)
            have HD := Aside0.mk (show (F.drop k).length = k - k by rw [List.length_drop, HM.out])
            have HL1 := Aside0.mk hL1
            have HL2 := Aside0.mk hL2
            have HL3 := Aside0.mk hL3
            clear hL1 hL2 hL3
            go_upto_region 8 with (first | ((with_reducible refine gC (b := .append) rfl ?_); refine sh_append_nil RF.len RF.one HS.out rfl rfl rfl rfl (show Rd RF.enc 3 _ _ k L1 by rw [← HL1.out]; exact rd_takeF (row_rds (hl := RF.len) (h1 := RF.one) 1 rfl _ HS.out) (by omega)) Tryd.underlying58 infoRF rfl (by decide) (by decide) (by omega) ?_; clear HS; intro v1 w1 S1 HS1; (simp only [aC, aE] at HS1); have HS := Aside0.mk HS1; clear HS1; try simp only [aP, aN, aT, aZ, aS]; obtain ⟨A1, c1, rfl, hc1, _⟩ := row_rd HS.out 3 rfl) | ((first | ((first | ((with_reducible refine gA rfl ?_); refine sh_alloc HS.out rfl rfl (zeT _ (by decide)) ?_) | ((with_reducible refine gB rfl ?_); refine bx HS.out rfl rfl ?_; first | refine bv (v := .agg (List.toArray _)) rfl ?_ | refine bv (v := .int _ _) rfl ?_ | refine bv (v := .slice _ _ _) rfl ?_ | refine bv (v := .bool _) rfl ?_ | refine bv (v := .pointer _) rfl ?_) | ((with_reducible refine gL rfl ?_); refine sh_lit HS.out rfl rfl (by go_simp; exact ⟨⟨rfl, rfl⟩, rfl⟩) ?_)); clear HS; intro g w1 hg HS1; (simp only [RF.enc, zeF, segOf, aL, aC, aE] at HS1); have HS := Aside0.mk HS1; clear HS1) | ((with_reducible refine gLd rfl ?_); refine ld2 HS.out rfl rfl rfl (by repeat (first | exact AtI.here | apply AtI.there)) ?_; (first | refine LdK.one ((agT _ (by decide)).trans rfl) rfl ?_ | (refine LdK.agg ((agT _ (by decide)).trans rfl) (szT _ (by decide)) (lb rfl) ?_; try simp only [szL, aP, aN, aT, aZ, aS, aD, aF, aJ, aK, aM, aO]))) | ((with_reducible refine gSt rfl ?_); refine st2 HS.out rfl rfl rfl rfl (by repeat (first | exact AtI.here | apply AtI.there)) ?_; (first | refine sv (u := .agg (List.toArray _)) rfl ?_ | refine sv (u := .int _ _) rfl ?_ | refine sv (u := .slice _ _ _) rfl ?_ | refine sv (u := .bool _) rfl ?_ | refine sv (u := .pointer _) rfl ?_); refine sw (szT _ (by decide)) rfl (lb rfl) ?_; clear HS; intro w1 HS1; (simp only [RF.enc, segOf, aL, aZ, aS, putSeg] at HS1); have HS := Aside0.mk HS1; clear HS1)); try simp only [aP, aN, aT, aZ, aS]))
            go_upto_region 9 with (first | ((with_reducible refine gC (b := .append) rfl ?_); refine sh_append (hl := RF.len) (h1 := RF.one) HS.out rfl rfl rfl 3 rfl rfl (Rd.one RF.len (⟨name, b, 0⟩ : RF) (HS.out.blk 4 rfl)) Tryd.underlying58 infoRF rfl (by decide) (by decide) (by rw [HN1.out]; omega) ?_; clear HS; intro v1 w1 S1 HS1; (simp only [aZ, aS] at HS1); rw [HL2.out] at HS1; have HS := Aside0.mk HS1; clear HS1; obtain ⟨A2, c2, rfl, hc2, _⟩ := row_rd HS.out 3 rfl; (try simp only [aP, aN, aT, aZ, aS])) | ((first | ((first | ((with_reducible refine gA rfl ?_); refine sh_alloc HS.out rfl rfl (zeT _ (by decide)) ?_) | ((with_reducible refine gB rfl ?_); refine bx HS.out rfl rfl ?_; first | refine bv (v := .agg (List.toArray _)) rfl ?_ | refine bv (v := .int _ _) rfl ?_ | refine bv (v := .slice _ _ _) rfl ?_ | refine bv (v := .bool _) rfl ?_ | refine bv (v := .pointer _) rfl ?_) | ((with_reducible refine gL rfl ?_); refine sh_lit HS.out rfl rfl (by go_simp; exact ⟨⟨rfl, rfl⟩, rfl⟩) ?_)); clear HS; intro g w1 hg HS1; (simp only [RF.enc, zeF, segOf, aL, aC, aE] at HS1); have HS := Aside0.mk HS1; clear HS1) | ((with_reducible refine gLd rfl ?_); refine ld2 HS.out rfl rfl rfl (by repeat (first | exact AtI.here | apply AtI.there)) ?_; (first | refine LdK.one ((agT _ (by decide)).trans rfl) rfl ?_ | (refine LdK.agg ((agT _ (by decide)).trans rfl) (szT _ (by decide)) (lb rfl) ?_; try simp only [szL, aP, aN, aT, aZ, aS, aD, aF, aJ, aK, aM, aO]))) | ((with_reducible refine gSt rfl ?_); refine st2 HS.out rfl rfl rfl rfl (by repeat (first | exact AtI.here | apply AtI.there)) ?_; (first | refine sv (u := .agg (List.toArray _)) rfl ?_ | refine sv (u := .int _ _) rfl ?_ | refine sv (u := .slice _ _ _) rfl ?_ | refine sv (u := .bool _) rfl ?_ | refine sv (u := .pointer _) rfl ?_); refine sw (szT _ (by decide)) rfl (lb rfl) ?_; clear HS; intro w1 HS1; (simp only [RF.enc, segOf, aL, aZ, aS, putSeg] at HS1); have HS := Aside0.mk HS1; clear HS1)); try simp only [aP, aN, aT, aZ, aS]))
            go_wp2_with (first | ((with_reducible refine gC (b := .append) rfl ?_); refine sh_append (hl := RF.len) (h1 := RF.one) HS.out rfl rfl rfl 3 rfl rfl (show Rd RF.enc 3 _ _ _ (F.drop k) by rw [List.drop_of_length_le (by rw [HM.out]; omega)]; first | exact Rd.nil _ _ _ _ | (rw [Nat.sub_self]; exact Rd.nil _ _ _ _)) Tryd.underlying58 infoRF rfl (by decide) (by decide) (by rw [HN2.out]; omega) ?_; clear HS; intro v1 w1 S1 HS1; (simp only [aZ, aS] at HS1); rw [HL3.out] at HS1; have HS := Aside0.mk HS1; clear HS1; obtain ⟨A3, c3, rfl, hc3, _⟩ := row_rd HS.out 3 rfl; (try simp only [aP, aN, aT, aZ, aS])) | ((first | ((first | ((with_reducible refine gA rfl ?_); refine sh_alloc HS.out rfl rfl (zeT _ (by decide)) ?_) | ((with_reducible refine gB rfl ?_); refine bx HS.out rfl rfl ?_; first | refine bv (v := .agg (List.toArray _)) rfl ?_ | refine bv (v := .int _ _) rfl ?_ | refine bv (v := .slice _ _ _) rfl ?_ | refine bv (v := .bool _) rfl ?_ | refine bv (v := .pointer _) rfl ?_) | ((with_reducible refine gL rfl ?_); refine sh_lit HS.out rfl rfl (by go_simp; exact ⟨⟨rfl, rfl⟩, rfl⟩) ?_)); clear HS; intro g w1 hg HS1; (simp only [RF.enc, zeF, segOf, aL, aC, aE] at HS1); have HS := Aside0.mk HS1; clear HS1) | ((with_reducible refine gLd rfl ?_); refine ld2 HS.out rfl rfl rfl (by repeat (first | exact AtI.here | apply AtI.there)) ?_; (first | refine LdK.one ((agT _ (by decide)).trans rfl) rfl ?_ | (refine LdK.agg ((agT _ (by decide)).trans rfl) (szT _ (by decide)) (lb rfl) ?_; try simp only [szL, aP, aN, aT, aZ, aS, aD, aF, aJ, aK, aM, aO]))) | ((with_reducible refine gSt rfl ?_); refine st2 HS.out rfl rfl rfl rfl (by repeat (first | exact AtI.here | apply AtI.there)) ?_; (first | refine sv (u := .agg (List.toArray _)) rfl ?_ | refine sv (u := .int _ _) rfl ?_ | refine sv (u := .slice _ _ _) rfl ?_ | refine sv (u := .bool _) rfl ?_ | refine sv (u := .pointer _) rfl ?_); refine sw (szT _ (by decide)) rfl (lb rfl) ?_; clear HS; intro w1 HS1; (simp only [RF.enc, segOf, aL, aZ, aS, putSeg] at HS1); have HS := Aside0.mk HS1; clear HS1)); try simp only [aP, aN, aT, aZ, aS]))
            all_goals
              go_end0
              unfold RPutPost
              rw [HA.out, HE.out, HLL.out]
              exact ⟨_, _, _, rfl, HS.out.pick [0, 3, 2] rfl (by decide)⟩
end
end Go.Proofs.YtgcgnhcjjlnloaaDoor.Dk
