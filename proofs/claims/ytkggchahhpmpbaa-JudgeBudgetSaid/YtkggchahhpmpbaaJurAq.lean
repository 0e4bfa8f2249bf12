/- Lemmas towards the law: what of the text JurA it needs. -/
import Derived.Test.YtkggchahhpmpbaaJur8q
import Derived.Test.YtkggchahhpmpbaaJur9q
namespace Go.Proofs.Ytkggchahhpmpbaa.Jue
open Go.RowKit Go.Proofs.YtkggchahhpmpbaaW.PrintWords Go.Proofs.Ytkggchahhpmpbaa.Sl
set_option linter.unusedVariables false
set_option linter.unusedSimpArgs false
theorem zeroBool : (Try.prog.info? 4).bind (·.zero) = some (Value.bool false) := by kernel_rfl
abbrev mpB (g : Nat) (M : List (Int × Bool)) : HP := mp g (Value.int .i64) Value.bool (fun _ : Int => True) M
def BudPost (w : World) (lim : Int) (k : Nat) (e : Ending) (w' : World) : Prop := ∃ (A : Option Addr) (c : Nat) (T : List Cn) (S : Nat → Prop), e = .returned (.tuple #[.slice A T.length c, .int .i64 0]) ∧ Kept lim k T ∧ SH w w' [row cnK 56 (.slice A T.length c) T S]
theorem bud_at (A : Option Addr) (N c : Nat) (lim : Int) (l : List Seen) (k : Nat) (w : World) (hr : Rd Seen.enc 3 w A N l) (hN : N ≤ 1000) (hk : k ≤ N) (hj : (judgeS lim l [] 0).2 = 0 ∨ (k : Int) ≤ (judgeS lim l [] 0).1) : Calls Try.prog 22 #[.int .i64 lim, .slice A k c] w (BudPost w lim k) := by
  have hz := judge_prefix l [] 0 k (hj.imp id (fun h => by omega))
  refine (replay_at A k c lim (l.take k) (-1, 0) _ w (rd_take hr hk) (by omega) hz rfl).mono ?_
  rintro e w' (⟨_, v, S, rfl, HS⟩ | ⟨h, _⟩)
  · obtain ⟨A, c, rfl, _, _⟩ := row_rd HS 0 rfl
    exact ⟨A, c, _, S, rfl, kept_of (by rw [hr.len.1]; exact hk) hz, HS⟩
  · exact absurd rfl h
set_option maxHeartbeats 6400000 in
set_option maxRecDepth 100000 in
theorem lawBudget_any (A : Option Addr) (N c : Nat) (lim : Int) (l : List Seen) (w : World) (hr : Rd Seen.enc 3 w A N l) (hNc : N ≤ c) :
    Calls Try.prog 7 #[.int .i64 lim, .slice A N c] w (fun e w' => e = .returned (.bool true) ∧ Below w.heap.size w w') := by
  obtain rfl := hr.len.1
  have hm := hr.len.2
  have HR := Aside0.mk hr
  clear hr
  have HS := Aside0.mk (SH.start w)
  have HJR := Aside0.mk (judge_range (lim := lim) l [] 0)
  obtain ⟨⟨z1, z2⟩, hz⟩ : ∃ z, judgeS lim l [] 0 = z := ⟨_, rfl⟩
  have HZ := Aside0.mk hz
  rw [hz] at HJR
  clear hz
  go_enter Try.func7, Try.ntmps7
  by_cases h1 : 100 < l.length
  · have h1' : decide ((100 : Int) < (l.length : Int)) = true := by rw [decide_eq_true_eq]; omega
    go_wp2_with (first | (go_at_call 8; (with_reducible refine (judges_ex _).mono ?_); rintro e w2 ⟨rfl, hb⟩;  have HS1 := HS.out.quiet hb; clear HS hb; have HS := Aside0.mk HS1; clear HS1) | ((first | ((first | ((with_reducible refine gA rfl ?_); refine sh_alloc HS.out rfl rfl (zeT _ (by decide)) ?_) | ((with_reducible refine gB rfl ?_); refine bx HS.out rfl rfl ?_; first | refine bv (v := .agg (List.toArray _)) rfl ?_ | refine bv (v := .int _ _) rfl ?_ | refine bv (v := .slice _ _ _) rfl ?_ | refine bv (v := .bool _) rfl ?_ | refine bv (v := .pointer _) rfl ?_ | refine bv (v := .string _) rfl ?_ | refine bv (v := .map _) rfl ?_ | refine bv (v := .func _ _ _) rfl ?_) | ((with_reducible refine gL rfl ?_); refine sh_lit HS.out rfl rfl (by go_simp; exact ⟨⟨rfl, rfl⟩, rfl⟩) ?_)); clear HS; intro g w1 hg HS1; (simp only [Seen.enc, cnEnc, zeF, segOf, aL, aC, aE] at HS1); have HS := Aside0.mk HS1; clear HS1)); try simp only [aP, aN, aT, aZ, aS]))
    go_ret
    exact ⟨rfl, HS.out.below⟩
  · have h1' : decide ((100 : Int) < (l.length : Int)) = false := by rw [decide_eq_false_iff_not]; omega
    have HJJ := Aside0.mk (fun w1 hr => judge_at A l.length c lim l (z1, z2) w1 hr HZ.out)
    unfold JudgePost at HJJ
    by_cases hz2 : z2 = 0
    · obtain rfl : z1 = -1 := by
        rcases HJR.out with h | h
        · exact h.2
        · exact absurd hz2 h.1
      subst hz2
      have HCB := Aside0.mk (fun (k : Nat) (hk : k ≤ l.length) w1 hr => bud_at A l.length c lim l k w1 hr (by omega) hk (.inl (by rw [HZ.out])))
      clear HJR
      obtain ⟨nn, hnn, hnl⟩ : ∃ nn : Nat, nn = l.length ∧ nn ≤ l.length := ⟨_, rfl, Nat.le_refl _⟩
      go_upto_region 12 with (first | (go_at_call 8; (with_reducible refine (judges_ex _).mono ?_); rintro e w2 ⟨rfl, hb⟩;  have HS1 := HS.out.quiet hb; clear HS hb; have HS := Aside0.mk HS1; clear HS1) | (go_at_call 9; (with_reducible refine (HJJ.out _ (HR.out.sh HS.out)).mono ?_); rintro e w2 ⟨rfl, hb⟩;  have HS1 := HS.out.quiet hb; clear HS hb; have HS := Aside0.mk HS1; clear HS1) | ((first | ((first | ((with_reducible refine gA rfl ?_); refine sh_alloc HS.out rfl rfl (zeT _ (by decide)) ?_) | ((with_reducible refine gB rfl ?_); refine bx HS.out rfl rfl ?_; first | refine bv (v := .agg (List.toArray _)) rfl ?_ | refine bv (v := .int _ _) rfl ?_ | refine bv (v := .slice _ _ _) rfl ?_ | refine bv (v := .bool _) rfl ?_ | refine bv (v := .pointer _) rfl ?_ | refine bv (v := .string _) rfl ?_ | refine bv (v := .map _) rfl ?_ | refine bv (v := .func _ _ _) rfl ?_) | ((with_reducible refine gL rfl ?_); refine sh_lit HS.out rfl rfl (by go_simp; exact ⟨⟨rfl, rfl⟩, rfl⟩) ?_)); clear HS; intro g w1 hg HS1; (simp only [Seen.enc, cnEnc, zeF, segOf, aL, aC, aE] at HS1); have HS := Aside0.mk HS1; clear HS1)); try simp only [aP, aN, aT, aZ, aS]))
      clear HJJ
      go_wp2_with (first | ((first | ((first | ((with_reducible refine gA rfl ?_); refine sh_alloc HS.out rfl rfl (zeT _ (by decide)) ?_) | ((with_reducible refine gB rfl ?_); refine bx HS.out rfl rfl ?_; first | refine bv (v := .agg (List.toArray _)) rfl ?_ | refine bv (v := .int _ _) rfl ?_ | refine bv (v := .slice _ _ _) rfl ?_ | refine bv (v := .bool _) rfl ?_ | refine bv (v := .pointer _) rfl ?_ | refine bv (v := .string _) rfl ?_ | refine bv (v := .map _) rfl ?_ | refine bv (v := .func _ _ _) rfl ?_) | ((with_reducible refine gL rfl ?_); refine sh_lit HS.out rfl rfl (by go_simp; exact ⟨⟨rfl, rfl⟩, rfl⟩) ?_)); clear HS; intro g w1 hg HS1; (simp only [Seen.enc, cnEnc, zeF, segOf, aL, aC, aE] at HS1); have HS := Aside0.mk HS1; clear HS1)); try simp only [aP, aN, aT, aZ, aS]))
      go_loopw [9] (fun v9 wr => ∃ k : Nat, k ≤ nn + 1 ∧ v9 = .int .i64 k ∧ Aside0 (SH w wr [])) (fun v9 _ => nn + 1 - (intOf v9).toNat)
      case atStart => exact ⟨0, Nat.zero_le _, rfl, ⟨HS.out.pick [] rfl (by decide)⟩⟩
      case round =>
        clear HS
        obtain ⟨k, hk, rfl, HS⟩ := hrel
        by_cases hkn : k ≤ nn
        · have hkn' : decide ((k : Int) ≤ (l.length : Int)) = true := by rw [decide_eq_true_eq]; omega
          go_upto_region 16 with (first | (go_at_call 22; (with_reducible refine (HCB.out k (by omega) _ (HR.out.sh HS.out)).mono ?_); rintro e w2 ⟨A1, c1, T, S, rfl, hkept, HS1⟩; have HK := Aside0.mk hkept; clear hkept; have HS2 := HS.out.call HS1; clear HS HS1; simp only [aC, aE] at HS2; have HS := Aside0.mk HS2; clear HS2) | ((first | ((first | ((with_reducible refine gA rfl ?_); refine sh_alloc HS.out rfl rfl (zeT _ (by decide)) ?_) | ((with_reducible refine gB rfl ?_); refine bx HS.out rfl rfl ?_; first | refine bv (v := .agg (List.toArray _)) rfl ?_ | refine bv (v := .int _ _) rfl ?_ | refine bv (v := .slice _ _ _) rfl ?_ | refine bv (v := .bool _) rfl ?_ | refine bv (v := .pointer _) rfl ?_ | refine bv (v := .string _) rfl ?_ | refine bv (v := .map _) rfl ?_ | refine bv (v := .func _ _ _) rfl ?_) | ((with_reducible refine gL rfl ?_); refine sh_lit HS.out rfl rfl (by go_simp; exact ⟨⟨rfl, rfl⟩, rfl⟩) ?_)); clear HS; intro g w1 hg HS1; (simp only [Seen.enc, cnEnc, zeF, segOf, aL, aC, aE] at HS1); have HS := Aside0.mk HS1; clear HS1)); try simp only [aP, aN, aT, aZ, aS]))
          have hTl : T.length ≤ 9223372036854775807 := (row_rds (hl := cnLen) (h1 := cnOne) 0 rfl _ HS.out).len.2
          have hq2 : k = 0 ∨ (0 < k ∧ decide (lim < (T.length : Int)) = false) := by
            rcases Nat.eq_zero_or_pos k with h | h
            · exact .inl h
            · exact .inr ⟨h, by rw [decide_eq_false_iff_not]; have := HK.out.le h; omega⟩
          rcases hq2 with rfl | ⟨hk0, hq3⟩
          all_goals
            try have hk0' : decide ((0 : Int) < (k : Int)) = true := by rw [decide_eq_true_eq]; omega
            go_wp2_with (first | ((fail_if_success (have _ := gm)); ((with_reducible refine gMm rfl ?_); refine sh_makeMap HS.out rfl rfl (Value.int .i64) Value.bool (fun _ : Int => True) ?_; clear HS; intro gm w1 hgm HS1; (simp only [aC, aE] at HS1); have HS := Aside0.mk HS1; clear HS1; try simp only [aP, aN, aT, aZ, aS])) | ((first | ((first | ((with_reducible refine gA rfl ?_); refine sh_alloc HS.out rfl rfl (zeT _ (by decide)) ?_) | ((with_reducible refine gB rfl ?_); refine bx HS.out rfl rfl ?_; first | refine bv (v := .agg (List.toArray _)) rfl ?_ | refine bv (v := .int _ _) rfl ?_ | refine bv (v := .slice _ _ _) rfl ?_ | refine bv (v := .bool _) rfl ?_ | refine bv (v := .pointer _) rfl ?_ | refine bv (v := .string _) rfl ?_ | refine bv (v := .map _) rfl ?_ | refine bv (v := .func _ _ _) rfl ?_) | ((with_reducible refine gL rfl ?_); refine sh_lit HS.out rfl rfl (by go_simp; exact ⟨⟨rfl, rfl⟩, rfl⟩) ?_)); clear HS; intro g w1 hg HS1; (simp only [Seen.enc, cnEnc, zeF, segOf, aL, aC, aE] at HS1); have HS := Aside0.mk HS1; clear HS1)); try simp only [aP, aN, aT, aZ, aS]))
            go_loopw [14, 68] (fun _ v68 wr => ∃ (j : Nat) (M : List (Int × Bool)), j ≤ T.length ∧ v68 = .int .i64 j ∧ Aside0 (∀ t, (mget M t).getD false = (T.take j).any (fun c => c.2 == t)) ∧ Aside0 (SH w wr [row cnK 56 (.slice A1 T.length c1) T S, mpB gm M])) (fun _ v68 _ => T.length - (intOf v68).toNat)
            case atStart => exact ⟨0, [], Nat.zero_le _, rfl, ⟨fun t => rfl⟩, HS⟩
            case round =>
              clear HS
              obtain ⟨j, M, hj, rfl, HM, HS⟩ := hrel
              by_cases hjl : j < T.length
              · have hrd := row_rds (hl := cnLen) (h1 := cnOne) 0 rfl _ HS.out
                obtain ⟨ad1, rfl⟩ := hrd.addr (by omega)
                obtain ⟨y, hy⟩ : ∃ y, T.getD j default = y := ⟨_, rfl⟩
                have HY := Aside0.mk hy
                have HRL := Aside0.mk hrd
                have HSU := Aside0.mk (fun p => any_succ p hjl hy)
                have HG := Aside0.mk ((HM.out y.2).trans (nodup_take_any HK.out.nd hjl hy))
                have hyt := HK.out.tok y (by rw [← hy, List.getD_eq_getElem?_getD, List.getElem?_eq_getElem hjl]; exact List.getElem_mem hjl)
                have hy1 : decide (y.2 < 1) = false := by rw [decide_eq_false_iff_not]; omega
                have hy2 : decide (lim < y.2) = false := by rw [decide_eq_false_iff_not]; omega
                clear hy hrd hyt
                go_wp2_with (first | ((with_reducible refine gLd rfl ?_); refine rd_load HRL.out rfl rfl (i := j) rfl hjl default cnLen ((agT _ (by decide)).trans rfl) (szT _ (by decide)) ?_; intro x hx; obtain rfl := HY.out.symm.trans hx; (try simp only [Seen.enc, cnEnc, aP, aN, aT, aZ, aS])) | (((with_reducible refine gLk rfl ?_); refine sh_lookup HS.out rfl rfl rfl 1 rfl y.2 rfl trivial Try.underlying57 ownKeyOK (z := false) zeroBool ?_; try simp only [aP, aN, aT, aZ, aS]); rw [HG.out]) | ((with_reducible refine gMu rfl ?_); refine sh_update HS.out rfl rfl rfl rfl 1 rfl y.2 rfl trivial true rfl Try.underlying57 ownKeyOK ?_; clear HS; intro w1 HS1; (simp only [aZ, aS] at HS1); have HS := Aside0.mk HS1; clear HS1; try simp only [aP, aN, aT, aZ, aS]) | ((first | ((first | ((with_reducible refine gA rfl ?_); refine sh_alloc HS.out rfl rfl (zeT _ (by decide)) ?_) | ((with_reducible refine gB rfl ?_); refine bx HS.out rfl rfl ?_; first | refine bv (v := .agg (List.toArray _)) rfl ?_ | refine bv (v := .int _ _) rfl ?_ | refine bv (v := .slice _ _ _) rfl ?_ | refine bv (v := .bool _) rfl ?_ | refine bv (v := .pointer _) rfl ?_ | refine bv (v := .string _) rfl ?_ | refine bv (v := .map _) rfl ?_ | refine bv (v := .func _ _ _) rfl ?_) | ((with_reducible refine gL rfl ?_); refine sh_lit HS.out rfl rfl (by go_simp; exact ⟨⟨rfl, rfl⟩, rfl⟩) ?_)); clear HS; intro g w1 hg HS1; (simp only [Seen.enc, cnEnc, zeF, segOf, aL, aC, aE] at HS1); have HS := Aside0.mk HS1; clear HS1) | ((with_reducible refine gLd rfl ?_); refine ld2 HS.out rfl rfl rfl (by repeat (first | exact AtI.here | apply AtI.there)) ?_; (first | refine LdK.one ((agT _ (by decide)).trans rfl) rfl ?_ | (refine LdK.agg ((agT _ (by decide)).trans rfl) (szT _ (by decide)) (lb rfl) ?_; try simp only [szL, aP, aN, aT, aZ, aS, aD, aF, aJ, aK, aM, aO]))) | ((with_reducible refine gSt rfl ?_); refine st2 HS.out rfl rfl rfl rfl (by repeat (first | exact AtI.here | apply AtI.there)) ?_; (first | refine sv (u := .agg (List.toArray _)) rfl ?_ | refine sv (u := .int _ _) rfl ?_ | refine sv (u := .slice _ _ _) rfl ?_ | refine sv (u := .bool _) rfl ?_ | refine sv (u := .pointer _) rfl ?_ | refine sv (u := .string _) rfl ?_ | refine sv (u := .map _) rfl ?_ | refine sv (u := .func _ _ _) rfl ?_); refine sw (szT _ (by decide)) rfl (lb rfl) ?_; clear HS; intro w1 HS1; (simp only [Seen.enc, cnEnc, segOf, aL, aZ, aS, putSeg] at HS1); have HS := Aside0.mk HS1; clear HS1)); try simp only [aP, aN, aT, aZ, aS]))
                go_roundw
                case rel =>
                  refine ⟨j + 1, _, by omega, by go_num, ⟨fun t => ?_⟩, ⟨HS.out.pick [0, 1] rfl (by decide)⟩⟩
                  rw [HSU.out, mget_put, ← HM.out]
                  by_cases e : y.2 = t
                  · subst e
                    simp
                  · have e' : (y.2 == t) = false := beq_eq_false_iff_ne.2 e
                    rw [if_neg e, e', Bool.or_false]
                case measure => simp [intOf]; omega
              · obtain rfl : j = T.length := by omega
                go_wp2_with (first | ((first | ((first | ((with_reducible refine gA rfl ?_); refine sh_alloc HS.out rfl rfl (zeT _ (by decide)) ?_) | ((with_reducible refine gB rfl ?_); refine bx HS.out rfl rfl ?_; first | refine bv (v := .agg (List.toArray _)) rfl ?_ | refine bv (v := .int _ _) rfl ?_ | refine bv (v := .slice _ _ _) rfl ?_ | refine bv (v := .bool _) rfl ?_ | refine bv (v := .pointer _) rfl ?_ | refine bv (v := .string _) rfl ?_ | refine bv (v := .map _) rfl ?_ | refine bv (v := .func _ _ _) rfl ?_) | ((with_reducible refine gL rfl ?_); refine sh_lit HS.out rfl rfl (by go_simp; exact ⟨⟨rfl, rfl⟩, rfl⟩) ?_)); clear HS; intro g w1 hg HS1; (simp only [Seen.enc, cnEnc, zeF, segOf, aL, aC, aE] at HS1); have HS := Aside0.mk HS1; clear HS1)); try simp only [aP, aN, aT, aZ, aS]))
                go_roundw
                case rel =>
                  have HSE := Aside0.mk (show SH w wr [] from HS.out.pick [] rfl (by decide))
                  first | exact ⟨k + 1, by omega, by go_num, HSE⟩ | exact ⟨1, by omega, by go_num, HSE⟩
                case measure => (try simp [intOf]); (try omega)
        · obtain rfl : k = nn + 1 := by omega
          have hkn' : decide (((nn + 1 : Nat) : Int) ≤ (l.length : Int)) = false := by rw [decide_eq_false_iff_not]; omega
          go_wp2_with (first | ((first | ((first | ((with_reducible refine gA rfl ?_); refine sh_alloc HS.out rfl rfl (zeT _ (by decide)) ?_) | ((with_reducible refine gB rfl ?_); refine bx HS.out rfl rfl ?_; first | refine bv (v := .agg (List.toArray _)) rfl ?_ | refine bv (v := .int _ _) rfl ?_ | refine bv (v := .slice _ _ _) rfl ?_ | refine bv (v := .bool _) rfl ?_ | refine bv (v := .pointer _) rfl ?_ | refine bv (v := .string _) rfl ?_ | refine bv (v := .map _) rfl ?_ | refine bv (v := .func _ _ _) rfl ?_) | ((with_reducible refine gL rfl ?_); refine sh_lit HS.out rfl rfl (by go_simp; exact ⟨⟨rfl, rfl⟩, rfl⟩) ?_)); clear HS; intro g w1 hg HS1; (simp only [Seen.enc, cnEnc, zeF, segOf, aL, aC, aE] at HS1); have HS := Aside0.mk HS1; clear HS1)); try simp only [aP, aN, aT, aZ, aS]))
          go_ret
          exact ⟨rfl, HS.out.below⟩
    · obtain ⟨nn, rfl, hnl⟩ : ∃ nn : Nat, z1 = (nn : Int) ∧ nn < l.length := by
        rcases HJR.out with h | h
        · exact absurd h.1 hz2
        · obtain ⟨_, h2, h3⟩ := h
          obtain ⟨m, hm⟩ := Int.eq_ofNat_of_zero_le h2
          exact ⟨m, hm, by simp only at hm h3; omega⟩
      have hq : (z2 != 0) = true := by rw [bne_iff_ne]; exact hz2
      have HCB := Aside0.mk (fun (k : Nat) (hk : k ≤ nn) w1 hr => bud_at A l.length c lim l k w1 hr (by omega) (by omega) (.inr (by rw [HZ.out]; simp only; omega)))
      clear HJR hz2
      have hb3 : decide (l.length ≤ nn) = false := by rw [decide_eq_false_iff_not]; omega
      have hb1 : decide ((nn : Int) < 0) = false := by rw [decide_eq_false_iff_not]; omega
      have hb2 : decide ((l.length : Int) ≤ (nn : Int)) = false := by rw [decide_eq_false_iff_not]; omega
      go_upto_region 12 with (first | (go_at_call 8; (with_reducible refine (judges_ex _).mono ?_); rintro e w2 ⟨rfl, hb⟩;  have HS1 := HS.out.quiet hb; clear HS hb; have HS := Aside0.mk HS1; clear HS1) | (go_at_call 9; (with_reducible refine (HJJ.out _ (HR.out.sh HS.out)).mono ?_); rintro e w2 ⟨rfl, hb⟩;  have HS1 := HS.out.quiet hb; clear HS hb; have HS := Aside0.mk HS1; clear HS1) | ((first | ((first | ((with_reducible refine gA rfl ?_); refine sh_alloc HS.out rfl rfl (zeT _ (by decide)) ?_) | ((with_reducible refine gB rfl ?_); refine bx HS.out rfl rfl ?_; first | refine bv (v := .agg (List.toArray _)) rfl ?_ | refine bv (v := .int _ _) rfl ?_ | refine bv (v := .slice _ _ _) rfl ?_ | refine bv (v := .bool _) rfl ?_ | refine bv (v := .pointer _) rfl ?_ | refine bv (v := .string _) rfl ?_ | refine bv (v := .map _) rfl ?_ | refine bv (v := .func _ _ _) rfl ?_) | ((with_reducible refine gL rfl ?_); refine sh_lit HS.out rfl rfl (by go_simp; exact ⟨⟨rfl, rfl⟩, rfl⟩) ?_)); clear HS; intro g w1 hg HS1; (simp only [Seen.enc, cnEnc, zeF, segOf, aL, aC, aE] at HS1); have HS := Aside0.mk HS1; clear HS1)); try simp only [aP, aN, aT, aZ, aS]))
      clear HJJ
      go_wp2_with (first | ((first | ((first | ((with_reducible refine gA rfl ?_); refine sh_alloc HS.out rfl rfl (zeT _ (by decide)) ?_) | ((with_reducible refine gB rfl ?_); refine bx HS.out rfl rfl ?_; first | refine bv (v := .agg (List.toArray _)) rfl ?_ | refine bv (v := .int _ _) rfl ?_ | refine bv (v := .slice _ _ _) rfl ?_ | refine bv (v := .bool _) rfl ?_ | refine bv (v := .pointer _) rfl ?_ | refine bv (v := .string _) rfl ?_ | refine bv (v := .map _) rfl ?_ | refine bv (v := .func _ _ _) rfl ?_) | ((with_reducible refine gL rfl ?_); refine sh_lit HS.out rfl rfl (by go_simp; exact ⟨⟨rfl, rfl⟩, rfl⟩) ?_)); clear HS; intro g w1 hg HS1; (simp only [Seen.enc, cnEnc, zeF, segOf, aL, aC, aE] at HS1); have HS := Aside0.mk HS1; clear HS1)); try simp only [aP, aN, aT, aZ, aS]))
      go_loopw [9] (fun v9 wr => ∃ k : Nat, k ≤ nn + 1 ∧ v9 = .int .i64 k ∧ Aside0 (SH w wr [])) (fun v9 _ => nn + 1 - (intOf v9).toNat)
      case atStart => exact ⟨0, Nat.zero_le _, rfl, ⟨HS.out.pick [] rfl (by decide)⟩⟩
      case round =>
        clear HS
        obtain ⟨k, hk, rfl, HS⟩ := hrel
        by_cases hkn : k ≤ nn
        · have hkn' : decide ((k : Int) ≤ (nn : Int)) = true := by rw [decide_eq_true_eq]; omega
          go_upto_region 16 with (first | (go_at_call 22; (with_reducible refine (HCB.out k (by omega) _ (HR.out.sh HS.out)).mono ?_); rintro e w2 ⟨A1, c1, T, S, rfl, hkept, HS1⟩; have HK := Aside0.mk hkept; clear hkept; have HS2 := HS.out.call HS1; clear HS HS1; simp only [aC, aE] at HS2; have HS := Aside0.mk HS2; clear HS2) | ((first | ((first | ((with_reducible refine gA rfl ?_); refine sh_alloc HS.out rfl rfl (zeT _ (by decide)) ?_) | ((with_reducible refine gB rfl ?_); refine bx HS.out rfl rfl ?_; first | refine bv (v := .agg (List.toArray _)) rfl ?_ | refine bv (v := .int _ _) rfl ?_ | refine bv (v := .slice _ _ _) rfl ?_ | refine bv (v := .bool _) rfl ?_ | refine bv (v := .pointer _) rfl ?_ | refine bv (v := .string _) rfl ?_ | refine bv (v := .map _) rfl ?_ | refine bv (v := .func _ _ _) rfl ?_) | ((with_reducible refine gL rfl ?_); refine sh_lit HS.out rfl rfl (by go_simp; exact ⟨⟨rfl, rfl⟩, rfl⟩) ?_)); clear HS; intro g w1 hg HS1; (simp only [Seen.enc, cnEnc, zeF, segOf, aL, aC, aE] at HS1); have HS := Aside0.mk HS1; clear HS1)); try simp only [aP, aN, aT, aZ, aS]))
          have hTl : T.length ≤ 9223372036854775807 := (row_rds (hl := cnLen) (h1 := cnOne) 0 rfl _ HS.out).len.2
          have hq2 : k = 0 ∨ (0 < k ∧ decide (lim < (T.length : Int)) = false) := by
            rcases Nat.eq_zero_or_pos k with h | h
            · exact .inl h
            · exact .inr ⟨h, by rw [decide_eq_false_iff_not]; have := HK.out.le h; omega⟩
          rcases hq2 with rfl | ⟨hk0, hq3⟩
          all_goals
            try have hk0' : decide ((0 : Int) < (k : Int)) = true := by rw [decide_eq_true_eq]; omega
            go_wp2_with (first | ((fail_if_success (have _ := gm)); ((with_reducible refine gMm rfl ?_); refine sh_makeMap HS.out rfl rfl (Value.int .i64) Value.bool (fun _ : Int => True) ?_; clear HS; intro gm w1 hgm HS1; (simp only [aC, aE] at HS1); have HS := Aside0.mk HS1; clear HS1; try simp only [aP, aN, aT, aZ, aS])) | ((first | ((first | ((with_reducible refine gA rfl ?_); refine sh_alloc HS.out rfl rfl (zeT _ (by decide)) ?_) | ((with_reducible refine gB rfl ?_); refine bx HS.out rfl rfl ?_; first | refine bv (v := .agg (List.toArray _)) rfl ?_ | refine bv (v := .int _ _) rfl ?_ | refine bv (v := .slice _ _ _) rfl ?_ | refine bv (v := .bool _) rfl ?_ | refine bv (v := .pointer _) rfl ?_ | refine bv (v := .string _) rfl ?_ | refine bv (v := .map _) rfl ?_ | refine bv (v := .func _ _ _) rfl ?_) | ((with_reducible refine gL rfl ?_); refine sh_lit HS.out rfl rfl (by go_simp; exact ⟨⟨rfl, rfl⟩, rfl⟩) ?_)); clear HS; intro g w1 hg HS1; (simp only [Seen.enc, cnEnc, zeF, segOf, aL, aC, aE] at HS1); have HS := Aside0.mk HS1; clear HS1)); try simp only [aP, aN, aT, aZ, aS]))
            go_loopw [14, 68] (fun _ v68 wr => ∃ (j : Nat) (M : List (Int × Bool)), j ≤ T.length ∧ v68 = .int .i64 j ∧ Aside0 (∀ t, (mget M t).getD false = (T.take j).any (fun c => c.2 == t)) ∧ Aside0 (SH w wr [row cnK 56 (.slice A1 T.length c1) T S, mpB gm M])) (fun _ v68 _ => T.length - (intOf v68).toNat)
            case atStart => exact ⟨0, [], Nat.zero_le _, rfl, ⟨fun t => rfl⟩, HS⟩
            case round =>
              clear HS
              obtain ⟨j, M, hj, rfl, HM, HS⟩ := hrel
              by_cases hjl : j < T.length
              · have hrd := row_rds (hl := cnLen) (h1 := cnOne) 0 rfl _ HS.out
                obtain ⟨ad1, rfl⟩ := hrd.addr (by omega)
                obtain ⟨y, hy⟩ : ∃ y, T.getD j default = y := ⟨_, rfl⟩
                have HY := Aside0.mk hy
                have HRL := Aside0.mk hrd
                have HSU := Aside0.mk (fun p => any_succ p hjl hy)
                have HG := Aside0.mk ((HM.out y.2).trans (nodup_take_any HK.out.nd hjl hy))
                have hyt := HK.out.tok y (by rw [← hy, List.getD_eq_getElem?_getD, List.getElem?_eq_getElem hjl]; exact List.getElem_mem hjl)
                have hy1 : decide (y.2 < 1) = false := by rw [decide_eq_false_iff_not]; omega
                have hy2 : decide (lim < y.2) = false := by rw [decide_eq_false_iff_not]; omega
                clear hy hrd hyt
                go_wp2_with (first | ((with_reducible refine gLd rfl ?_); refine rd_load HRL.out rfl rfl (i := j) rfl hjl default cnLen ((agT _ (by decide)).trans rfl) (szT _ (by decide)) ?_; intro x hx; obtain rfl := HY.out.symm.trans hx; (try simp only [Seen.enc, cnEnc, aP, aN, aT, aZ, aS])) | (((with_reducible refine gLk rfl ?_); refine sh_lookup HS.out rfl rfl rfl 1 rfl y.2 rfl trivial Try.underlying57 ownKeyOK (z := false) zeroBool ?_; try simp only [aP, aN, aT, aZ, aS]); rw [HG.out]) | ((with_reducible refine gMu rfl ?_); refine sh_update HS.out rfl rfl rfl rfl 1 rfl y.2 rfl trivial true rfl Try.underlying57 ownKeyOK ?_; clear HS; intro w1 HS1; (simp only [aZ, aS] at HS1); have HS := Aside0.mk HS1; clear HS1; try simp only [aP, aN, aT, aZ, aS]) | ((first | ((first | ((with_reducible refine gA rfl ?_); refine sh_alloc HS.out rfl rfl (zeT _ (by decide)) ?_) | ((with_reducible refine gB rfl ?_); refine bx HS.out rfl rfl ?_; first | refine bv (v := .agg (List.toArray _)) rfl ?_ | refine bv (v := .int _ _) rfl ?_ | refine bv (v := .slice _ _ _) rfl ?_ | refine bv (v := .bool _) rfl ?_ | refine bv (v := .pointer _) rfl ?_ | refine bv (v := .string _) rfl ?_ | refine bv (v := .map _) rfl ?_ | refine bv (v := .func _ _ _) rfl ?_) | ((with_reducible refine gL rfl ?_); refine sh_lit HS.out rfl rfl (by go_simp; exact ⟨⟨rfl, rfl⟩, rfl⟩) ?_)); clear HS; intro g w1 hg HS1; (simp only [Seen.enc, cnEnc, zeF, segOf, aL, aC, aE] at HS1); have HS := Aside0.mk HS1; clear HS1) | ((with_reducible refine gLd rfl ?_); refine ld2 HS.out rfl rfl rfl (by repeat (first | exact AtI.here | apply AtI.there)) ?_; (first | refine LdK.one ((agT _ (by decide)).trans rfl) rfl ?_ | (refine LdK.agg ((agT _ (by decide)).trans rfl) (szT _ (by decide)) (lb rfl) ?_; try simp only [szL, aP, aN, aT, aZ, aS, aD, aF, aJ, aK, aM, aO]))) | ((with_reducible refine gSt rfl ?_); refine st2 HS.out rfl rfl rfl rfl (by repeat (first | exact AtI.here | apply AtI.there)) ?_; (first | refine sv (u := .agg (List.toArray _)) rfl ?_ | refine sv (u := .int _ _) rfl ?_ | refine sv (u := .slice _ _ _) rfl ?_ | refine sv (u := .bool _) rfl ?_ | refine sv (u := .pointer _) rfl ?_ | refine sv (u := .string _) rfl ?_ | refine sv (u := .map _) rfl ?_ | refine sv (u := .func _ _ _) rfl ?_); refine sw (szT _ (by decide)) rfl (lb rfl) ?_; clear HS; intro w1 HS1; (simp only [Seen.enc, cnEnc, segOf, aL, aZ, aS, putSeg] at HS1); have HS := Aside0.mk HS1; clear HS1)); try simp only [aP, aN, aT, aZ, aS]))
                go_roundw
                case rel =>
                  refine ⟨j + 1, _, by omega, by go_num, ⟨fun t => ?_⟩, ⟨HS.out.pick [0, 1] rfl (by decide)⟩⟩
                  rw [HSU.out, mget_put, ← HM.out]
                  by_cases e : y.2 = t
                  · subst e
                    simp
                  · have e' : (y.2 == t) = false := beq_eq_false_iff_ne.2 e
                    rw [if_neg e, e', Bool.or_false]
                case measure => simp [intOf]; omega
              · obtain rfl : j = T.length := by omega
                go_wp2_with (first | ((first | ((first | ((with_reducible refine gA rfl ?_); refine sh_alloc HS.out rfl rfl (zeT _ (by decide)) ?_) | ((with_reducible refine gB rfl ?_); refine bx HS.out rfl rfl ?_; first | refine bv (v := .agg (List.toArray _)) rfl ?_ | refine bv (v := .int _ _) rfl ?_ | refine bv (v := .slice _ _ _) rfl ?_ | refine bv (v := .bool _) rfl ?_ | refine bv (v := .pointer _) rfl ?_ | refine bv (v := .string _) rfl ?_ | refine bv (v := .map _) rfl ?_ | refine bv (v := .func _ _ _) rfl ?_) | ((with_reducible refine gL rfl ?_); refine sh_lit HS.out rfl rfl (by go_simp; exact ⟨⟨rfl, rfl⟩, rfl⟩) ?_)); clear HS; intro g w1 hg HS1; (simp only [Seen.enc, cnEnc, zeF, segOf, aL, aC, aE] at HS1); have HS := Aside0.mk HS1; clear HS1)); try simp only [aP, aN, aT, aZ, aS]))
                go_roundw
                case rel =>
                  have HSE := Aside0.mk (show SH w wr [] from HS.out.pick [] rfl (by decide))
                  first | exact ⟨k + 1, by omega, by go_num, HSE⟩ | exact ⟨1, by omega, by go_num, HSE⟩
                case measure => (try simp [intOf]); (try omega)
        · obtain rfl : k = nn + 1 := by omega
          have hkn' : decide (((nn + 1 : Nat) : Int) ≤ (nn : Int)) = false := by rw [decide_eq_false_iff_not]; omega
          go_wp2_with (first | ((first | ((first | ((with_reducible refine gA rfl ?_); refine sh_alloc HS.out rfl rfl (zeT _ (by decide)) ?_) | ((with_reducible refine gB rfl ?_); refine bx HS.out rfl rfl ?_; first | refine bv (v := .agg (List.toArray _)) rfl ?_ | refine bv (v := .int _ _) rfl ?_ | refine bv (v := .slice _ _ _) rfl ?_ | refine bv (v := .bool _) rfl ?_ | refine bv (v := .pointer _) rfl ?_ | refine bv (v := .string _) rfl ?_ | refine bv (v := .map _) rfl ?_ | refine bv (v := .func _ _ _) rfl ?_) | ((with_reducible refine gL rfl ?_); refine sh_lit HS.out rfl rfl (by go_simp; exact ⟨⟨rfl, rfl⟩, rfl⟩) ?_)); clear HS; intro g w1 hg HS1; (simp only [Seen.enc, cnEnc, zeF, segOf, aL, aC, aE] at HS1); have HS := Aside0.mk HS1; clear HS1)); try simp only [aP, aN, aT, aZ, aS]))
          go_ret
          exact ⟨rfl, HS.out.below⟩
namespace LawBudget
theorem walk (W : World) (cs0 : List Value) (x0 : (Sh.int .i64).D) (hk0 : (Sh.int .i64).kd.K W x0 cs0) (hw0 : (Sh.int .i64).wf x0) (hz0 : (Sh.int .i64).sized Try.prog x0) (cs1 : List Value) (x1 : seensS.D) (hk1 : seensS.kd.K W x1 cs1) (hw1 : seensS.wf x1) (hz1 : seensS.sized Try.prog x1) :
    Calls Try.prog 7 #[(Sh.int .i64).val cs0, seensS.val cs1] W fun e W' => e = .returned (.bool true) ∧ Below W.heap.size W W' := by
  obtain rfl : cs0 = [.int .i64 x0] := hk0
  obtain ⟨A, c, rfl, hl, hC⟩ := hk1
  have h1 := C_map hC toSeen (sz := 3) rfl (fun y cs hy => seenS_K y cs hy)
  exact lawBudget_any A _ c x0 _ W h1 hl
end LawBudget
end Go.Proofs.Ytkggchahhpmpbaa.Jue
