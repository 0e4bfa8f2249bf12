/- Lemmas towards the law: what of the text Jur7 it needs. -/
import Derived.Test.YtkggchahhpmpbaaJur6q
namespace Go.Proofs.Ytkggchahhpmpbaa.Jue
open Go.RowKit Go.Proofs.YtkggchahhpmpbaaW.PrintWords Go.Proofs.Ytkggchahhpmpbaa.Sl
set_option linter.unusedVariables false
set_option linter.unusedSimpArgs false
theorem ok_nodup {lim : Int} : ∀ (l : List Seen) (L : List Cn) (i : Int), L.Nodup → (judgeS lim l L i).2 = 0 → (l.foldl nextS L).Nodup
  | [], L, i, h, _ => h
  | s :: l, L, i, h, hj => by
    unfold judgeS at hj
    split at hj
    · rename_i he
      refine ok_nodup l (nextS L s) (i + 1) ?_ hj
      unfold nextS
      split
      · rename_i hk
        rw [List.nodup_append]
        refine ⟨h, by simp, fun x hx y hy => ?_⟩
        rw [List.mem_singleton] at hy
        subst hy
        rintro rfl
        unfold errS at he
        split at he
        · cases he
        · rw [if_neg (by omega), if_neg (by omega)] at he
          first | (rw [if_pos hx] at he; cases he) | (simp [hx] at he)
      · exact h.filter _
    · rename_i he
      exact absurd hj he
theorem replay_ok {w w' : World} {z : Int × Int} {L : List Cn} {e : Ending} {v : Value} {S : Nat → Prop} (hz : z.2 = 0) (he : e = .returned (.tuple #[v, .int .i64 0])) (HS : SH w w' [row cnK 56 v (sortC L) S]) : ReplayPost w z L e w' := .inl ⟨hz, v, S, he, HS⟩
theorem replay_bad {w w' : World} {z : Int × Int} {L : List Cn} {e : Ending} (hz : z.2 ≠ 0) (he : e = .returned (.tuple #[.slice none 0 0, .int .i64 z.2])) (hb : Below w.heap.size w w') : ReplayPost w z L e w' := .inr ⟨hz, he, hb⟩
def lenV : Value → Nat
  | .slice _ n _ => n
  | _ => 0
set_option maxHeartbeats 12800000 in
set_option maxRecDepth 100000 in
theorem refReplay_any (A : Option Addr) (N c : Nat) (lim : Int) (l : List Seen) (w : World) (hr : Rd Seen.enc 3 w A N l) (hN : N ≤ 1000) (hNc : N ≤ c) :
    Calls Try.prog 23 #[.int .i64 lim, .slice A N c] w (ReplayPost w (judgeS lim l [] 0) (openS l)) := by
  have hlen := openS_le l
  rw [hr.len.1] at hlen
  have HGOOD := Aside0.mk (fun h => And.intro (ok_nodup (lim := lim) l [] 0 List.nodup_nil h) (open_good (lim := lim) (l := l) h))
  have HJ := Aside0.mk (fun w1 hr => refJudge_any A N c lim l w1 hr hN hNc)
  have HO := Aside0.mk (fun w1 hr => refOpen_any A N c l w1 hr hN)
  have HR := Aside0.mk hr
  clear hr
  have HS := Aside0.mk (SH.start w)
  obtain ⟨z, hz⟩ : ∃ z, judgeS lim l [] 0 = z := ⟨_, rfl⟩
  obtain ⟨L, hL⟩ : ∃ L, openS l = L := ⟨_, rfl⟩
  have hL' : l.foldl nextS [] = L := hL
  rw [hz, hL, hL'] at HGOOD
  rw [hz] at HJ
  rw [hL] at HO hlen
  rw [hz, hL]
  clear hz hL hL'
  unfold JudgePost at HJ
  go_enter Try.func23, Try.ntmps23
  by_cases hz2 : z.2 = 0
  · have hq : (z.2 != 0) = false := by rw [hz2]; rfl
    have HZ := Aside0.mk hz2
    have HND := Aside0.mk (HGOOD.out hz2).1
    have HGD := Aside0.mk (HGOOD.out hz2).2
    clear hz2 HGOOD
    go_upto_region 5 with (first | (go_at_call 10; (with_reducible refine (HJ.out _ (HR.out.sh HS.out)).mono ?_); rintro e w2 ⟨rfl, hb⟩;  have HS1 := HS.out.quiet hb; clear HS hb; have HS := Aside0.mk HS1; clear HS1) | (go_at_call 40; (with_reducible refine (HO.out _ (HR.out.sh HS.out)).mono ?_); rintro e w2 ⟨v, S, rfl, HS1⟩; obtain ⟨A1, c1, rfl, hc1, _⟩ := row_rd HS1 0 rfl; have HS2 := HS.out.call HS1; clear HS HS1; simp only [aC, aE] at HS2; have HS := Aside0.mk HS2; clear HS2) | ((first | ((first | ((with_reducible refine gA rfl ?_); refine sh_alloc HS.out rfl rfl (zeT _ (by decide)) ?_) | ((with_reducible refine gB rfl ?_); refine bx HS.out rfl rfl ?_; first | refine bv (v := .agg (List.toArray _)) rfl ?_ | refine bv (v := .int _ _) rfl ?_ | refine bv (v := .slice _ _ _) rfl ?_ | refine bv (v := .bool _) rfl ?_ | refine bv (v := .pointer _) rfl ?_ | refine bv (v := .string _) rfl ?_ | refine bv (v := .map _) rfl ?_ | refine bv (v := .func _ _ _) rfl ?_) | ((with_reducible refine gL rfl ?_); refine sh_lit HS.out rfl rfl (by go_simp; exact ⟨⟨rfl, rfl⟩, rfl⟩) ?_)); clear HS; intro g w1 hg HS1; (simp only [Seen.enc, cnEnc, zeF, segOf, aL, aC, aE] at HS1); have HS := Aside0.mk HS1; clear HS1)); try simp only [aP, aN, aT, aZ, aS]))
    have HSN := HS.out.nil cnK 56
    simp only [aC, aE] at HSN
    clear HS
    have HS := Aside0.mk HSN
    clear HSN
    go_wp2_with (first | ((first | ((first | ((with_reducible refine gA rfl ?_); refine sh_alloc HS.out rfl rfl (zeT _ (by decide)) ?_) | ((with_reducible refine gB rfl ?_); refine bx HS.out rfl rfl ?_; first | refine bv (v := .agg (List.toArray _)) rfl ?_ | refine bv (v := .int _ _) rfl ?_ | refine bv (v := .slice _ _ _) rfl ?_ | refine bv (v := .bool _) rfl ?_ | refine bv (v := .pointer _) rfl ?_ | refine bv (v := .string _) rfl ?_ | refine bv (v := .map _) rfl ?_ | refine bv (v := .func _ _ _) rfl ?_) | ((with_reducible refine gL rfl ?_); refine sh_lit HS.out rfl rfl (by go_simp; exact ⟨⟨rfl, rfl⟩, rfl⟩) ?_)); clear HS; intro g w1 hg HS1; (simp only [Seen.enc, cnEnc, zeF, segOf, aL, aC, aE] at HS1); have HS := Aside0.mk HS1; clear HS1)); try simp only [aP, aN, aT, aZ, aS]))
    go_loopw [9, 10] (fun v9 v10 wr => ∃ (n : Int) (S9 : Nat → Prop), 1 ≤ n ∧ n ≤ 8 ∧ v10 = .int .i64 n ∧ Aside0 (SH w wr [row cnK 56 (.slice A1 L.length c1) L S, row cnK 56 v9 ((sortC L).filter (upTo n 0)) S9])) (fun _ v10 _ => 8 - (intOf v10).toNat)
    case atStart =>
      refine ⟨1, fun _ => False, by omega, by omega, rfl, ⟨?_⟩⟩
      rw [upTo_first (fun c hc => (HGD.out c hc).1.1) (fun c hc => (HGD.out c hc).2.1)]
      exact HS.out
    case round =>
      clear HS
      obtain ⟨n, S9, hn1, hn8, rfl, HS⟩ := hrel
      by_cases hn : n ≤ 7
      · have hn' : decide (n ≤ 7) = true := decide_eq_true hn
        go_wp2_with (first | ((first | ((first | ((with_reducible refine gA rfl ?_); refine sh_alloc HS.out rfl rfl (zeT _ (by decide)) ?_) | ((with_reducible refine gB rfl ?_); refine bx HS.out rfl rfl ?_; first | refine bv (v := .agg (List.toArray _)) rfl ?_ | refine bv (v := .int _ _) rfl ?_ | refine bv (v := .slice _ _ _) rfl ?_ | refine bv (v := .bool _) rfl ?_ | refine bv (v := .pointer _) rfl ?_ | refine bv (v := .string _) rfl ?_ | refine bv (v := .map _) rfl ?_ | refine bv (v := .func _ _ _) rfl ?_) | ((with_reducible refine gL rfl ?_); refine sh_lit HS.out rfl rfl (by go_simp; exact ⟨⟨rfl, rfl⟩, rfl⟩) ?_)); clear HS; intro g w1 hg HS1; (simp only [Seen.enc, cnEnc, zeF, segOf, aL, aC, aE] at HS1); have HS := Aside0.mk HS1; clear HS1)); try simp only [aP, aN, aT, aZ, aS]))
        go_loopw [9, 11] (fun v9 v11 wr => ∃ (last : Int) (S9 : Nat → Prop), 0 ≤ last ∧ v11 = .int .i64 last ∧ Aside0 (SH w wr [row cnK 56 (.slice A1 L.length c1) L S, row cnK 56 v9 ((sortC L).filter (upTo n last)) S9])) (fun v9 _ _ => L.length - lenV v9)
        case atStart => exact ⟨0, S9, by omega, rfl, HS⟩
        case round =>
          clear HS
          obtain ⟨last, S9', hl0, rfl, HS⟩ := hrel
          go_wp2_with (first | ((first | ((first | ((with_reducible refine gA rfl ?_); refine sh_alloc HS.out rfl rfl (zeT _ (by decide)) ?_) | ((with_reducible refine gB rfl ?_); refine bx HS.out rfl rfl ?_; first | refine bv (v := .agg (List.toArray _)) rfl ?_ | refine bv (v := .int _ _) rfl ?_ | refine bv (v := .slice _ _ _) rfl ?_ | refine bv (v := .bool _) rfl ?_ | refine bv (v := .pointer _) rfl ?_ | refine bv (v := .string _) rfl ?_ | refine bv (v := .map _) rfl ?_ | refine bv (v := .func _ _ _) rfl ?_) | ((with_reducible refine gL rfl ?_); refine sh_lit HS.out rfl rfl (by go_simp; exact ⟨⟨rfl, rfl⟩, rfl⟩) ?_)); clear HS; intro g w1 hg HS1; (simp only [Seen.enc, cnEnc, zeF, segOf, aL, aC, aE] at HS1); have HS := Aside0.mk HS1; clear HS1)); try simp only [aP, aN, aT, aZ, aS]))
          go_loopw [12, 32] (fun v12 v32 wr => ∃ (j : Nat), j ≤ L.length ∧ v32 = .int .i64 j ∧ v12 = .int .i64 (bestOf n last (L.take j)) ∧ Aside0 (SH w wr [row cnK 56 (.slice A1 L.length c1) L S, row cnK 56 u9 ((sortC L).filter (upTo n last)) S9'])) (fun _ v32 _ => L.length - (intOf v32).toNat)
          case atStart => exact ⟨0, Nat.zero_le _, rfl, rfl, HS⟩
          case round =>
            clear HS
            obtain ⟨j, hj, rfl, rfl, HS⟩ := hrel
            by_cases hjl : j < L.length
            · have hrd := row_rds (hl := cnLen) (h1 := cnOne) 0 rfl _ HS.out
              obtain ⟨ad1, rfl⟩ := hrd.addr (by omega)
              obtain ⟨y, hy⟩ : ∃ y, L.getD j default = y := ⟨_, rfl⟩
              have HY := Aside0.mk hy
              have HRL := Aside0.mk hrd
              have HSU := Aside0.mk (bestOf_succ (n := n) (last := last) hjl hy)
              clear hy hrd
              obtain ⟨b, hb⟩ : ∃ b, bestOf n last (L.take j) = b := ⟨_, rfl⟩
              rw [hb] at HSU ⊢
              clear hb
              cases e1 : (y.1 == n) <;> cases e2 : decide (last < y.2) <;> cases e3 : (b == 0) <;> cases e4 : decide (y.2 < b)
              all_goals
                have HV := Aside0.mk (show bestS n last b y = _ by unfold bestS; rw [e1, e2, e3, e4])
                go_wp2_with (first | ((with_reducible refine gLd rfl ?_); refine rd_load HRL.out rfl rfl (i := j) rfl hjl default cnLen ((agT _ (by decide)).trans rfl) (szT _ (by decide)) ?_; intro x hx; obtain rfl := HY.out.symm.trans hx; (try simp only [Seen.enc, cnEnc, aP, aN, aT, aZ, aS])) | ((first | ((first | ((with_reducible refine gA rfl ?_); refine sh_alloc HS.out rfl rfl (zeT _ (by decide)) ?_) | ((with_reducible refine gB rfl ?_); refine bx HS.out rfl rfl ?_; first | refine bv (v := .agg (List.toArray _)) rfl ?_ | refine bv (v := .int _ _) rfl ?_ | refine bv (v := .slice _ _ _) rfl ?_ | refine bv (v := .bool _) rfl ?_ | refine bv (v := .pointer _) rfl ?_ | refine bv (v := .string _) rfl ?_ | refine bv (v := .map _) rfl ?_ | refine bv (v := .func _ _ _) rfl ?_) | ((with_reducible refine gL rfl ?_); refine sh_lit HS.out rfl rfl (by go_simp; exact ⟨⟨rfl, rfl⟩, rfl⟩) ?_)); clear HS; intro g w1 hg HS1; (simp only [Seen.enc, cnEnc, zeF, segOf, aL, aC, aE] at HS1); have HS := Aside0.mk HS1; clear HS1) | ((with_reducible refine gLd rfl ?_); refine ld2 HS.out rfl rfl rfl (by repeat (first | exact AtI.here | apply AtI.there)) ?_; (first | refine LdK.one ((agT _ (by decide)).trans rfl) rfl ?_ | (refine LdK.agg ((agT _ (by decide)).trans rfl) (szT _ (by decide)) (lb rfl) ?_; try simp only [szL, aP, aN, aT, aZ, aS, aD, aF, aJ, aK, aM, aO]))) | ((with_reducible refine gSt rfl ?_); refine st2 HS.out rfl rfl rfl rfl (by repeat (first | exact AtI.here | apply AtI.there)) ?_; (first | refine sv (u := .agg (List.toArray _)) rfl ?_ | refine sv (u := .int _ _) rfl ?_ | refine sv (u := .slice _ _ _) rfl ?_ | refine sv (u := .bool _) rfl ?_ | refine sv (u := .pointer _) rfl ?_ | refine sv (u := .string _) rfl ?_ | refine sv (u := .map _) rfl ?_ | refine sv (u := .func _ _ _) rfl ?_); refine sw (szT _ (by decide)) rfl (lb rfl) ?_; clear HS; intro w1 HS1; (simp only [Seen.enc, cnEnc, segOf, aL, aZ, aS, putSeg] at HS1); have HS := Aside0.mk HS1; clear HS1)); try simp only [aP, aN, aT, aZ, aS]))
                go_roundw
                case rel =>
                  refine ⟨j + 1, by omega, by go_num, ?_, ⟨HS.out.pick [0, 1] rfl (by decide)⟩⟩
                  rw [HSU.out, HV.out]
                  rfl
                case measure => simp [intOf]; omega
            · obtain rfl : j = L.length := by omega
              rw [List.take_length]
              obtain ⟨b, hb⟩ : ∃ b, bestOf n last L = b := ⟨_, rfl⟩
              have HB := Aside0.mk hb
              rw [hb]
              clear hb
              obtain ⟨A9, c9, rfl, hc9, _⟩ := row_rd HS.out 1 rfl
              have hfl : ((sortC L).filter (upTo n last)).length ≤ L.length := Nat.le_trans (List.length_filter_le _ _) (Nat.le_of_eq (sortC_len L))
              by_cases hb0 : b = 0
              · have e1 : (b == 0) = true := by rw [hb0]; rfl
                have HE := Aside0.mk (upTo_end (fun c hc => (HGD.out c hc).2.1) hl0 (HB.out.trans hb0))
                clear hb0
                go_wp2_with (first | ((first | ((first | ((with_reducible refine gA rfl ?_); refine sh_alloc HS.out rfl rfl (zeT _ (by decide)) ?_) | ((with_reducible refine gB rfl ?_); refine bx HS.out rfl rfl ?_; first | refine bv (v := .agg (List.toArray _)) rfl ?_ | refine bv (v := .int _ _) rfl ?_ | refine bv (v := .slice _ _ _) rfl ?_ | refine bv (v := .bool _) rfl ?_ | refine bv (v := .pointer _) rfl ?_ | refine bv (v := .string _) rfl ?_ | refine bv (v := .map _) rfl ?_ | refine bv (v := .func _ _ _) rfl ?_) | ((with_reducible refine gL rfl ?_); refine sh_lit HS.out rfl rfl (by go_simp; exact ⟨⟨rfl, rfl⟩, rfl⟩) ?_)); clear HS; intro g w1 hg HS1; (simp only [Seen.enc, cnEnc, zeF, segOf, aL, aC, aE] at HS1); have HS := Aside0.mk HS1; clear HS1)); try simp only [aP, aN, aT, aZ, aS]))
                go_roundw
                case rel =>
                  refine ⟨n + 1, S9', by omega, by omega, by go_num, ⟨?_⟩⟩
                  rw [← HE.out]
                  exact HS.out
                case measure => simp [intOf]; omega
              · have e1 : (b == 0) = false := by rw [beq_eq_false_iff_ne]; exact hb0
                have HE := Aside0.mk (upTo_next HND.out hl0 HB.out hb0)
                have HBP := Aside0.mk ((bestOf_is (n := n) hl0 L).some (by rw [HB.out]; exact hb0))
                have hlt : ((sortC L).filter (upTo n last)).length < L.length := by
                  have h1 : ((sortC L).filter (upTo n b)).length ≤ L.length := Nat.le_trans (List.length_filter_le _ _) (Nat.le_of_eq (sortC_len L))
                  rw [HE.out] at h1
                  simp at h1
                  omega
                have hb1 : 0 ≤ b := by have := HBP.out.2.1; rw [HB.out] at this; omega
                clear hb0
                go_wp2_with (first | ((with_reducible refine gC (b := .append) rfl ?_); refine sh_append HS.out rfl rfl rfl 1 rfl rfl (Rd.one cnLen (n, b) (HS.out.blk 2 rfl)) Try.underlying52 infoCn rfl (by decide) (by decide) (by omega) ?_; clear HS; intro v1 w1 S1 HS1; (simp only [aZ, aS] at HS1); have HS := Aside0.mk HS1; clear HS1; try simp only [aP, aN, aT, aZ, aS]) | ((first | ((first | ((with_reducible refine gA rfl ?_); refine sh_alloc HS.out rfl rfl (zeT _ (by decide)) ?_) | ((with_reducible refine gB rfl ?_); refine bx HS.out rfl rfl ?_; first | refine bv (v := .agg (List.toArray _)) rfl ?_ | refine bv (v := .int _ _) rfl ?_ | refine bv (v := .slice _ _ _) rfl ?_ | refine bv (v := .bool _) rfl ?_ | refine bv (v := .pointer _) rfl ?_ | refine bv (v := .string _) rfl ?_ | refine bv (v := .map _) rfl ?_ | refine bv (v := .func _ _ _) rfl ?_) | ((with_reducible refine gL rfl ?_); refine sh_lit HS.out rfl rfl (by go_simp; exact ⟨⟨rfl, rfl⟩, rfl⟩) ?_)); clear HS; intro g w1 hg HS1; (simp only [Seen.enc, cnEnc, zeF, segOf, aL, aC, aE] at HS1); have HS := Aside0.mk HS1; clear HS1)); try simp only [aP, aN, aT, aZ, aS]))
                have HSP := HS.out.pick [0, 1] rfl (by decide)
                rw [← HE.out] at HSP
                obtain ⟨A8, c8, rfl, hc8, _⟩ := row_rd HSP 1 rfl
                go_roundw
                case rel => exact ⟨b, S1, hb1, rfl, ⟨HSP⟩⟩
                case measure =>
                  simp only [lenV]
                  rw [HE.out]
                  simp
                  omega
      · obtain rfl : n = 8 := by omega
        go_wp2_with (first | ((first | ((first | ((with_reducible refine gA rfl ?_); refine sh_alloc HS.out rfl rfl (zeT _ (by decide)) ?_) | ((with_reducible refine gB rfl ?_); refine bx HS.out rfl rfl ?_; first | refine bv (v := .agg (List.toArray _)) rfl ?_ | refine bv (v := .int _ _) rfl ?_ | refine bv (v := .slice _ _ _) rfl ?_ | refine bv (v := .bool _) rfl ?_ | refine bv (v := .pointer _) rfl ?_ | refine bv (v := .string _) rfl ?_ | refine bv (v := .map _) rfl ?_ | refine bv (v := .func _ _ _) rfl ?_) | ((with_reducible refine gL rfl ?_); refine sh_lit HS.out rfl rfl (by go_simp; exact ⟨⟨rfl, rfl⟩, rfl⟩) ?_)); clear HS; intro g w1 hg HS1; (simp only [Seen.enc, cnEnc, zeF, segOf, aL, aC, aE] at HS1); have HS := Aside0.mk HS1; clear HS1)); try simp only [aP, aN, aT, aZ, aS]))
        go_ret2
        have h := HS.out.pick [1] rfl (by decide)
        rw [upTo_last (fun c hc => (HGD.out c hc).1.2)] at h
        exact replay_ok HZ.out rfl h
  · have hq : (z.2 != 0) = true := by rw [bne_iff_ne]; exact hz2
    have HZ := Aside0.mk hz2
    clear hz2
    go_wp2_with (first | (go_at_call 10; (with_reducible refine (HJ.out _ (HR.out.sh HS.out)).mono ?_); rintro e w2 ⟨rfl, hb⟩;  have HS1 := HS.out.quiet hb; clear HS hb; have HS := Aside0.mk HS1; clear HS1) | ((first | ((first | ((with_reducible refine gA rfl ?_); refine sh_alloc HS.out rfl rfl (zeT _ (by decide)) ?_) | ((with_reducible refine gB rfl ?_); refine bx HS.out rfl rfl ?_; first | refine bv (v := .agg (List.toArray _)) rfl ?_ | refine bv (v := .int _ _) rfl ?_ | refine bv (v := .slice _ _ _) rfl ?_ | refine bv (v := .bool _) rfl ?_ | refine bv (v := .pointer _) rfl ?_ | refine bv (v := .string _) rfl ?_ | refine bv (v := .map _) rfl ?_ | refine bv (v := .func _ _ _) rfl ?_) | ((with_reducible refine gL rfl ?_); refine sh_lit HS.out rfl rfl (by go_simp; exact ⟨⟨rfl, rfl⟩, rfl⟩) ?_)); clear HS; intro g w1 hg HS1; (simp only [Seen.enc, cnEnc, zeF, segOf, aL, aC, aE] at HS1); have HS := Aside0.mk HS1; clear HS1)); try simp only [aP, aN, aT, aZ, aS]))
    go_ret2
    exact replay_bad HZ.out rfl HS.out.below
end Go.Proofs.Ytkggchahhpmpbaa.Jue
