/- Lemmas towards the law: what of the text Jur8 it needs. -/
import Derived.Test.YtkggchahhpmpbaaJur7q
import Derived.Test.YtkggchahhpmpbaaJue8q
import Derived.Deep.DeepCutAuto
namespace Go.Proofs.Ytkggchahhpmpbaa.Jue
open Go.RowKit Go.Proofs.YtkggchahhpmpbaaW.PrintWords Go.Proofs.Ytkggchahhpmpbaa.Sl
set_option linter.unusedVariables false
set_option linter.unusedSimpArgs false
theorem replay_at (A : Option Addr) (N c : Nat) (lim : Int) (l : List Seen) (z : Int × Int) (L : List Cn) (w : World) (hr : Rd Seen.enc 3 w A N l) (hN : N ≤ 1000) (hz : judgeS lim l [] 0 = z) (hL : openS l = L) : Calls Try.prog 22 #[.int .i64 lim, .slice A N c] w (ReplayPost w z L) := by
  have := replay_any A N c lim l w hr hN
  rw [hz, hL] at this
  exact this
theorem refReplay_at (A : Option Addr) (N c : Nat) (lim : Int) (l : List Seen) (z : Int × Int) (L : List Cn) (w : World) (hr : Rd Seen.enc 3 w A N l) (hN : N ≤ 1000) (hNc : N ≤ c) (hz : judgeS lim l [] 0 = z) (hL : openS l = L) : Calls Try.prog 23 #[.int .i64 lim, .slice A N c] w (ReplayPost w z L) := by
  have := refReplay_any A N c lim l w hr hN hNc
  rw [hz, hL] at this
  exact this
def exl3 : List Seen := [⟨1, 1, 1⟩]
def Ex3Post (w : World) (e : Ending) (w' : World) : Prop := ∃ (A : Option Addr) (c : Nat), e = .returned (.tuple #[.slice A 1 c, .int .i64 0]) ∧ Below w.heap.size w w'
theorem replay_ex (g : Nat) (w : World) (h : w.heap[g]? = some (.cells (List.toArray [.int .i64 1, .int .i64 1, .int .i64 1]) 28 (0, 0))) : Calls Try.prog 22 #[.int .i64 2, .slice (some ⟨g, 0, none⟩) 1 1] w (Ex3Post w) := by
  refine (replay_at (some ⟨g, 0, none⟩) 1 1 2 exl3 (-1, 0) [(1, 1)] w (litSeen exl3 h rfl (by decide)) (by omega) (by kernel_rfl) (by kernel_rfl)).mono ?_
  rintro e w' (⟨_, v, S, rfl, HS⟩ | ⟨h, _⟩)
  · obtain ⟨A, c, rfl, _, _⟩ := row_rd HS 0 rfl
    have hl := sortC_len [((1 : Int), (1 : Int))]
    rw [hl]
    exact ⟨A, c, rfl, HS.below⟩
  · exact absurd rfl h
set_option maxHeartbeats 3200000 in
set_option maxRecDepth 100000 in
theorem lawReplays_any (A : Option Addr) (N c : Nat) (lim : Int) (l : List Seen) (w : World) (hr : Rd Seen.enc 3 w A N l) (hNc : N ≤ c) :
    Calls Try.prog 6 #[.int .i64 lim, .slice A N c] w (fun e w' => e = .returned (.bool true) ∧ Below w.heap.size w w') := by
  obtain rfl := hr.len.1
  have hm := hr.len.2
  have HR := Aside0.mk hr
  clear hr
  have HS := Aside0.mk (SH.start w)
  obtain ⟨z, hz⟩ : ∃ z, judgeS lim l [] 0 = z := ⟨_, rfl⟩
  obtain ⟨L, hL⟩ : ∃ L, openS l = L := ⟨_, rfl⟩
  have HZ := Aside0.mk hz
  have HL := Aside0.mk hL
  have hLl := openS_le l
  rw [hL] at hLl
  have hTl := sortC_len L
  clear hz hL
  have heq2 : (z.2 != z.2) = false := bne_self_eq_false _
  have HX3 := Aside0.mk (fun g w1 h => replay_ex g w1 h)
  go_enter Try.func6, Try.ntmps6
  by_cases h1 : 300 < l.length
  · have h1' : decide ((300 : Int) < (l.length : Int)) = true := by rw [decide_eq_true_eq]; omega
    go_wp2_with (first | (go_at_call 8; (with_reducible refine (judges_ex _).mono ?_); rintro e w2 ⟨rfl, hb⟩;  have HS1 := HS.out.quiet hb; clear HS hb; have HS := Aside0.mk HS1; clear HS1) | ((first | ((first | ((with_reducible refine gA rfl ?_); refine sh_alloc HS.out rfl rfl (zeT _ (by decide)) ?_) | ((with_reducible refine gB rfl ?_); refine bx HS.out rfl rfl ?_; first | refine bv (v := .agg (List.toArray _)) rfl ?_ | refine bv (v := .int _ _) rfl ?_ | refine bv (v := .slice _ _ _) rfl ?_ | refine bv (v := .bool _) rfl ?_ | refine bv (v := .pointer _) rfl ?_ | refine bv (v := .string _) rfl ?_ | refine bv (v := .map _) rfl ?_ | refine bv (v := .func _ _ _) rfl ?_) | ((with_reducible refine gL rfl ?_); refine sh_lit HS.out rfl rfl (by go_simp; exact ⟨⟨rfl, rfl⟩, rfl⟩) ?_)); clear HS; intro g w1 hg HS1; (simp only [Seen.enc, cnEnc, zeF, segOf, aL, aC, aE] at HS1); have HS := Aside0.mk HS1; clear HS1)); try simp only [aP, aN, aT, aZ, aS]))
    go_ret
    exact ⟨rfl, HS.out.below⟩
  · have h1' : decide ((300 : Int) < (l.length : Int)) = false := by rw [decide_eq_false_iff_not]; omega
    have HC1 := Aside0.mk (fun w1 hr => replay_at A l.length c lim l z L w1 hr (by omega) HZ.out HL.out)
    have HC2 := Aside0.mk (fun w1 hr => refReplay_at A l.length c lim l z L w1 hr (by omega) hNc HZ.out HL.out)
    unfold ReplayPost at HC1 HC2
    obtain ⟨T, hT⟩ : ∃ T, sortC L = T := ⟨_, rfl⟩
    rw [hT] at HC1 HC2 hTl
    clear hT
    by_cases hz2 : z.2 = 0
    · have hq : (z.2 != 0) = false := by rw [hz2]; rfl
      have HZ2 := Aside0.mk hz2
      clear hz2
      go_upto_region 4 with (first | (go_at_call 22; (with_reducible refine (HC1.out _ (HR.out.sh HS.out)).mono ?_); rintro e w2 (⟨_, v1, S1, rfl, HS1⟩ | ⟨hno, _⟩); rotate_left; (exact absurd HZ2.out hno); obtain ⟨A1, c1, rfl, hc1, _⟩ := row_rd HS1 0 rfl; have HS2 := HS.out.call HS1; clear HS HS1; simp only [aC, aE] at HS2; have HS := Aside0.mk HS2; clear HS2) | ((first | ((first | ((with_reducible refine gA rfl ?_); refine sh_alloc HS.out rfl rfl (zeT _ (by decide)) ?_) | ((with_reducible refine gB rfl ?_); refine bx HS.out rfl rfl ?_; first | refine bv (v := .agg (List.toArray _)) rfl ?_ | refine bv (v := .int _ _) rfl ?_ | refine bv (v := .slice _ _ _) rfl ?_ | refine bv (v := .bool _) rfl ?_ | refine bv (v := .pointer _) rfl ?_ | refine bv (v := .string _) rfl ?_ | refine bv (v := .map _) rfl ?_ | refine bv (v := .func _ _ _) rfl ?_) | ((with_reducible refine gL rfl ?_); refine sh_lit HS.out rfl rfl (by go_simp; exact ⟨⟨rfl, rfl⟩, rfl⟩) ?_)); clear HS; intro g w1 hg HS1; (simp only [Seen.enc, cnEnc, zeF, segOf, aL, aC, aE] at HS1); have HS := Aside0.mk HS1; clear HS1)); try simp only [aP, aN, aT, aZ, aS]))
      go_upto_region 5 with (first | (go_at_call 23; (with_reducible refine (HC2.out _ (HR.out.sh HS.out)).mono ?_); rintro e w2 (⟨_, v2, S2, rfl, HS1⟩ | ⟨hno, _⟩); rotate_left; (exact absurd HZ2.out hno); obtain ⟨A2, c2, rfl, hc2, _⟩ := row_rd HS1 0 rfl; have HS2 := HS.out.call HS1; clear HS HS1; simp only [aC, aE] at HS2; have HS := Aside0.mk HS2; clear HS2) | ((first | ((first | ((with_reducible refine gA rfl ?_); refine sh_alloc HS.out rfl rfl (zeT _ (by decide)) ?_) | ((with_reducible refine gB rfl ?_); refine bx HS.out rfl rfl ?_; first | refine bv (v := .agg (List.toArray _)) rfl ?_ | refine bv (v := .int _ _) rfl ?_ | refine bv (v := .slice _ _ _) rfl ?_ | refine bv (v := .bool _) rfl ?_ | refine bv (v := .pointer _) rfl ?_ | refine bv (v := .string _) rfl ?_ | refine bv (v := .map _) rfl ?_ | refine bv (v := .func _ _ _) rfl ?_) | ((with_reducible refine gL rfl ?_); refine sh_lit HS.out rfl rfl (by go_simp; exact ⟨⟨rfl, rfl⟩, rfl⟩) ?_)); clear HS; intro g w1 hg HS1; (simp only [Seen.enc, cnEnc, zeF, segOf, aL, aC, aE] at HS1); have HS := Aside0.mk HS1; clear HS1)); try simp only [aP, aN, aT, aZ, aS]))
      go_wp2_with (first | ((first | ((first | ((with_reducible refine gA rfl ?_); refine sh_alloc HS.out rfl rfl (zeT _ (by decide)) ?_) | ((with_reducible refine gB rfl ?_); refine bx HS.out rfl rfl ?_; first | refine bv (v := .agg (List.toArray _)) rfl ?_ | refine bv (v := .int _ _) rfl ?_ | refine bv (v := .slice _ _ _) rfl ?_ | refine bv (v := .bool _) rfl ?_ | refine bv (v := .pointer _) rfl ?_ | refine bv (v := .string _) rfl ?_ | refine bv (v := .map _) rfl ?_ | refine bv (v := .func _ _ _) rfl ?_) | ((with_reducible refine gL rfl ?_); refine sh_lit HS.out rfl rfl (by go_simp; exact ⟨⟨rfl, rfl⟩, rfl⟩) ?_)); clear HS; intro g w1 hg HS1; (simp only [Seen.enc, cnEnc, zeF, segOf, aL, aC, aE] at HS1); have HS := Aside0.mk HS1; clear HS1)); try simp only [aP, aN, aT, aZ, aS]))
      go_loopw [9, 40] (fun _ v40 wr => ∃ (k : Nat), k ≤ T.length ∧ v40 = .int .i64 k ∧ Aside0 (SH w wr [row cnK 56 (.slice A1 T.length c1) T S1, row cnK 56 (.slice A2 T.length c2) T S2])) (fun _ v40 _ => T.length - (intOf v40).toNat)
      case atStart => exact ⟨0, Nat.zero_le _, rfl, HS⟩
      case round =>
        clear HS
        obtain ⟨k, hk, rfl, HS⟩ := hrel
        by_cases hlt : k < T.length
        · obtain ⟨ad1, rfl⟩ := (row_rds (hl := cnLen) (h1 := cnOne) 0 rfl _ HS.out).addr (by omega)
          obtain ⟨ad2, rfl⟩ := (row_rds (hl := cnLen) (h1 := cnOne) 1 rfl _ HS.out).addr (by omega)
          have HR1 := Aside0.mk (row_rds (w0 := w) (is := [row cnK 56 (.slice (some ad1) T.length c1) T S1, row cnK 56 (.slice (some ad2) T.length c2) T S2]) (hl := cnLen) (h1 := cnOne) 0 rfl)
          have HR2 := Aside0.mk (row_rds (w0 := w) (is := [row cnK 56 (.slice (some ad1) T.length c1) T S1, row cnK 56 (.slice (some ad2) T.length c2) T S2]) (hl := cnLen) (h1 := cnOne) 1 rfl)
          go_upto_region 10 with (first | ((first | ((first | ((with_reducible refine gA rfl ?_); refine sh_alloc HS.out rfl rfl (zeT _ (by decide)) ?_) | ((with_reducible refine gB rfl ?_); refine bx HS.out rfl rfl ?_; first | refine bv (v := .agg (List.toArray _)) rfl ?_ | refine bv (v := .int _ _) rfl ?_ | refine bv (v := .slice _ _ _) rfl ?_ | refine bv (v := .bool _) rfl ?_ | refine bv (v := .pointer _) rfl ?_ | refine bv (v := .string _) rfl ?_ | refine bv (v := .map _) rfl ?_ | refine bv (v := .func _ _ _) rfl ?_) | ((with_reducible refine gL rfl ?_); refine sh_lit HS.out rfl rfl (by go_simp; exact ⟨⟨rfl, rfl⟩, rfl⟩) ?_)); clear HS; intro g w1 hg HS1; (simp only [Seen.enc, cnEnc, zeF, segOf, aL, aC, aE] at HS1); have HS := Aside0.mk HS1; clear HS1)); try simp only [aP, aN, aT, aZ, aS]))
          ((with_reducible refine wp_region_sh mixed (by kernel_rfl) HS.out ?_); (repeat' (first | go_big_quiet_skip | ((with_reducible refine qMv rfl ?_); go_big_quiet_step (fail)) | ((with_reducible refine qAs rfl ?_); go_big_quiet_step (fail)) | ((with_reducible refine qPk rfl ?_); go_big_quiet_step (fail)) | ((with_reducible refine qLd rfl ?_); refine q_rd HR1.out rfl rfl (i := k) rfl hlt default cnLen ((agT _ (by decide)).trans rfl) (szT _ (by decide)) ?_; (try simp only [Seen.enc, cnEnc, aP, aN, aT, aZ, aS])) | ((with_reducible refine qLd rfl ?_); refine q_rd HR2.out rfl rfl (i := k) rfl hlt default cnLen ((agT _ (by decide)).trans rfl) (szT _ (by decide)) ?_; (try simp only [Seen.enc, cnEnc, aP, aN, aT, aZ, aS])) | ((with_reducible refine qAny ?_); refine q_val rfl (fun w hs => by (repeat (rename ∀ (_ : Act) (_ : World), _ => hK9; clear hK9)); go_simp; rfl) ?_; try simp only [aP, aN, aT, aZ, aS]))); all_goals (refine wpQuiet_nil ?_; clear HS; intro w1 HS1; have HS := Aside0.mk HS1; clear HS1))
          go_wp2_with (first | ((first | ((first | ((with_reducible refine gA rfl ?_); refine sh_alloc HS.out rfl rfl (zeT _ (by decide)) ?_) | ((with_reducible refine gB rfl ?_); refine bx HS.out rfl rfl ?_; first | refine bv (v := .agg (List.toArray _)) rfl ?_ | refine bv (v := .int _ _) rfl ?_ | refine bv (v := .slice _ _ _) rfl ?_ | refine bv (v := .bool _) rfl ?_ | refine bv (v := .pointer _) rfl ?_ | refine bv (v := .string _) rfl ?_ | refine bv (v := .map _) rfl ?_ | refine bv (v := .func _ _ _) rfl ?_) | ((with_reducible refine gL rfl ?_); refine sh_lit HS.out rfl rfl (by go_simp; exact ⟨⟨rfl, rfl⟩, rfl⟩) ?_)); clear HS; intro g w1 hg HS1; (simp only [Seen.enc, cnEnc, zeF, segOf, aL, aC, aE] at HS1); have HS := Aside0.mk HS1; clear HS1)); try simp only [aP, aN, aT, aZ, aS]))
          go_roundw
          case rel => exact ⟨k + 1, by omega, by go_num, HS⟩
          case measure => simp [intOf]; omega
        · obtain rfl : k = T.length := by omega
          go_wp2_with (first | (go_at_call 22; (with_reducible refine (HX3.out _ _ (HS.out.blk 2 rfl)).mono ?_); rintro e w2 ⟨A3, c3, rfl, hb⟩; have HS1 := HS.out.quiet hb; clear HS hb; have HS := Aside0.mk HS1; clear HS1) | ((first | ((first | ((with_reducible refine gA rfl ?_); refine sh_alloc HS.out rfl rfl (zeT _ (by decide)) ?_) | ((with_reducible refine gB rfl ?_); refine bx HS.out rfl rfl ?_; first | refine bv (v := .agg (List.toArray _)) rfl ?_ | refine bv (v := .int _ _) rfl ?_ | refine bv (v := .slice _ _ _) rfl ?_ | refine bv (v := .bool _) rfl ?_ | refine bv (v := .pointer _) rfl ?_ | refine bv (v := .string _) rfl ?_ | refine bv (v := .map _) rfl ?_ | refine bv (v := .func _ _ _) rfl ?_) | ((with_reducible refine gL rfl ?_); refine sh_lit HS.out rfl rfl (by go_simp; exact ⟨⟨rfl, rfl⟩, rfl⟩) ?_)); clear HS; intro g w1 hg HS1; (simp only [Seen.enc, cnEnc, zeF, segOf, aL, aC, aE] at HS1); have HS := Aside0.mk HS1; clear HS1)); try simp only [aP, aN, aT, aZ, aS]))
          go_ret
          exact ⟨rfl, HS.out.below⟩
    · have hq : (z.2 != 0) = true := by rw [bne_iff_ne]; exact hz2
      have HZ2 := Aside0.mk hz2
      clear hz2
      go_upto_region 4 with (first | (go_at_call 22; (with_reducible refine (HC1.out _ (HR.out.sh HS.out)).mono ?_); rintro e w2 (⟨hno, _⟩ | ⟨_, rfl, hb⟩); (exact absurd hno HZ2.out); have HS1 := HS.out.quiet hb; clear HS hb; have HS := Aside0.mk HS1; clear HS1) | ((first | ((first | ((with_reducible refine gA rfl ?_); refine sh_alloc HS.out rfl rfl (zeT _ (by decide)) ?_) | ((with_reducible refine gB rfl ?_); refine bx HS.out rfl rfl ?_; first | refine bv (v := .agg (List.toArray _)) rfl ?_ | refine bv (v := .int _ _) rfl ?_ | refine bv (v := .slice _ _ _) rfl ?_ | refine bv (v := .bool _) rfl ?_ | refine bv (v := .pointer _) rfl ?_ | refine bv (v := .string _) rfl ?_ | refine bv (v := .map _) rfl ?_ | refine bv (v := .func _ _ _) rfl ?_) | ((with_reducible refine gL rfl ?_); refine sh_lit HS.out rfl rfl (by go_simp; exact ⟨⟨rfl, rfl⟩, rfl⟩) ?_)); clear HS; intro g w1 hg HS1; (simp only [Seen.enc, cnEnc, zeF, segOf, aL, aC, aE] at HS1); have HS := Aside0.mk HS1; clear HS1)); try simp only [aP, aN, aT, aZ, aS]))
      go_upto_region 5 with (first | (go_at_call 23; (with_reducible refine (HC2.out _ (HR.out.sh HS.out)).mono ?_); rintro e w2 (⟨hno, _⟩ | ⟨_, rfl, hb⟩); (exact absurd hno HZ2.out); have HS1 := HS.out.quiet hb; clear HS hb; have HS := Aside0.mk HS1; clear HS1) | ((first | ((first | ((with_reducible refine gA rfl ?_); refine sh_alloc HS.out rfl rfl (zeT _ (by decide)) ?_) | ((with_reducible refine gB rfl ?_); refine bx HS.out rfl rfl ?_; first | refine bv (v := .agg (List.toArray _)) rfl ?_ | refine bv (v := .int _ _) rfl ?_ | refine bv (v := .slice _ _ _) rfl ?_ | refine bv (v := .bool _) rfl ?_ | refine bv (v := .pointer _) rfl ?_ | refine bv (v := .string _) rfl ?_ | refine bv (v := .map _) rfl ?_ | refine bv (v := .func _ _ _) rfl ?_) | ((with_reducible refine gL rfl ?_); refine sh_lit HS.out rfl rfl (by go_simp; exact ⟨⟨rfl, rfl⟩, rfl⟩) ?_)); clear HS; intro g w1 hg HS1; (simp only [Seen.enc, cnEnc, zeF, segOf, aL, aC, aE] at HS1); have HS := Aside0.mk HS1; clear HS1)); try simp only [aP, aN, aT, aZ, aS]))
      go_upto_region 7 with (first | ((first | ((first | ((with_reducible refine gA rfl ?_); refine sh_alloc HS.out rfl rfl (zeT _ (by decide)) ?_) | ((with_reducible refine gB rfl ?_); refine bx HS.out rfl rfl ?_; first | refine bv (v := .agg (List.toArray _)) rfl ?_ | refine bv (v := .int _ _) rfl ?_ | refine bv (v := .slice _ _ _) rfl ?_ | refine bv (v := .bool _) rfl ?_ | refine bv (v := .pointer _) rfl ?_ | refine bv (v := .string _) rfl ?_ | refine bv (v := .map _) rfl ?_ | refine bv (v := .func _ _ _) rfl ?_) | ((with_reducible refine gL rfl ?_); refine sh_lit HS.out rfl rfl (by go_simp; exact ⟨⟨rfl, rfl⟩, rfl⟩) ?_)); clear HS; intro g w1 hg HS1; (simp only [Seen.enc, cnEnc, zeF, segOf, aL, aC, aE] at HS1); have HS := Aside0.mk HS1; clear HS1)); try simp only [aP, aN, aT, aZ, aS]))
      go_wp2_with (first | ((first | ((first | ((with_reducible refine gA rfl ?_); refine sh_alloc HS.out rfl rfl (zeT _ (by decide)) ?_) | ((with_reducible refine gB rfl ?_); refine bx HS.out rfl rfl ?_; first | refine bv (v := .agg (List.toArray _)) rfl ?_ | refine bv (v := .int _ _) rfl ?_ | refine bv (v := .slice _ _ _) rfl ?_ | refine bv (v := .bool _) rfl ?_ | refine bv (v := .pointer _) rfl ?_ | refine bv (v := .string _) rfl ?_ | refine bv (v := .map _) rfl ?_ | refine bv (v := .func _ _ _) rfl ?_) | ((with_reducible refine gL rfl ?_); refine sh_lit HS.out rfl rfl (by go_simp; exact ⟨⟨rfl, rfl⟩, rfl⟩) ?_)); clear HS; intro g w1 hg HS1; (simp only [Seen.enc, cnEnc, zeF, segOf, aL, aC, aE] at HS1); have HS := Aside0.mk HS1; clear HS1)); try simp only [aP, aN, aT, aZ, aS]))
      refine wp_loop_rounds 1 ?_
      rw [rounds_succ]
      go_wp2_with (first | (go_at_call 22; (with_reducible refine (HX3.out _ _ (HS.out.blk 0 rfl)).mono ?_); rintro e w2 ⟨A3, c3, rfl, hb⟩; have HS1 := HS.out.quiet hb; clear HS hb; have HS := Aside0.mk HS1; clear HS1) | ((first | ((first | ((with_reducible refine gA rfl ?_); refine sh_alloc HS.out rfl rfl (zeT _ (by decide)) ?_) | ((with_reducible refine gB rfl ?_); refine bx HS.out rfl rfl ?_; first | refine bv (v := .agg (List.toArray _)) rfl ?_ | refine bv (v := .int _ _) rfl ?_ | refine bv (v := .slice _ _ _) rfl ?_ | refine bv (v := .bool _) rfl ?_ | refine bv (v := .pointer _) rfl ?_ | refine bv (v := .string _) rfl ?_ | refine bv (v := .map _) rfl ?_ | refine bv (v := .func _ _ _) rfl ?_) | ((with_reducible refine gL rfl ?_); refine sh_lit HS.out rfl rfl (by go_simp; exact ⟨⟨rfl, rfl⟩, rfl⟩) ?_)); clear HS; intro g w1 hg HS1; (simp only [Seen.enc, cnEnc, zeF, segOf, aL, aC, aE] at HS1); have HS := Aside0.mk HS1; clear HS1)); try simp only [aP, aN, aT, aZ, aS]))
      go_ret
      exact ⟨rfl, HS.out.below⟩
namespace LawReplays
theorem walk (W : World) (cs0 : List Value) (x0 : (Sh.int .i64).D) (hk0 : (Sh.int .i64).kd.K W x0 cs0) (hw0 : (Sh.int .i64).wf x0) (hz0 : (Sh.int .i64).sized Try.prog x0) (cs1 : List Value) (x1 : seensS.D) (hk1 : seensS.kd.K W x1 cs1) (hw1 : seensS.wf x1) (hz1 : seensS.sized Try.prog x1) :
    Calls Try.prog 6 #[(Sh.int .i64).val cs0, seensS.val cs1] W fun e W' => e = .returned (.bool true) ∧ Below W.heap.size W W' := by
  obtain rfl : cs0 = [.int .i64 x0] := hk0
  obtain ⟨A, c, rfl, hl, hC⟩ := hk1
  have h1 := C_map hC toSeen (sz := 3) rfl (fun y cs hy => seenS_K y cs hy)
  exact lawReplays_any A _ c x0 _ W h1 hl
end LawReplays
end Go.Proofs.Ytkggchahhpmpbaa.Jue
