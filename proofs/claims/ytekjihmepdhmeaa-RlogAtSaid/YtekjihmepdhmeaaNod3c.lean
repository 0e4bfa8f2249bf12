import Derived.Test.YtekjihmepdhmeaaNod0
-- U5
namespace Go.Proofs.Ytekjihmepdhmeaa.Nod
open Go.RowKit Go.Proofs.YtekjihmepdhmeaaW.PrintWords Go.Proofs.Ytekjihmepdhmeaa.Sl
set_option linter.unusedVariables false
set_option linter.unusedSimpArgs false
set_option maxHeartbeats 400000 in
theorem refCheck_any (A : Option Addr) (c : Nat) (l : List Int) (w : World) {N : Nat} (hr : Rd (ints .i64) 1 w A N l) :
    Calls Try.prog 108 #[.slice A N c] w (fun e w' => e = .returned (.int .i64 (if good l then 0 else 1)) ∧ w = w') := by
  obtain rfl := hr.len.1
  have hm := hr.len.2
  have HR := Aside0.mk hr
  clear hr
  by_cases h0 : l.length = 0
  · have hg : good l = false := by unfold good; rw [h0]; simp
    rw [hg]
    have hz : ((l.length : Int) == 0) = true := by rw [h0]; rfl
    go_enter Try.func108, Try.ntmps108
    go_wp2
    go_ret
    exact ⟨rfl, rfl⟩
  · have hz : ((l.length : Int) == 0) = false := by rw [beq_eq_false_iff_ne]; omega
    go_enter Try.func108, Try.ntmps108
    go_wp2
    go_loop [3, 4, 10] (fun v3 v4 v10 => ∃ k : Nat, k ≤ l.length ∧ v10 = .int .i64 k ∧ Aside0 (okTo l k)) (fun _ _ v10 => l.length - (intOf v10).toNat)
    case atStart => exact ⟨0, Nat.zero_le _, rfl, ⟨okTo_zero l⟩⟩
    case round =>
      obtain ⟨k, hk, rfl, HO⟩ := hrel
      by_cases hlt : k < l.length
      · obtain ⟨ad, rfl⟩ := HR.out.addr (by omega)
        generalize hx : l.getD k 0 = x
        have HX := Aside0.mk hx
        clear hx
        by_cases h1 : x < 1
        · have hg : good l = false := by unfold good; rw [isSet_false hlt (not_okTo HX.out (by omega))]; rfl
          go_wp2_with (first | ((with_reducible refine gLd rfl ?_); refine rd_load1 (enc := Value.int .i64) HR.out rfl rfl (i := k) rfl hlt 0 ((agT _ (by decide)).trans rfl) ?_; intro x hx; obtain rfl := HX.out.symm.trans hx; (try simp only [aP, aN, aT, aZ, aS])))
          go_ret
          exact ⟨by first | rfl | (rw [hg]; rfl), rfl⟩
        · by_cases h2 : 7 < x
          · have hg : good l = false := by unfold good; rw [isSet_false hlt (not_okTo HX.out (by omega))]; rfl
            go_wp2_with (first | ((with_reducible refine gLd rfl ?_); refine rd_load1 (enc := Value.int .i64) HR.out rfl rfl (i := k) rfl hlt 0 ((agT _ (by decide)).trans rfl) ?_; intro x hx; obtain rfl := HX.out.symm.trans hx; (try simp only [aP, aN, aT, aZ, aS])))
            go_ret
            exact ⟨by first | rfl | (rw [hg]; rfl), rfl⟩
          · by_cases h3 : 0 < k
            · have hlt1 : k - 1 < l.length := by omega
              have hk1 : ((k : Int) - 1).toNat = k - 1 := by omega
              generalize hy : l.getD (k - 1) 0 = y
              have HY := Aside0.mk hy
              clear hy
              by_cases h4 : x ≤ y
              · have hg : good l = false := by unfold good; rw [isSet_false hlt (not_okTo HX.out (.inr (.inr ⟨h3, by rw [HY.out]; exact h4⟩)))]; rfl
                go_wp2_with (first | ((with_reducible refine gLd rfl ?_); refine rd_load1 (enc := Value.int .i64) HR.out rfl rfl (i := k) rfl hlt 0 ((agT _ (by decide)).trans rfl) ?_; intro x hx; obtain rfl := HX.out.symm.trans hx; (try simp only [aP, aN, aT, aZ, aS])) | ((with_reducible refine gLd rfl ?_); refine rd_load1 (enc := Value.int .i64) HR.out rfl rfl (i := k - 1) rfl hlt1 0 ((agT _ (by decide)).trans rfl) ?_; intro x hx; obtain rfl := HY.out.symm.trans hx; (try simp only [aP, aN, aT, aZ, aS])))
                go_ret
                exact ⟨by first | rfl | (rw [hg]; rfl), rfl⟩
              · go_wp2_with (first | ((with_reducible refine gLd rfl ?_); refine rd_load1 (enc := Value.int .i64) HR.out rfl rfl (i := k) rfl hlt 0 ((agT _ (by decide)).trans rfl) ?_; intro x hx; obtain rfl := HX.out.symm.trans hx; (try simp only [aP, aN, aT, aZ, aS])) | ((with_reducible refine gLd rfl ?_); refine rd_load1 (enc := Value.int .i64) HR.out rfl rfl (i := k - 1) rfl hlt1 0 ((agT _ (by decide)).trans rfl) ?_; intro x hx; obtain rfl := HY.out.symm.trans hx; (try simp only [aP, aN, aT, aZ, aS])))
                go_round
                case rel => exact ⟨k + 1, by omega, by go_num, ⟨okTo_succ HO.out HX.out (by omega) (by omega) (fun _ => by rw [HY.out]; omega)⟩⟩
                case measure => simp [intOf]; omega
            · go_wp2_with (first | ((with_reducible refine gLd rfl ?_); refine rd_load1 (enc := Value.int .i64) HR.out rfl rfl (i := k) rfl hlt 0 ((agT _ (by decide)).trans rfl) ?_; intro x hx; obtain rfl := HX.out.symm.trans hx; (try simp only [aP, aN, aT, aZ, aS])))
              go_round
              case rel => exact ⟨k + 1, by omega, by go_num, ⟨okTo_succ HO.out HX.out (by omega) (by omega) (fun h => absurd h h3)⟩⟩
              case measure => simp [intOf]; omega
      · obtain rfl : k = l.length := by omega
        have hg : good l = true := by
          unfold good isSet
          rw [Bool.and_eq_true]
          exact ⟨decide_eq_true HO.out, decide_eq_true (by omega)⟩
        go_wp2
        go_ret
        exact ⟨by first | rfl | (rw [hg]; rfl), rfl⟩
end Go.Proofs.Ytekjihmepdhmeaa.Nod
