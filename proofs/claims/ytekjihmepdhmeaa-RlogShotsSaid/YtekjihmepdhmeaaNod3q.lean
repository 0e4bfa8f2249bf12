/- Lemmas towards the law: what of the text Nod3 it needs. -/
import Derived.Test.YtekjihmepdhmeaaNod0q
namespace Go.Proofs.Ytekjihmepdhmeaa.Nod
open Go.RowKit Go.Proofs.YtekjihmepdhmeaaW.PrintWords Go.Proofs.Ytekjihmepdhmeaa.Sl
set_option linter.unusedVariables false
set_option linter.unusedSimpArgs false
theorem take_eq_succ {l m : List Int} {k : Nat} {x : Int} (h : l.take k = m.take k) (hl : k < l.length) (hm : k < m.length) (hx : l.getD k 0 = x) (hy : m.getD k 0 = x) : l.take (k + 1) = m.take (k + 1) := by
  rw [take_succ_getD 0 hl, take_succ_getD 0 hm, h, hx, hy]
theorem ne_at {l m : List Int} {k : Nat} {x y : Int} (hx : l.getD k 0 = x) (hy : m.getD k 0 = y) (h : x ≠ y) : (l == m) = false := by
  rw [beq_eq_false_iff_ne]
  rintro rfl
  exact h (hx.symm.trans hy)
set_option maxHeartbeats 400000 in
theorem refSame_any (A B : Option Addr) (c c' : Nat) (l m : List Int) (w : World) {N N' : Nat} (hr : Rd (ints .i64) 1 w A N l) (hr' : Rd (ints .i64) 1 w B N' m) :
    Calls Try.prog 21 #[.slice A N c, .slice B N' c'] w (fun e w' => e = .returned (.bool (l == m)) ∧ Below w.heap.size w w') := by
  obtain rfl := hr.len.1
  obtain rfl := hr'.len.1
  have hm := hr.len.2
  have hm' := hr'.len.2
  have HR := Aside0.mk hr
  have HR' := Aside0.mk hr'
  clear hr hr'
  by_cases hlen : l.length = m.length
  · have hlm : ((l.length : Int) != (m.length : Int)) = false := by simp [hlen]
    have hle : l.length ≤ m.length := by omega
    have hge : m.length ≤ l.length := by omega
    have HL := Aside0.mk hlen
    clear hlen
    have HS := Aside0.mk (SH.start w)
    go_enter Try.func21, Try.ntmps21
    go_wp2
    go_loopw [5, 13] (fun v5 v13 wr => ∃ k : Nat, k ≤ l.length ∧ v13 = .int .i64 k ∧ Aside0 (l.take k = m.take k) ∧ Aside0 (SH w wr [])) (fun _ v13 _ => l.length - (intOf v13).toNat)
    case atStart => exact ⟨0, Nat.zero_le _, rfl, ⟨rfl⟩, HS⟩
    case round =>
      clear HS
      obtain ⟨k, hk, rfl, HO, HS⟩ := hrel
      by_cases hlt : k < l.length
      · obtain ⟨ad, rfl⟩ := HR.out.addr (by omega)
        obtain ⟨ad', rfl⟩ := HR'.out.addr (by omega)
        have HRS := Aside0.mk (HR.out.rds [])
        have HRS' := Aside0.mk (HR'.out.rds [])
        have hlt' : k < m.length := by omega
        generalize hx : l.getD k 0 = x
        have HX := Aside0.mk hx
        clear hx
        generalize hy : m.getD k 0 = y
        have HY := Aside0.mk hy
        clear hy
        by_cases he : x = y
        · obtain rfl := he
          have hb : (x != x) = false := by simp
          go_wp2
          ((with_reducible refine wp_region_sh mixed (by kernel_rfl) HS.out ?_); (repeat' (first | go_big_quiet_skip | ((with_reducible refine qMv rfl ?_); go_big_quiet_step (fail)) | ((with_reducible refine qAs rfl ?_); go_big_quiet_step (fail)) | ((with_reducible refine qPk rfl ?_); go_big_quiet_step (fail)) | ((with_reducible refine qLd rfl ?_); refine q_rd1 (enc := Value.int .i64) HRS.out rfl rfl (i := k) rfl hlt 0 ((agT _ (by decide)).trans rfl) ?_; intro x hx; obtain rfl := HX.out.symm.trans hx; (try simp only [aP, aN, aT, aZ, aS])) | ((with_reducible refine qLd rfl ?_); refine q_rd1 (enc := Value.int .i64) HRS'.out rfl rfl (i := k) rfl hlt' 0 ((agT _ (by decide)).trans rfl) ?_; intro x hx; obtain rfl := HY.out.symm.trans hx; (try simp only [aP, aN, aT, aZ, aS])) | ((with_reducible refine qAny ?_); refine q_val rfl (fun w hs => by (repeat (rename ∀ (_ : Act) (_ : World), _ => hK9; clear hK9)); go_simp; rfl) ?_; try simp only [aP, aN, aT, aZ, aS]))); all_goals (refine wpQuiet_nil ?_; clear HS; intro w1 HS1; have HS := Aside0.mk HS1; clear HS1))
          go_wp2
          go_roundw
          case rel => exact ⟨k + 1, by omega, by go_num, ⟨take_eq_succ HO.out hlt hlt' HX.out HY.out⟩, HS⟩
          case measure => simp [intOf]; omega
        · have hb : (x != y) = true := by simpa using he
          have hne := ne_at HX.out HY.out he
          go_wp2
          ((with_reducible refine wp_region_sh mixed (by kernel_rfl) HS.out ?_); (repeat' (first | go_big_quiet_skip | ((with_reducible refine qMv rfl ?_); go_big_quiet_step (fail)) | ((with_reducible refine qAs rfl ?_); go_big_quiet_step (fail)) | ((with_reducible refine qPk rfl ?_); go_big_quiet_step (fail)) | ((with_reducible refine qLd rfl ?_); refine q_rd1 (enc := Value.int .i64) HRS.out rfl rfl (i := k) rfl hlt 0 ((agT _ (by decide)).trans rfl) ?_; intro x hx; obtain rfl := HX.out.symm.trans hx; (try simp only [aP, aN, aT, aZ, aS])) | ((with_reducible refine qLd rfl ?_); refine q_rd1 (enc := Value.int .i64) HRS'.out rfl rfl (i := k) rfl hlt' 0 ((agT _ (by decide)).trans rfl) ?_; intro x hx; obtain rfl := HY.out.symm.trans hx; (try simp only [aP, aN, aT, aZ, aS])) | ((with_reducible refine qAny ?_); refine q_val rfl (fun w hs => by (repeat (rename ∀ (_ : Act) (_ : World), _ => hK9; clear hK9)); go_simp; rfl) ?_; try simp only [aP, aN, aT, aZ, aS]))); all_goals (refine wpQuiet_nil ?_; clear HS; intro w1 HS1; have HS := Aside0.mk HS1; clear HS1))
          go_wp2
          go_ret
          exact ⟨by first | rfl | (rw [hne]; rfl), HS.out.below⟩
      · obtain rfl : k = l.length := by omega
        have hb : (l == m) = true := by
          have := HO.out
          rw [List.take_length, HL.out, List.take_length] at this
          rw [this]; simp
        go_wp2
        go_ret
        exact ⟨by first | rfl | (rw [hb]; rfl), HS.out.below⟩
  · have hlm : ((l.length : Int) != (m.length : Int)) = true := by rw [bne_iff_ne]; omega
    have hne : (l == m) = false := by
      rw [beq_eq_false_iff_ne]
      rintro rfl
      exact hlen rfl
    clear hlen
    go_enter Try.func21, Try.ntmps21
    go_wp2
    go_ret
    exact ⟨by first | rfl | (rw [hne]; rfl), Below.refl _ _⟩
end Go.Proofs.Ytekjihmepdhmeaa.Nod
