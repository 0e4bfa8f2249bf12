import Derived.Test.YtkfopjonhhldnaaNod0
namespace Go.Proofs.Ytkfopjonhhldnaa.Nod
open Go.RowKit Go.Proofs.YtkfopjonhhldnaaW.PrintWords Go.Proofs.Ytkfopjonhhldnaa.Sl
set_option linter.unusedVariables false
set_option linter.unusedSimpArgs false
def IndexPost (l : List Int) (n : Int) (w : World) (e : Ending) (w' : World) : Prop := ∃ r : Int, e = .returned (.int .i64 r) ∧ decide (0 ≤ r) = has l n ∧ w = w'
set_option maxHeartbeats 400000 in
theorem index_any (A : Option Addr) (c : Nat) (l : List Int) (n : Int) (w : World) {N : Nat} (hr : Rd (ints .i64) 1 w A N l) :
    Calls Try.prog 35 #[.slice A N c, .int .i64 n] w (IndexPost l n w) := by
  obtain rfl := hr.len.1
  have hm := hr.len.2
  have HR := Aside0.mk hr
  clear hr
  go_enter Try.func35, Try.ntmps35
  go_wp2
  go_loop [8] (fun v => ∃ k : Nat, k ≤ l.length ∧ v = .int .i64 k ∧ Aside0 (has (l.take k) n = false)) (fun v => l.length - (intOf v).toNat)
  case atStart => exact ⟨0, Nat.zero_le _, rfl, ⟨rfl⟩⟩
  case round =>
    obtain ⟨k, hk, rfl, HO⟩ := hrel
    by_cases hlt : k < l.length
    · obtain ⟨ad, rfl⟩ := HR.out.addr (by omega)
      generalize hx : l.getD k 0 = x
      have HX := Aside0.mk hx
      clear hx
      by_cases h1 : n = x
      · obtain rfl := h1
        have hb1 : (n == n) = true := beq_iff_eq.2 rfl
        go_wp2_with (first | ((with_reducible refine gLd rfl ?_); refine rd_load1 (enc := Value.int .i64) HR.out rfl rfl (i := k) rfl hlt 0 ((agT _ (by decide)).trans rfl) ?_; intro x hx; obtain rfl := HX.out.symm.trans hx; (try simp only [Act.put, List.setIfInBounds_toArray, List.set_cons_zero, List.set_cons_succ])))
        go_ret
        exact ⟨k, rfl, by rw [has_at hlt HX.out]; simp, rfl⟩
      · have hb1 : (n == x) = false := beq_eq_false_iff_ne.2 h1
        go_wp2_with (first | ((with_reducible refine gLd rfl ?_); refine rd_load1 (enc := Value.int .i64) HR.out rfl rfl (i := k) rfl hlt 0 ((agT _ (by decide)).trans rfl) ?_; intro x hx; obtain rfl := HX.out.symm.trans hx; (try simp only [Act.put, List.setIfInBounds_toArray, List.set_cons_zero, List.set_cons_succ])))
        go_round
        case rel => exact ⟨k + 1, by omega, by go_num, ⟨by rw [has_take_succ hlt HX.out, HO.out, Bool.false_or]; exact beq_eq_false_iff_ne.2 (fun h => h1 h.symm)⟩⟩
        case measure => simp [intOf]; omega
    · obtain rfl : k = l.length := by omega
      go_wp2
      go_ret
      have := HO.out
      rw [List.take_length] at this
      exact ⟨-1, rfl, by rw [this]; rfl, rfl⟩
set_option maxHeartbeats 400000 in
theorem contains_any (A : Option Addr) (c : Nat) (l : List Int) (n : Int) (w : World) {N : Nat} (hr : Rd (ints .i64) 1 w A N l) :
    Calls Try.prog 28 #[.slice A N c, .int .i64 n] w (fun e w' => e = .returned (.bool (has l n)) ∧ w = w') := by
  obtain rfl := hr.len.1
  have HR := Aside0.mk hr
  clear hr
  generalize hb : has l n = b
  have HB := Aside0.mk hb
  clear hb
  go_enter Try.func28, Try.ntmps28
  go_wp2_with (go_at_call 35; (with_reducible refine (index_any _ _ l n _ HR.out).mono ?_); rintro e w' ⟨r, rfl, hr, rfl⟩; rw [HB.out] at hr; subst hr)
  go_ret
  exact ⟨rfl, rfl⟩
set_option maxHeartbeats 400000 in
theorem has_any (A : Option Addr) (c : Nat) (l : List Int) (n : Int) (w : World) {N : Nat} (hr : Rd (ints .i64) 1 w A N l) :
    Calls Try.prog 13 #[.slice A N c, .int .i64 n] w (fun e w' => e = .returned (.bool (has l n)) ∧ w = w') := by
  obtain rfl := hr.len.1
  have HR := Aside0.mk hr
  clear hr
  generalize hc : has l n = b
  have HC := Aside0.mk hc
  clear hc
  go_enter Try.func13, Try.ntmps13
  go_wp2_with (go_at_call 28; (with_reducible refine (contains_any _ _ l n _ HR.out).mono ?_); rintro e w' ⟨rfl, rfl⟩; rw [HC.out])
  go_ret
  exact ⟨rfl, rfl⟩
set_option maxHeartbeats 400000 in
theorem refHas_any (A : Option Addr) (c : Nat) (l : List Int) (n : Int) (w : World) {N : Nat} (hr : Rd (ints .i64) 1 w A N l) :
    Calls Try.prog 14 #[.slice A N c, .int .i64 n] w (fun e w' => e = .returned (.bool (has l n)) ∧ w = w') := by
  obtain rfl := hr.len.1
  have hm := hr.len.2
  have HR := Aside0.mk hr
  clear hr
  go_enter Try.func14, Try.ntmps14
  go_wp2
  go_loop [9] (fun v => ∃ k : Nat, k ≤ l.length ∧ v = .int .i64 k ∧ Aside0 (has (l.take k) n = false)) (fun v => l.length - (intOf v).toNat)
  case atStart => exact ⟨0, Nat.zero_le _, rfl, ⟨rfl⟩⟩
  case round =>
    obtain ⟨k, hk, rfl, HO⟩ := hrel
    by_cases hlt : k < l.length
    · obtain ⟨ad, rfl⟩ := HR.out.addr (by omega)
      generalize hx : l.getD k 0 = x
      have HX := Aside0.mk hx
      clear hx
      by_cases h1 : x = n
      · obtain rfl := h1
        have hb1 : (x == x) = true := beq_iff_eq.2 rfl
        go_wp2_with (first | ((with_reducible refine gLd rfl ?_); refine rd_load1 (enc := Value.int .i64) HR.out rfl rfl (i := k) rfl hlt 0 ((agT _ (by decide)).trans rfl) ?_; intro x hx; obtain rfl := HX.out.symm.trans hx; (try simp only [Act.put, List.setIfInBounds_toArray, List.set_cons_zero, List.set_cons_succ])))
        go_ret
        exact ⟨by rw [has_at hlt HX.out]; rfl, rfl⟩
      · have hb1 : (x == n) = false := beq_eq_false_iff_ne.2 h1
        go_wp2_with (first | ((with_reducible refine gLd rfl ?_); refine rd_load1 (enc := Value.int .i64) HR.out rfl rfl (i := k) rfl hlt 0 ((agT _ (by decide)).trans rfl) ?_; intro x hx; obtain rfl := HX.out.symm.trans hx; (try simp only [Act.put, List.setIfInBounds_toArray, List.set_cons_zero, List.set_cons_succ])))
        go_round
        case rel => exact ⟨k + 1, by omega, by go_num, ⟨by rw [has_take_succ hlt HX.out, HO.out, Bool.false_or]; exact hb1⟩⟩
        case measure => simp [intOf]; omega
    · obtain rfl : k = l.length := by omega
      go_wp2
      go_ret
      have := HO.out
      rw [List.take_length] at this
      exact ⟨by rw [this]; rfl, rfl⟩
end Go.Proofs.Ytkfopjonhhldnaa.Nod
