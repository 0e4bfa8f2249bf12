/- Lemmas towards the law: what of the text Jud2 it needs. -/
import Derived.Test.YtkggchahhpmpbaaJud1q
import Derived.WalkKit
namespace Go.Proofs.Ytkggchahhpmpbaa.Jud
open Go.RowKit Go.Proofs.YtkggchahhpmpbaaW.PrintWords Go.Proofs.Ytkggchahhpmpbaa.Sl
set_option linter.unusedVariables false
set_option linter.unusedSimpArgs false
def IdxIs (n : Int) (l : List Int) (r : Int) : Prop := (r = -1 ∧ ∀ j, j < l.length → l.getD j 0 ≠ n) ∨ (∃ i : Nat, r = i ∧ i < l.length ∧ l.getD i 0 = n ∧ ∀ j, j < i → l.getD j 0 ≠ n)
theorem idx_isIn {n : Int} {l : List Int} {r : Int} (h : IdxIs n l r) : decide (0 ≤ r) = isIn l n := by
  unfold isIn
  rw [Bool.eq_iff_iff, decide_eq_true_eq, decide_eq_true_eq]
  rcases h with ⟨rfl, h⟩ | ⟨i, rfl, hi, h, _⟩
  · constructor
    · intro h; omega
    · intro hm
      obtain ⟨j, hj, e⟩ := List.getElem_of_mem hm
      refine absurd ?_ (h j hj)
      rw [List.getD_eq_getElem?_getD, List.getElem?_eq_getElem hj, Option.getD_some]
      exact e
  · constructor
    · intro _
      rw [List.getD_eq_getElem?_getD, List.getElem?_eq_getElem hi, Option.getD_some] at h
      rw [← h]
      exact List.getElem_mem hi
    · intro _; omega
set_option maxHeartbeats 400000 in
theorem index_any (A : Option Addr) (c : Nat) (l : List Int) (n : Int) (w : World) {N : Nat} (hr : Rd (ints .i64) 1 w A N l) :
    Calls Try.prog 42 #[.slice A N c, .int .i64 n] w (fun e w' => (∃ r, e = .returned (.int .i64 r) ∧ IdxIs n l r) ∧ w = w') := by
  obtain rfl := hr.len.1
  have hm := hr.len.2
  have HR := Aside0.mk hr
  clear hr
  go_enter Try.func42, Try.ntmps42
  go_wp2
  go_loop [8] (fun v => ∃ k : Nat, k ≤ l.length ∧ v = .int .i64 k ∧ Aside0 (∀ j, j < k → l.getD j 0 ≠ n)) (fun v => l.length - (intOf v).toNat)
  case atStart => exact ⟨0, Nat.zero_le _, rfl, ⟨fun j h => absurd h (Nat.not_lt_zero j)⟩⟩
  case round =>
    obtain ⟨k, hk, rfl, HO⟩ := hrel
    by_cases hlt : k < l.length
    · obtain ⟨ad, rfl⟩ := HR.out.addr (by omega)
      generalize hx : l.getD k 0 = x
      have HX := Aside0.mk hx
      clear hx
      by_cases h1 : n = x
      · obtain rfl := h1
        have hb1 : (n == n) = true := beq_iff_eq.2 rfl
        go_wp2_with (first | ((with_reducible refine gLd rfl ?_); refine rd_load1 (enc := Value.int .i64) HR.out rfl rfl (i := k) rfl hlt 0 ((agT _ (by decide)).trans rfl) ?_; intro x hx; obtain rfl := HX.out.symm.trans hx; (try simp only [aP, aN, aT, aZ, aS])))
        go_ret
        exact ⟨⟨_, rfl, .inr ⟨k, rfl, hlt, HX.out, HO.out⟩⟩, rfl⟩
      · have hb1 : (n == x) = false := beq_eq_false_iff_ne.2 h1
        go_wp2_with (first | ((with_reducible refine gLd rfl ?_); refine rd_load1 (enc := Value.int .i64) HR.out rfl rfl (i := k) rfl hlt 0 ((agT _ (by decide)).trans rfl) ?_; intro x hx; obtain rfl := HX.out.symm.trans hx; (try simp only [aP, aN, aT, aZ, aS])))
        go_round
        case rel =>
          refine ⟨k + 1, by omega, by go_num, ⟨fun j hj => ?_⟩⟩
          by_cases hjk : j < k
          · exact HO.out j hjk
          · obtain rfl : j = k := by omega
            rw [HX.out]
            exact fun e => h1 e.symm
        case measure => simp [intOf]; omega
    · obtain rfl : k = l.length := by omega
      go_wp2
      go_ret
      exact ⟨⟨_, rfl, .inl ⟨rfl, HO.out⟩⟩, rfl⟩
set_option maxHeartbeats 400000 in
theorem contains_any (A : Option Addr) (c : Nat) (l : List Int) (n : Int) (w : World) {N : Nat} (hr : Rd (ints .i64) 1 w A N l) :
    Calls Try.prog 26 #[.slice A N c, .int .i64 n] w (fun e w' => e = .returned (.bool (isIn l n)) ∧ w = w') := by
  obtain rfl := hr.len.1
  have HR := Aside0.mk hr
  clear hr
  generalize hb : isIn l n = b
  have HB := Aside0.mk hb
  clear hb
  go_enter Try.func26, Try.ntmps26
  go_wp2_with (go_at_call 42; (with_reducible refine (index_any _ _ l n _ HR.out).mono ?_); rintro e w' ⟨⟨r, rfl, hr⟩, rfl⟩; replace hr := idx_isIn hr; rw [HB.out] at hr; subst hr)
  go_ret
  exact ⟨rfl, rfl⟩
def MayPost (l : List Int) (w : World) (e : Ending) (w' : World) : Prop := ∃ g, e = .returned (.slice (some ⟨g, 0, none⟩) l.length l.length) ∧ SH w w' [blk g (l.map (Value.int .i64)) 3]
set_option maxHeartbeats 400000 in
theorem may_any (within : Bool) (k : Int) (w : World) : Calls Try.prog 27 #[.bool within, .int .u8 k] w (MayPost (mayBe within k) w) := by
  have HS := Aside0.mk (SH.start w)
  generalize hm : mayBe within k = m
  have HM := Aside0.mk hm
  clear hm
  cases within <;> (cases h1 : (k == 66) <;> cases h2 : (k == 81)) <;>
    (go_enter Try.func27, Try.ntmps27
     go_wp2_with (first | ((first | ((first | ((with_reducible refine gA rfl ?_); refine sh_alloc HS.out rfl rfl (zeT _ (by decide)) ?_) | ((with_reducible refine gB rfl ?_); refine bx HS.out rfl rfl ?_; first | refine bv (v := .agg (List.toArray _)) rfl ?_ | refine bv (v := .int _ _) rfl ?_ | refine bv (v := .slice _ _ _) rfl ?_ | refine bv (v := .bool _) rfl ?_ | refine bv (v := .pointer _) rfl ?_ | refine bv (v := .string _) rfl ?_ | refine bv (v := .map _) rfl ?_ | refine bv (v := .func _ _ _) rfl ?_) | ((with_reducible refine gL rfl ?_); refine sh_lit HS.out rfl rfl (by go_simp; exact ⟨⟨rfl, rfl⟩, rfl⟩) ?_)); clear HS; intro g w1 hg HS1; (simp only [zeF, segOf, aL, aC, aE] at HS1); have HS := Aside0.mk HS1; clear HS1)); try simp only [aP, aN, aT, aZ, aS]))
     go_ret
     rw [← HM.out]
     simp only [mayBe, h1, h2]
     exact ⟨_, rfl, HS.out⟩)
end Go.Proofs.Ytkggchahhpmpbaa.Jud
