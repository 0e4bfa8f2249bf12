import Derived.Test.YtekjihmepdhmeaaSlXq
import Derived.Test.YtekjihmepdhmeaaTyq
import Derived.WalkKit
import Derived.Outline
section
/- Lemmas towards the law: what of the text Nod0 it needs. -/
namespace Go.Proofs.Ytekjihmepdhmeaa.Nod
open Go.RowKit Go.Proofs.YtekjihmepdhmeaaW.PrintWords Go.Proofs.Ytekjihmepdhmeaa.Sl
/-- the first k elements may be a set's -/
def okTo (l : List Int) (k : Nat) : Prop := ∀ i, i < k → 1 ≤ l.getD i 0 ∧ l.getD i 0 ≤ 7 ∧ (0 < i → l.getD (i - 1) 0 < l.getD i 0)
instance (l : List Int) (k : Nat) : Decidable (okTo l k) := by unfold okTo; infer_instance
theorem okTo_zero (l : List Int) : okTo l 0 := fun i h => by omega
theorem okTo_succ {l : List Int} {k : Nat} {x : Int} (h : okTo l k) (hx : l.getD k 0 = x) (h1 : 1 ≤ x) (h2 : x ≤ 7) (h3 : 0 < k → l.getD (k - 1) 0 < x) : okTo l (k + 1) := by
  intro i hi
  by_cases e : i < k
  · exact h i e
  · obtain rfl : i = k := by omega
    rw [hx]
    exact ⟨h1, h2, h3⟩
/-- which lists are sets, the empty one among them -/
def isSet (l : List Int) : Bool := decide (okTo l l.length)
theorem isSet_false {l : List Int} {k : Nat} (hk : k < l.length) (h : ¬ okTo l (k + 1)) : isSet l = false :=
  decide_eq_false (fun h' => h (fun i hi => h' i (by omega)))
theorem not_okTo {l : List Int} {k : Nat} {x : Int} (hx : l.getD k 0 = x) (h : x < 1 ∨ 7 < x ∨ (0 < k ∧ x ≤ l.getD (k - 1) 0)) : ¬ okTo l (k + 1) := by
  intro h'
  have := h' k (by omega)
  rw [hx] at this
  rcases h with h | h | ⟨h0, h⟩
  · omega
  · omega
  · have h1 := this.2.2 h0
    omega
/-- sets of nodes: not empty -/
def good (l : List Int) : Bool := isSet l && decide (0 < l.length)
theorem take_succ_getD {α : Type} {l : List α} {k : Nat} (z : α) (h : k < l.length) : l.take (k + 1) = l.take k ++ [l.getD k z] := by
  rw [List.take_succ_eq_append_getElem h]
  simp [List.getD_eq_getElem?_getD, List.getElem?_eq_getElem h]
/-- whether one is there -/
def has (l : List Int) (n : Int) : Bool := l.contains n
theorem has_nil (n : Int) : has [] n = false := rfl
/-- a set's row as cells -/
def rowV (l : List Int) : List Value := [.bool (has l 0), .bool (has l 1), .bool (has l 2), .bool (has l 3), .bool (has l 4), .bool (has l 5), .bool (has l 6), .bool (has l 7)]
theorem rowV_succ {l : List Int} {k : Nat} {x : Int} (hk : k < l.length) (hx : l.getD k 0 = x) (h1 : 1 ≤ x) (h2 : x ≤ 7) : rowV (l.take (k + 1)) = (rowV (l.take k)).set x.toNat (.bool true) := by
  rw [take_succ_getD 0 hk, hx]
  obtain rfl | rfl | rfl | rfl | rfl | rfl | rfl : x = 1 ∨ x = 2 ∨ x = 3 ∨ x = 4 ∨ x = 5 ∨ x = 6 ∨ x = 7 := by omega
  all_goals simp [rowV, has]
/-- whether one is of a set -/
def inS (l : List Int) (j : Int) : Bool := isSet l && has l j
/-- the row that 'of' tells -/
def ofRow (l : List Int) : List Value := [.bool (inS l 0), .bool (inS l 1), .bool (inS l 2), .bool (inS l 3), .bool (inS l 4), .bool (inS l 5), .bool (inS l 6), .bool (inS l 7)]
end Go.Proofs.Ytekjihmepdhmeaa.Nod

end
section
/- Lemmas towards the law: what of the text Nod3c it needs. -/
namespace Go.Proofs.Ytekjihmepdhmeaa.Nod
open Go.RowKit Go.Proofs.YtekjihmepdhmeaaW.PrintWords Go.Proofs.Ytekjihmepdhmeaa.Sl
set_option linter.unusedVariables false
set_option linter.unusedSimpArgs false
set_option maxHeartbeats 400000 in
theorem refCheck_any (A : Option Addr) (c : Nat) (l : List Int) (w : World) {N : Nat} (hr : Rd (ints .i64) 1 w A N l) :
    Calls Try.prog 108 #[.slice A N c] w (fun e w' => e = .returned (.int .i64 (if good l then 0 else 1)) ∧ w = w') := by
  obtain rfl := hr.len.1
  have hm := hr.len.2
  have HR := Aside0.mk hr
  clear hr
  by_cases h0 : l.length = 0
  · have hg : good l = false := by unfold good; rw [h0]; simp
    rw [hg]
    have hz : ((l.length : Int) == 0) = true := by rw [h0]; rfl
    go_enter Try.func108, Try.ntmps108
    go_wp2
    go_ret
    exact ⟨rfl, rfl⟩
  · have hz : ((l.length : Int) == 0) = false := by rw [beq_eq_false_iff_ne]; omega
    go_enter Try.func108, Try.ntmps108
    go_wp2
    go_loop [3, 4, 10] (fun v3 v4 v10 => ∃ k : Nat, k ≤ l.length ∧ v10 = .int .i64 k ∧ Aside0 (okTo l k)) (fun _ _ v10 => l.length - (intOf v10).toNat)
    case atStart => exact ⟨0, Nat.zero_le _, rfl, ⟨okTo_zero l⟩⟩
    case round =>
      obtain ⟨k, hk, rfl, HO⟩ := hrel
      by_cases hlt : k < l.length
      · obtain ⟨ad, rfl⟩ := HR.out.addr (by omega)
        generalize hx : l.getD k 0 = x
        have HX := Aside0.mk hx
        clear hx
        by_cases h1 : x < 1
        · have hg : good l = false := by unfold good; rw [isSet_false hlt (not_okTo HX.out (by omega))]; rfl
          go_wp2_with (first | ((with_reducible refine gLd rfl ?_); refine rd_load1 (enc := Value.int .i64) HR.out rfl rfl (i := k) rfl hlt 0 ((agT _ (by decide)).trans rfl) ?_; intro x hx; obtain rfl := HX.out.symm.trans hx; (try simp only [aP, aN, aT, aZ, aS])))
          go_ret
          exact ⟨by first | rfl | (rw [hg]; rfl), rfl⟩
        · by_cases h2 : 7 < x
          · have hg : good l = false := by unfold good; rw [isSet_false hlt (not_okTo HX.out (by omega))]; rfl
            go_wp2_with (first | ((with_reducible refine gLd rfl ?_); refine rd_load1 (enc := Value.int .i64) HR.out rfl rfl (i := k) rfl hlt 0 ((agT _ (by decide)).trans rfl) ?_; intro x hx; obtain rfl := HX.out.symm.trans hx; (try simp only [aP, aN, aT, aZ, aS])))
            go_ret
            exact ⟨by first | rfl | (rw [hg]; rfl), rfl⟩
          · by_cases h3 : 0 < k
            · have hlt1 : k - 1 < l.length := by omega
              have hk1 : ((k : Int) - 1).toNat = k - 1 := by omega
              generalize hy : l.getD (k - 1) 0 = y
              have HY := Aside0.mk hy
              clear hy
              by_cases h4 : x ≤ y
              · have hg : good l = false := by unfold good; rw [isSet_false hlt (not_okTo HX.out (.inr (.inr ⟨h3, by rw [HY.out]; exact h4⟩)))]; rfl
                go_wp2_with (first | ((with_reducible refine gLd rfl ?_); refine rd_load1 (enc := Value.int .i64) HR.out rfl rfl (i := k) rfl hlt 0 ((agT _ (by decide)).trans rfl) ?_; intro x hx; obtain rfl := HX.out.symm.trans hx; (try simp only [aP, aN, aT, aZ, aS])) | ((with_reducible refine gLd rfl ?_); refine rd_load1 (enc := Value.int .i64) HR.out rfl rfl (i := k - 1) rfl hlt1 0 ((agT _ (by decide)).trans rfl) ?_; intro x hx; obtain rfl := HY.out.symm.trans hx; (try simp only [aP, aN, aT, aZ, aS])))
                go_ret
                exact ⟨by first | rfl | (rw [hg]; rfl), rfl⟩
              · go_wp2_with (first | ((with_reducible refine gLd rfl ?_); refine rd_load1 (enc := Value.int .i64) HR.out rfl rfl (i := k) rfl hlt 0 ((agT _ (by decide)).trans rfl) ?_; intro x hx; obtain rfl := HX.out.symm.trans hx; (try simp only [aP, aN, aT, aZ, aS])) | ((with_reducible refine gLd rfl ?_); refine rd_load1 (enc := Value.int .i64) HR.out rfl rfl (i := k - 1) rfl hlt1 0 ((agT _ (by decide)).trans rfl) ?_; intro x hx; obtain rfl := HY.out.symm.trans hx; (try simp only [aP, aN, aT, aZ, aS])))
                go_round
                case rel => exact ⟨k + 1, by omega, by go_num, ⟨okTo_succ HO.out HX.out (by omega) (by omega) (fun _ => by rw [HY.out]; omega)⟩⟩
                case measure => simp [intOf]; omega
            · go_wp2_with (first | ((with_reducible refine gLd rfl ?_); refine rd_load1 (enc := Value.int .i64) HR.out rfl rfl (i := k) rfl hlt 0 ((agT _ (by decide)).trans rfl) ?_; intro x hx; obtain rfl := HX.out.symm.trans hx; (try simp only [aP, aN, aT, aZ, aS])))
              go_round
              case rel => exact ⟨k + 1, by omega, by go_num, ⟨okTo_succ HO.out HX.out (by omega) (by omega) (fun h => absurd h h3)⟩⟩
              case measure => simp [intOf]; omega
      · obtain rfl : k = l.length := by omega
        have hg : good l = true := by
          unfold good isSet
          rw [Bool.and_eq_true]
          exact ⟨decide_eq_true HO.out, decide_eq_true (by omega)⟩
        go_wp2
        go_ret
        exact ⟨by first | rfl | (rw [hg]; rfl), rfl⟩
end Go.Proofs.Ytekjihmepdhmeaa.Nod

end
section
/- Lemmas towards the law: what of the text Nod3 it needs. -/
namespace Go.Proofs.Ytekjihmepdhmeaa.Nod
open Go.RowKit Go.Proofs.YtekjihmepdhmeaaW.PrintWords Go.Proofs.Ytekjihmepdhmeaa.Sl
set_option linter.unusedVariables false
set_option linter.unusedSimpArgs false
theorem take_eq_succ {l m : List Int} {k : Nat} {x : Int} (h : l.take k = m.take k) (hl : k < l.length) (hm : k < m.length) (hx : l.getD k 0 = x) (hy : m.getD k 0 = x) : l.take (k + 1) = m.take (k + 1) := by
  rw [take_succ_getD 0 hl, take_succ_getD 0 hm, h, hx, hy]
theorem ne_at {l m : List Int} {k : Nat} {x y : Int} (hx : l.getD k 0 = x) (hy : m.getD k 0 = y) (h : x ≠ y) : (l == m) = false := by
  rw [beq_eq_false_iff_ne]
  rintro rfl
  exact h (hx.symm.trans hy)
set_option maxHeartbeats 400000 in
theorem refSame_any (A B : Option Addr) (c c' : Nat) (l m : List Int) (w : World) {N N' : Nat} (hr : Rd (ints .i64) 1 w A N l) (hr' : Rd (ints .i64) 1 w B N' m) :
    Calls Try.prog 21 #[.slice A N c, .slice B N' c'] w (fun e w' => e = .returned (.bool (l == m)) ∧ Below w.heap.size w w') := by
  obtain rfl := hr.len.1
  obtain rfl := hr'.len.1
  have hm := hr.len.2
  have hm' := hr'.len.2
  have HR := Aside0.mk hr
  have HR' := Aside0.mk hr'
  clear hr hr'
  by_cases hlen : l.length = m.length
  · have hlm : ((l.length : Int) != (m.length : Int)) = false := by simp [hlen]
    have hle : l.length ≤ m.length := by omega
    have hge : m.length ≤ l.length := by omega
    have HL := Aside0.mk hlen
    clear hlen
    have HS := Aside0.mk (SH.start w)
    go_enter Try.func21, Try.ntmps21
    go_wp2
    go_loopw [5, 13] (fun v5 v13 wr => ∃ k : Nat, k ≤ l.length ∧ v13 = .int .i64 k ∧ Aside0 (l.take k = m.take k) ∧ Aside0 (SH w wr [])) (fun _ v13 _ => l.length - (intOf v13).toNat)
    case atStart => exact ⟨0, Nat.zero_le _, rfl, ⟨rfl⟩, HS⟩
    case round =>
      clear HS
      obtain ⟨k, hk, rfl, HO, HS⟩ := hrel
      by_cases hlt : k < l.length
      · obtain ⟨ad, rfl⟩ := HR.out.addr (by omega)
        obtain ⟨ad', rfl⟩ := HR'.out.addr (by omega)
        have HRS := Aside0.mk (HR.out.rds [])
        have HRS' := Aside0.mk (HR'.out.rds [])
        have hlt' : k < m.length := by omega
        generalize hx : l.getD k 0 = x
        have HX := Aside0.mk hx
        clear hx
        generalize hy : m.getD k 0 = y
        have HY := Aside0.mk hy
        clear hy
        by_cases he : x = y
        · obtain rfl := he
          have hb : (x != x) = false := by simp
          go_wp2
          ((with_reducible refine wp_region_sh mixed (by kernel_rfl) HS.out ?_); (repeat' (first | go_big_quiet_skip | ((with_reducible refine qMv rfl ?_); go_big_quiet_step (fail)) | ((with_reducible refine qAs rfl ?_); go_big_quiet_step (fail)) | ((with_reducible refine qPk rfl ?_); go_big_quiet_step (fail)) | ((with_reducible refine qLd rfl ?_); refine q_rd1 (enc := Value.int .i64) HRS.out rfl rfl (i := k) rfl hlt 0 ((agT _ (by decide)).trans rfl) ?_; intro x hx; obtain rfl := HX.out.symm.trans hx; (try simp only [aP, aN, aT, aZ, aS])) | ((with_reducible refine qLd rfl ?_); refine q_rd1 (enc := Value.int .i64) HRS'.out rfl rfl (i := k) rfl hlt' 0 ((agT _ (by decide)).trans rfl) ?_; intro x hx; obtain rfl := HY.out.symm.trans hx; (try simp only [aP, aN, aT, aZ, aS])) | ((with_reducible refine qAny ?_); refine q_val rfl (fun w hs => by (repeat (rename ∀ (_ : Act) (_ : World), _ => hK9; clear hK9)); go_simp; rfl) ?_; try simp only [aP, aN, aT, aZ, aS]))); all_goals (refine wpQuiet_nil ?_; clear HS; intro w1 HS1; have HS := Aside0.mk HS1; clear HS1))
          go_wp2
          go_roundw
          case rel => exact ⟨k + 1, by omega, by go_num, ⟨take_eq_succ HO.out hlt hlt' HX.out HY.out⟩, HS⟩
          case measure => simp [intOf]; omega
        · have hb : (x != y) = true := by simpa using he
          have hne := ne_at HX.out HY.out he
          go_wp2
          ((with_reducible refine wp_region_sh mixed (by kernel_rfl) HS.out ?_); (repeat' (first | go_big_quiet_skip | ((with_reducible refine qMv rfl ?_); go_big_quiet_step (fail)) | ((with_reducible refine qAs rfl ?_); go_big_quiet_step (fail)) | ((with_reducible refine qPk rfl ?_); go_big_quiet_step (fail)) | ((with_reducible refine qLd rfl ?_); refine q_rd1 (enc := Value.int .i64) HRS.out rfl rfl (i := k) rfl hlt 0 ((agT _ (by decide)).trans rfl) ?_; intro x hx; obtain rfl := HX.out.symm.trans hx; (try simp only [aP, aN, aT, aZ, aS])) | ((with_reducible refine qLd rfl ?_); refine q_rd1 (enc := Value.int .i64) HRS'.out rfl rfl (i := k) rfl hlt' 0 ((agT _ (by decide)).trans rfl) ?_; intro x hx; obtain rfl := HY.out.symm.trans hx; (try simp only [aP, aN, aT, aZ, aS])) | ((with_reducible refine qAny ?_); refine q_val rfl (fun w hs => by (repeat (rename ∀ (_ : Act) (_ : World), _ => hK9; clear hK9)); go_simp; rfl) ?_; try simp only [aP, aN, aT, aZ, aS]))); all_goals (refine wpQuiet_nil ?_; clear HS; intro w1 HS1; have HS := Aside0.mk HS1; clear HS1))
          go_wp2
          go_ret
          exact ⟨by first | rfl | (rw [hne]; rfl), HS.out.below⟩
      · obtain rfl : k = l.length := by omega
        have hb : (l == m) = true := by
          have := HO.out
          rw [List.take_length, HL.out, List.take_length] at this
          rw [this]; simp
        go_wp2
        go_ret
        exact ⟨by first | rfl | (rw [hb]; rfl), HS.out.below⟩
  · have hlm : ((l.length : Int) != (m.length : Int)) = true := by rw [bne_iff_ne]; omega
    have hne : (l == m) = false := by
      rw [beq_eq_false_iff_ne]
      rintro rfl
      exact hlen rfl
    clear hlen
    go_enter Try.func21, Try.ntmps21
    go_wp2
    go_ret
    exact ⟨by first | rfl | (rw [hne]; rfl), Below.refl _ _⟩
end Go.Proofs.Ytekjihmepdhmeaa.Nod

end
