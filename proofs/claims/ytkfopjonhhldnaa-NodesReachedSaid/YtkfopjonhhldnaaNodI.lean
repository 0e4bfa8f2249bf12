import Derived.Test.YtkfopjonhhldnaaNod1
import Derived.Test.YtkfopjonhhldnaaNod3
import Derived.Test.YtkfopjonhhldnaaSl4
import Derived.Test.YtkfopjonhhldnaaSl5
import Derived.Test.YtkfopjonhhldnaaMap
import Derived.Deep.DeepCutAuto
import Derived.IntWalk
namespace Go.Proofs.Ytkfopjonhhldnaa.Nod
open Go.RowKit Go.Proofs.YtkfopjonhhldnaaW.PrintWords Go.Proofs.Ytkfopjonhhldnaa.Sl
set_option linter.unusedVariables false
set_option linter.unusedSimpArgs false
/-! The library's sort of a few numbers. -/
theorem countP_swap {l : List Int} {i j : Nat} (hi : i < l.length) (hj : j < l.length) (hij : i ≠ j) (p : Int → Bool) : ((l.set i l[j]).set j l[i]).countP p = l.countP p := by
  have hj' : j < (l.set i l[j]).length := by rw [List.length_set]; exact hj
  rw [List.countP_set hj', List.countP_set hi, List.getElem_set_ne hij]
  have h1 : (if p l[i] = true then 1 else 0) ≤ l.countP p := by
    split
    · exact List.countP_pos_iff.2 ⟨_, List.getElem_mem hi, by assumption⟩
    · omega
  generalize (if p l[i] = true then 1 else 0) = a at *
  generalize (if p l[j] = true then 1 else 0) = b at *
  omega
/-- sorted up to i, but for what stands at j -/
def Ins (l : List Int) (i j : Nat) : Prop := ∀ p q, p < q → q ≤ i → q ≠ j → l.getD p 0 ≤ l.getD q 0
def Srt (l : List Int) (i : Nat) : Prop := ∀ p q, p < q → q < i → l.getD p 0 ≤ l.getD q 0
theorem getD_set {l : List Int} {i k : Nat} {a : Int} (hi : i < l.length) : (l.set i a).getD k 0 = if k = i then a else l.getD k 0 := by
  rw [List.getD_eq_getElem?_getD, List.getElem?_set]
  by_cases h : k = i
  · subst h
    simp [hi]
  · rw [if_neg (fun e => h e.symm), if_neg h, List.getD_eq_getElem?_getD]
theorem Ins.start {l : List Int} {i : Nat} (h : Srt l i) : Ins l i i := fun p q h1 h2 h3 => h p q h1 (by omega)
theorem Ins.stop {l : List Int} {i j : Nat} (h : Ins l i j) (hj : j = 0 ∨ l.getD (j - 1) 0 ≤ l.getD j 0) : Srt l (i + 1) := by
  intro p q h1 h2
  by_cases hq : q = j
  · subst hq
    rcases hj with h0 | h0
    · omega
    · by_cases hp : p = q - 1
      · subst hp; exact h0
      · exact Int.le_trans (h p (q - 1) (by omega) (by omega) (by omega)) h0
  · exact h p q h1 (by omega) hq
theorem Ins.swap {l : List Int} {i j : Nat} (h : Ins l i j) (hj : 0 < j) (hji : j ≤ i) (hi : i < l.length) (hlt : l.getD j 0 < l.getD (j - 1) 0) : Ins ((l.set j (l.getD (j - 1) 0)).set (j - 1) (l.getD j 0)) i (j - 1) := by
  intro p q h1 h2 h3
  have e : ∀ k, ((l.set j (l.getD (j - 1) 0)).set (j - 1) (l.getD j 0)).getD k 0 = if k = j - 1 then l.getD j 0 else if k = j then l.getD (j - 1) 0 else l.getD k 0 := fun k => by
    rw [getD_set (by rw [List.length_set]; omega), getD_set (by omega)]
  rw [e p, e q, if_neg h3]
  by_cases hqj : q = j
  · rw [if_pos hqj]
    subst hqj
    by_cases hp : p = q - 1
    · rw [if_pos hp]; omega
    · rw [if_neg hp, if_neg (by omega)]
      exact h p (q - 1) (by omega) (by omega) (by omega)
  · rw [if_neg hqj]
    by_cases hp : p = j - 1
    · rw [if_pos hp]
      exact Int.le_trans (Int.le_of_lt hlt) (h (j - 1) q (by omega) h2 hqj)
    · rw [if_neg hp]
      by_cases hp2 : p = j
      · rw [if_pos hp2]
        exact h (j - 1) q (by omega) h2 hqj
      · rw [if_neg hp2]
        exact h p q h1 h2 hqj
/-- what lies in memory -/
def Mem (cs : List Value) (xs : List Int) : Prop := xs.length ≤ cs.length ∧ ∀ i, i < xs.length → cs[i]? = some (.int .u64 (xs.getD i 0))
theorem Mem.set {cs : List Value} {xs : List Int} (h : Mem cs xs) (i : Nat) (a : Int) (hi : i < xs.length) : Mem (cs.set i (.int .u64 a)) (xs.set i a) := by
  refine ⟨by rw [List.length_set, List.length_set]; exact h.1, fun k hk => ?_⟩
  rw [List.length_set] at hk
  rw [getD_set hi, List.getElem?_set]
  by_cases hik : k = i
  · subst hik
    rw [if_pos rfl, if_pos rfl, if_pos (by have := h.1; omega)]
  · rw [if_neg (fun e => hik e.symm), if_neg hik]
    exact h.2 k hk
section
variable {P : Program} {a : Act} {Q : Exit → Act → World → Prop} {w0 w : World} {is : List HP} {fuel : Nat} {listed : Array Bool} {ops : Array Oper}
theorem op_one {i : Nat} {o : Oper} (hi : ops[i]? = some o) (h : wpList P ops (onlyN fun a' w' => SH w0 w' is ∧ wpAnyH P .any ops Q (fun w => SH w0 w is) fuel (listed.setIfInBounds i true) a' w') [o] a w) : wpOp P ops Q i (fun a' w' => SH w0 w' is ∧ wpAnyH P .any ops Q (fun w => SH w0 w is) fuel (listed.setIfInBounds i true) a' w') a w := by
  unfold wpOp
  rw [hi]
  unfold wpList at h
  split at h
  · rename_i hw
    show if _ then _ else _
    rw [if_pos hw]
    rcases h with h | ⟨_, _, _, h⟩
    · exact .inl (upon_only _ h)
    · exact h.elim
  · rename_i hw
    show if _ then _ else _
    rw [if_neg hw]
    exact h
/-- Two may come up: whichever does. -/
theorem h_two (i j : Nat) {oi oj : Oper} (hi : ops[i]? = some oi) (hj : ops[j]? = some oj) (hr : Region.ready .any ops listed = [i, j])
    (h1 : wpList P ops (onlyN fun a' w' => SH w0 w' is ∧ wpAnyH P .any ops Q (fun w => SH w0 w is) fuel (listed.setIfInBounds i true) a' w') [oi] a w)
    (h2 : wpList P ops (onlyN fun a' w' => SH w0 w' is ∧ wpAnyH P .any ops Q (fun w => SH w0 w is) fuel (listed.setIfInBounds j true) a' w') [oj] a w) : wpAnyH P .any ops Q (fun w => SH w0 w is) (fuel + 1) listed a w := by
  refine wpAnyH_all hr (by simp) (fun k hk => ?_)
  rcases List.mem_cons.1 hk with rfl | hk
  · exact op_one hi h1
  · obtain rfl : k = j := by simpa using hk
    exact op_one hj h2
end
theorem isNaN_any (x : Int) (w : World) : Calls Try.prog 55 #[.int .u64 x] w (fun e w' => e = .returned (.bool false) ∧ Below w.heap.size w w') := by
  have HS := Aside0.mk (SH.start w)
  go_enter Try.func55, Try.ntmps55
  go_wp2
  go_ret
  exact ⟨by first | rfl | simp, HS.out.below⟩
theorem less_any (x y : Int) (w : World) : Calls Try.prog 45 #[.int .u64 x, .int .u64 y] w (fun e w' => e = .returned (.bool (decide (x < y))) ∧ Below w.heap.size w w') := by
  have HS := Aside0.mk (SH.start w)
  go_enter Try.func45, Try.ntmps45
  go_wp2_with (first | (go_at_call 55; (with_reducible refine (isNaN_any _ _).mono ?_); rintro e w2 ⟨rfl, hb⟩;  have HS1 := HS.out.quiet hb; clear HS hb; have HS := Aside0.mk HS1; clear HS1))
  go_ret
  exact ⟨by first | rfl | simp, HS.out.below⟩
set_option maxHeartbeats 3200000 in
set_option maxRecDepth 100000 in
theorem insSort_any {w0 : World} (g : Nat) (cs : List Value) (xs : List Int) (c : Nat) (w : World) (HS0 : SH w0 w [blk g cs 34]) (hm : Mem cs xs) (hc : xs.length ≤ c) (hl : xs.length ≤ 9223372036854775807) :
    Calls Try.prog 39 #[.slice (some ⟨g, 0, none⟩) xs.length c, .int .i64 0, .int .i64 xs.length] w
      (fun e w' => ∃ (cs' : List Value) (ys : List Int), e = .returned (.tuple #[]) ∧ ys.length = xs.length ∧ Srt ys ys.length ∧ (∀ p, ys.countP p = xs.countP p) ∧ Mem cs' ys ∧ SH w0 w' [blk g cs' 34]) := by
  have HS := Aside0.mk HS0
  have HM := Aside0.mk hm
  clear HS0 hm
  obtain ⟨n, hn⟩ : ∃ n, xs.length = n := ⟨_, rfl⟩
  rw [hn] at hc hl ⊢
  have HN := Aside0.mk hn
  clear hn
  go_enter Try.func39, Try.ntmps39
  go_wp2
  by_cases h0 : n = 0
  · subst h0
    go_loopw [6] (fun v6 wr => v6 = .int .i64 1 ∧ Aside0 (SH w0 wr [blk g cs 34])) (fun _ _ => 0)
    case atStart => exact ⟨rfl, HS⟩
    case round =>
      clear HS
      obtain ⟨rfl, HS⟩ := hrel
      go_wp2
      (try simp only [Exit.inBlock, Exit.then]); first | refine bodyPost_end (results_none rfl _ _ _) rfl ?_ | refine bodyPost_ret (results_none rfl _ _ _) rfl ?_
      have hx : xs = [] := List.length_eq_zero_iff.1 HN.out
      exact ⟨cs, xs, rfl, HN.out, by rw [hx]; intro p q h1 h2; simp at h2, fun p => rfl, HM.out, HS.out⟩
  · go_loopw [6, 7] (fun v6 v7 wr => ∃ (i : Nat) (cs1 : List Value) (ys : List Int), 1 ≤ i ∧ i ≤ n ∧ v6 = .int .i64 i ∧ ys.length = n ∧ Aside0 (Srt ys i) ∧ Aside0 (∀ p, ys.countP p = xs.countP p) ∧ Aside0 (Mem cs1 ys) ∧ Aside0 (SH w0 wr [blk g cs1 34])) (fun v6 _ _ => n - (intOf v6).toNat)
    case atStart => exact ⟨1, cs, xs, Nat.le_refl _, by omega, by rfl, HN.out, ⟨fun p q h1 h2 => by omega⟩, ⟨fun p => rfl⟩, HM, HS⟩
    case round =>
      clear HS HM
      obtain ⟨i, cs1, ys, hi1, hi2, rfl, hyl, HSR, HCP, HM, HS⟩ := hrel
      by_cases hlt : i < n
      · have HYL := Aside0.mk hyl
        have HIN := Aside0.mk (Ins.start HSR.out)
        clear HSR hyl
        go_wp2
        go_loopw [7] (fun v7 wr => ∃ (j : Nat) (cs1 : List Value) (ys : List Int), j ≤ i ∧ v7 = .int .i64 j ∧ Aside0 (ys.length = n) ∧ Aside0 (Ins ys i j) ∧ Aside0 (∀ p, ys.countP p = xs.countP p) ∧ Aside0 (Mem cs1 ys) ∧ Aside0 (SH w0 wr [blk g cs1 34])) (fun v7 _ => (intOf v7).toNat)
        case atStart => exact ⟨i, cs1, ys, Nat.le_refl _, rfl, HYL, HIN, HCP, HM, HS⟩
        case round =>
          clear HS HM HCP HIN HYL
          obtain ⟨j, cs1, ys, hj, rfl, HYL, HIN, HCP, HM, HS⟩ := hrel
          cases j with
          | zero =>
            go_upto_region 4 with fail
            ((with_reducible refine wp_region_sh mixed (by kernel_rfl) HS.out ?_); (repeat' (first | go_big_quiet_skip | ((with_reducible refine qMv rfl ?_); go_big_quiet_step (fail)) | ((with_reducible refine qAs rfl ?_); go_big_quiet_step (fail)) | ((with_reducible refine qPk rfl ?_); go_big_quiet_step (fail)) | ((with_reducible refine qAny ?_); refine q_val rfl (fun w hs => by (repeat (rename ∀ (_ : Act) (_ : World), _ => hK9; clear hK9)); go_simp; rfl) ?_; try simp only [Act.put, List.setIfInBounds_toArray, List.set_cons_zero, List.set_cons_succ]))); all_goals (refine wpQuiet_nil ?_; clear HS; intro w1 HS1; have HS := Aside0.mk HS1; clear HS1))
            go_wp2
            go_roundw
            case rel => exact ⟨i + 1, cs1, ys, by omega, by omega, by go_num, HYL.out, ⟨HIN.out.stop (.inl rfl)⟩, HCP, HM, HS⟩
            case measure => simp [intOf]; omega
          | succ j =>
            have hj1 : j + 1 < ys.length := by rw [HYL.out]; omega
            have HV1 := Aside0.mk (HM.out.2 (j + 1) hj1)
            have HV0 := Aside0.mk (HM.out.2 j (by omega))
            obtain ⟨a, ha⟩ : ∃ a, ys.getD (j + 1) 0 = a := ⟨_, rfl⟩
            obtain ⟨b, hb⟩ : ∃ b, ys.getD j 0 = b := ⟨_, rfl⟩
            have HA := Aside0.mk ha
            have HB := Aside0.mk hb
            rw [ha] at HV1
            rw [hb] at HV0
            have HJ1 := Aside0.mk hj1
            have q0 : (0 : Int) ≤ (j : Int) + 1 := by omega
            have q1 : (j : Int) + 1 < (n : Int) := by omega
            have q2 : (j : Int) < (n : Int) := by omega
            have q3 : IntKind.i64.wrap (j : Int) = (j : Int) := IntWalk.i64_in _ (by omega)
            clear ha hb hj1
            cases hab : decide (a < b) with
            | false =>
              have HAB := Aside0.mk hab
              go_upto_region 4 with fail
              ((with_reducible refine wp_region_sh mixed (by kernel_rfl) HS.out ?_); (repeat' (first | go_big_quiet_skip | ((with_reducible refine qMv rfl ?_); go_big_quiet_step (fail)) | ((with_reducible refine qAs rfl ?_); go_big_quiet_step (fail)) | ((with_reducible refine qPk rfl ?_); go_big_quiet_step (fail)) | ((with_reducible refine qLd rfl ?_); refine q_load rfl rfl rfl 0 rfl ((agT _ (by decide)).trans rfl) HV1.out ?_; (try simp only [Act.put, List.setIfInBounds_toArray, List.set_cons_zero, List.set_cons_succ])) | ((with_reducible refine qLd rfl ?_); refine q_load rfl rfl rfl 0 rfl ((agT _ (by decide)).trans rfl) HV0.out ?_; (try simp only [Act.put, List.setIfInBounds_toArray, List.set_cons_zero, List.set_cons_succ])) | ((with_reducible refine qCl rfl ?_); refine q_call rfl rfl (vs := #[.int .u64 a, .int .u64 b]) (by rw [List.map_toArray]; rfl) (fnT _ (by decide)) (fun w1 hs => by have := less_any a b w1; rw [HAB.out] at this; exact this) ?_; (try simp only [Act.put, List.setIfInBounds_toArray, List.set_cons_zero, List.set_cons_succ])) | ((with_reducible refine qAny ?_); refine q_val rfl (fun w hs => by (repeat (rename ∀ (_ : Act) (_ : World), _ => hK9; clear hK9)); go_simp; rfl) ?_; try simp only [Act.put, List.setIfInBounds_toArray, List.set_cons_zero, List.set_cons_succ]))); all_goals (refine wpQuiet_nil ?_; clear HS; intro w1 HS1; have HS := Aside0.mk HS1; clear HS1))
              go_wp2
              go_roundw
              case rel => exact ⟨i + 1, cs1, ys, by omega, by omega, by go_num, HYL.out, ⟨HIN.out.stop (.inr (by rw [show j + 1 - 1 = j from rfl, HA.out, HB.out]; have := of_decide_eq_false HAB.out; omega))⟩, HCP, HM, HS⟩
              case measure => simp [intOf]; omega
            | true =>
              have HAB := Aside0.mk hab
              go_upto_region 4 with fail
              ((with_reducible refine wp_region_sh mixed (by kernel_rfl) HS.out ?_); (repeat' (first | go_big_quiet_skip | ((with_reducible refine qMv rfl ?_); go_big_quiet_step (fail)) | ((with_reducible refine qAs rfl ?_); go_big_quiet_step (fail)) | ((with_reducible refine qPk rfl ?_); go_big_quiet_step (fail)) | ((with_reducible refine qLd rfl ?_); refine q_load rfl rfl rfl 0 rfl ((agT _ (by decide)).trans rfl) HV1.out ?_; (try simp only [Act.put, List.setIfInBounds_toArray, List.set_cons_zero, List.set_cons_succ])) | ((with_reducible refine qLd rfl ?_); refine q_load rfl rfl rfl 0 rfl ((agT _ (by decide)).trans rfl) HV0.out ?_; (try simp only [Act.put, List.setIfInBounds_toArray, List.set_cons_zero, List.set_cons_succ])) | ((with_reducible refine qCl rfl ?_); refine q_call rfl rfl (vs := #[.int .u64 a, .int .u64 b]) (by rw [List.map_toArray]; rfl) (fnT _ (by decide)) (fun w1 hs => by have := less_any a b w1; rw [HAB.out] at this; exact this) ?_; (try simp only [Act.put, List.setIfInBounds_toArray, List.set_cons_zero, List.set_cons_succ])) | ((with_reducible refine qAny ?_); refine q_val rfl (fun w hs => by (repeat (rename ∀ (_ : Act) (_ : World), _ => hK9; clear hK9)); go_simp; rfl) ?_; try simp only [Act.put, List.setIfInBounds_toArray, List.set_cons_zero, List.set_cons_succ]))); all_goals (refine wpQuiet_nil ?_; clear HS; intro w1 HS1; have HS := Aside0.mk HS1; clear HS1))
              go_upto_region 6 with fail
              have HM1 := HM
              have HYS := Aside0.mk (show ((ys.set (j + 1) b).set j a).length = n by rw [List.length_set, List.length_set]; exact HYL.out)
              have HIS := Aside0.mk (show Ins ((ys.set (j + 1) b).set j a) i j by have h := HIN.out.swap (by omega) hj (by rw [HYL.out]; exact hlt) (by rw [show j + 1 - 1 = j from rfl, HA.out, HB.out]; exact of_decide_eq_true HAB.out); rw [show j + 1 - 1 = j from rfl, HA.out, HB.out] at h; exact h)
              have HCS := Aside0.mk (show ∀ p, ((ys.set (j + 1) b).set j a).countP p = xs.countP p from fun p => by have h := countP_swap (l := ys) (i := j + 1) (j := j) HJ1.out (by have := HJ1.out; omega) (by omega) p; have e1 : ys[j]'(by have := HJ1.out; omega) = b := (by rw [← HB.out, List.getD_eq_getElem?_getD, List.getElem?_eq_getElem, Option.getD_some]); have e2 : ys[j + 1]'HJ1.out = a := (by rw [← HA.out, List.getD_eq_getElem?_getD, List.getElem?_eq_getElem, Option.getD_some]); rw [e1, e2] at h; exact h.trans (HCP.out p))
              have HMS := Aside0.mk ((HM.out.set (j + 1) b HJ1.out).set j a (by rw [List.length_set]; have := HJ1.out; omega))
              have hjl := HJ1.out
              have HC := Aside0.mk (HS.out.pick [] rfl (by decide))
              refine held_start mixed HC.out (fun HC1 => ?_)
              have HS1 := HS.out.drew
              clear HS HC
              have HS := Aside0.mk HS1
              have HC := Aside0.mk HC1
              clear HS1 HC1
              refine h_val 0 (v := _) (by simp only [List.getElem?_toArray, List.getElem?_cons_succ, List.getElem?_cons_zero]; rfl) (by kernel_rfl) (by kernel_rfl) (by kernel_rfl) (by intro _ _ _ h; exact h) HC.out (by kernel_rfl) (fun w hs => by (repeat (rename ∀ (_ : Act) (_ : World), _ => hK9; clear hK9)); go_simp; rfl) ?_
              (try simp only [Act.put, List.setIfInBounds_toArray, List.set_cons_zero, List.set_cons_succ])
              refine h_val 1 (v := _) (by simp only [List.getElem?_toArray, List.getElem?_cons_succ, List.getElem?_cons_zero]; rfl) (by kernel_rfl) (by kernel_rfl) (by kernel_rfl) (by intro _ _ _ h; exact h) HC.out (by kernel_rfl) (fun w hs => by (repeat (rename ∀ (_ : Act) (_ : World), _ => hK9; clear hK9)); go_simp; rfl) ?_
              (try simp only [Act.put, List.setIfInBounds_toArray, List.set_cons_zero, List.set_cons_succ])
              refine h_val 2 (v := _) (by simp only [List.getElem?_toArray, List.getElem?_cons_succ, List.getElem?_cons_zero]; rfl) (by kernel_rfl) (by kernel_rfl) (by kernel_rfl) (by intro _ _ _ h; exact h) HC.out (by kernel_rfl) (fun w hs => by (repeat (rename ∀ (_ : Act) (_ : World), _ => hK9; clear hK9)); go_simp; rfl) ?_
              (try simp only [Act.put, List.setIfInBounds_toArray, List.set_cons_zero, List.set_cons_succ])
              refine h_val 3 (v := _) (by simp only [List.getElem?_toArray, List.getElem?_cons_succ, List.getElem?_cons_zero]; rfl) (by kernel_rfl) (by kernel_rfl) (by kernel_rfl) (by intro _ _ _ h; exact h) HC.out (by kernel_rfl) (fun w hs => by (repeat (rename ∀ (_ : Act) (_ : World), _ => hK9; clear hK9)); go_simp; rfl) ?_
              (try simp only [Act.put, List.setIfInBounds_toArray, List.set_cons_zero, List.set_cons_succ])
              refine h_val 4 (v := _) (by simp only [List.getElem?_toArray, List.getElem?_cons_succ, List.getElem?_cons_zero]; rfl) (by kernel_rfl) (by kernel_rfl) (by kernel_rfl) (by intro _ _ _ h; exact h) HC.out (by kernel_rfl) (fun w hs => by (repeat (rename ∀ (_ : Act) (_ : World), _ => hK9; clear hK9)); go_simp; rfl) ?_
              (try simp only [Act.put, List.setIfInBounds_toArray, List.set_cons_zero, List.set_cons_succ])
              refine h_val 5 (v := _) (by simp only [List.getElem?_toArray, List.getElem?_cons_succ, List.getElem?_cons_zero]; rfl) (by kernel_rfl) (by kernel_rfl) (by kernel_rfl) (by intro _ _ _ h; exact h) HC.out (by kernel_rfl) (fun w hs => by (repeat (rename ∀ (_ : Act) (_ : World), _ => hK9; clear hK9)); go_simp; rfl) ?_
              (try simp only [Act.put, List.setIfInBounds_toArray, List.set_cons_zero, List.set_cons_succ])
              refine h_val 6 (v := _) (by simp only [List.getElem?_toArray, List.getElem?_cons_succ, List.getElem?_cons_zero]; rfl) (by kernel_rfl) (by kernel_rfl) (by kernel_rfl) (by intro _ _ _ h; exact h) HC.out (by kernel_rfl) (fun w hs => by (repeat (rename ∀ (_ : Act) (_ : World), _ => hK9; clear hK9)); go_simp; rfl) ?_
              (try simp only [Act.put, List.setIfInBounds_toArray, List.set_cons_zero, List.set_cons_succ])
              refine h_val 7 (v := _) (by simp only [List.getElem?_toArray, List.getElem?_cons_succ, List.getElem?_cons_zero]; rfl) (by kernel_rfl) (by kernel_rfl) (by kernel_rfl) (by intro _ _ _ h; exact h) HC.out (by kernel_rfl) (fun w hs => by (repeat (rename ∀ (_ : Act) (_ : World), _ => hK9; clear hK9)); go_simp; rfl) ?_
              (try simp only [Act.put, List.setIfInBounds_toArray, List.set_cons_zero, List.set_cons_succ])
              refine h_val 8 (v := _) (by simp only [List.getElem?_toArray, List.getElem?_cons_succ, List.getElem?_cons_zero]; rfl) (by kernel_rfl) (by kernel_rfl) (by kernel_rfl) (by intro _ _ _ h; exact h) HC.out (by kernel_rfl) (fun w hs => by (repeat (rename ∀ (_ : Act) (_ : World), _ => hK9; clear hK9)); go_simp; rfl) ?_
              (try simp only [Act.put, List.setIfInBounds_toArray, List.set_cons_zero, List.set_cons_succ])
              refine h_val 10 (v := _) (by simp only [List.getElem?_toArray, List.getElem?_cons_succ, List.getElem?_cons_zero]; rfl) (by kernel_rfl) (by kernel_rfl) (by kernel_rfl) (by intro _ _ _ h; exact h) HC.out (by kernel_rfl) (fun w hs => by (repeat (rename ∀ (_ : Act) (_ : World), _ => hK9; clear hK9)); go_simp; rfl) ?_
              (try simp only [Act.put, List.setIfInBounds_toArray, List.set_cons_zero, List.set_cons_succ])
              refine h_val 11 (v := _) (by simp only [List.getElem?_toArray, List.getElem?_cons_succ, List.getElem?_cons_zero]; rfl) (by kernel_rfl) (by kernel_rfl) (by kernel_rfl) (by intro _ _ _ h; exact h) HC.out (by kernel_rfl) (fun w hs => by (repeat (rename ∀ (_ : Act) (_ : World), _ => hK9; clear hK9)); go_simp; rfl) ?_
              (try simp only [Act.put, List.setIfInBounds_toArray, List.set_cons_zero, List.set_cons_succ])
              refine h_val 12 (v := _) (by simp only [List.getElem?_toArray, List.getElem?_cons_succ, List.getElem?_cons_zero]; rfl) (by kernel_rfl) (by kernel_rfl) (by kernel_rfl) (by intro _ _ _ h; exact h) HC.out (by kernel_rfl) (fun w hs => by (repeat (rename ∀ (_ : Act) (_ : World), _ => hK9; clear hK9)); go_simp; rfl) ?_
              (try simp only [Act.put, List.setIfInBounds_toArray, List.set_cons_zero, List.set_cons_succ])
              refine h_two 9 13 (by simp only [List.getElem?_toArray, List.getElem?_cons_succ, List.getElem?_cons_zero]; rfl) (by simp only [List.getElem?_toArray, List.getElem?_cons_succ, List.getElem?_cons_zero]; rfl) (by kernel_rfl) ?_ ?_
              · ((with_reducible refine gLd rfl ?_); refine sh_loadX HS.out rfl rfl (i := j) rfl 0 rfl ((agT _ (by decide)).trans rfl) HV0.out ?_; try simp only [Act.put, List.setIfInBounds_toArray, List.set_cons_zero, List.set_cons_succ])
                have HC1 := HS.out.pick [] rfl (by decide)
                clear HC
                have HC := Aside0.mk HC1
                clear HC1
                refine only_nil HC.out ?_
                (try simp only [Act.put, List.setIfInBounds_toArray, List.set_cons_zero, List.set_cons_succ])
                refine h_one 13 (by simp only [List.getElem?_toArray, List.getElem?_cons_succ, List.getElem?_cons_zero]; rfl) (by kernel_rfl) ?_
                ((with_reducible refine gLd rfl ?_); refine sh_loadX HS.out rfl rfl (i := j + 1) rfl 0 rfl ((agT _ (by decide)).trans rfl) HV1.out ?_; try simp only [Act.put, List.setIfInBounds_toArray, List.set_cons_zero, List.set_cons_succ])
                have HC1 := HS.out.pick [] rfl (by decide)
                clear HC
                have HC := Aside0.mk HC1
                clear HC1
                refine only_nil HC.out ?_
                (try simp only [Act.put, List.setIfInBounds_toArray, List.set_cons_zero, List.set_cons_succ])
                refine h_val 14 (v := _) (by simp only [List.getElem?_toArray, List.getElem?_cons_succ, List.getElem?_cons_zero]; rfl) (by kernel_rfl) (by kernel_rfl) (by kernel_rfl) (by intro _ _ _ h; exact h) HC.out (by kernel_rfl) (fun w hs => by (repeat (rename ∀ (_ : Act) (_ : World), _ => hK9; clear hK9)); go_simp; rfl) ?_
                (try simp only [Act.put, List.setIfInBounds_toArray, List.set_cons_zero, List.set_cons_succ])
                refine h_one 15 (by simp only [List.getElem?_toArray, List.getElem?_cons_succ, List.getElem?_cons_zero]; rfl) (by kernel_rfl) ?_
                ((with_reducible refine gSt rfl ?_); refine sh_storeX HS.out rfl rfl rfl (i := j + 1) rfl 0 rfl (u := (.int .u64 b)) rfl rfl (szT _ (by decide)) rfl (by have := HM1.out.1; simp only [List.length_set] at *; omega) ?_; clear HS; intro w1 HS1; (simp only [List.set_cons_zero, List.set_cons_succ] at HS1); have HS := Aside0.mk HS1; clear HS1; try simp only [Act.put, List.setIfInBounds_toArray, List.set_cons_zero, List.set_cons_succ])
                have HC1 := HS.out.pick [] rfl (by decide)
                clear HC
                have HC := Aside0.mk HC1
                clear HC1
                refine only_nil HC.out ?_
                (try simp only [Act.put, List.setIfInBounds_toArray, List.set_cons_zero, List.set_cons_succ])
                refine h_val 16 (v := _) (by simp only [List.getElem?_toArray, List.getElem?_cons_succ, List.getElem?_cons_zero]; rfl) (by kernel_rfl) (by kernel_rfl) (by kernel_rfl) (by intro _ _ _ h; exact h) HC.out (by kernel_rfl) (fun w hs => by (repeat (rename ∀ (_ : Act) (_ : World), _ => hK9; clear hK9)); go_simp; rfl) ?_
                (try simp only [Act.put, List.setIfInBounds_toArray, List.set_cons_zero, List.set_cons_succ])
                refine h_one 17 (by simp only [List.getElem?_toArray, List.getElem?_cons_succ, List.getElem?_cons_zero]; rfl) (by kernel_rfl) ?_
                ((with_reducible refine gSt rfl ?_); refine sh_storeX HS.out rfl rfl rfl (i := j) rfl 0 rfl (u := (.int .u64 a)) rfl rfl (szT _ (by decide)) rfl (by have := HM1.out.1; simp only [List.length_set] at *; omega) ?_; clear HS; intro w1 HS1; (simp only [List.set_cons_zero, List.set_cons_succ] at HS1); have HS := Aside0.mk HS1; clear HS1; try simp only [Act.put, List.setIfInBounds_toArray, List.set_cons_zero, List.set_cons_succ])
                have HC1 := HS.out.pick [] rfl (by decide)
                clear HC
                have HC := Aside0.mk HC1
                clear HC1
                refine only_nil HC.out ?_
                (try simp only [Act.put, List.setIfInBounds_toArray, List.set_cons_zero, List.set_cons_succ])
                refine wpAnyH_done (by kernel_rfl) ?_ _
                go_wp2
                go_roundw
                case rel => exact ⟨j, _, _, by omega, by go_num, ⟨HYS.out⟩, HIS, HCS, HMS, HS⟩
                case measure => simp [intOf]
              · ((with_reducible refine gLd rfl ?_); refine sh_loadX HS.out rfl rfl (i := j + 1) rfl 0 rfl ((agT _ (by decide)).trans rfl) HV1.out ?_; try simp only [Act.put, List.setIfInBounds_toArray, List.set_cons_zero, List.set_cons_succ])
                have HC1 := HS.out.pick [] rfl (by decide)
                clear HC
                have HC := Aside0.mk HC1
                clear HC1
                refine only_nil HC.out ?_
                (try simp only [Act.put, List.setIfInBounds_toArray, List.set_cons_zero, List.set_cons_succ])
                refine h_one 9 (by simp only [List.getElem?_toArray, List.getElem?_cons_succ, List.getElem?_cons_zero]; rfl) (by kernel_rfl) ?_
                ((with_reducible refine gLd rfl ?_); refine sh_loadX HS.out rfl rfl (i := j) rfl 0 rfl ((agT _ (by decide)).trans rfl) HV0.out ?_; try simp only [Act.put, List.setIfInBounds_toArray, List.set_cons_zero, List.set_cons_succ])
                have HC1 := HS.out.pick [] rfl (by decide)
                clear HC
                have HC := Aside0.mk HC1
                clear HC1
                refine only_nil HC.out ?_
                (try simp only [Act.put, List.setIfInBounds_toArray, List.set_cons_zero, List.set_cons_succ])
                refine h_val 14 (v := _) (by simp only [List.getElem?_toArray, List.getElem?_cons_succ, List.getElem?_cons_zero]; rfl) (by kernel_rfl) (by kernel_rfl) (by kernel_rfl) (by intro _ _ _ h; exact h) HC.out (by kernel_rfl) (fun w hs => by (repeat (rename ∀ (_ : Act) (_ : World), _ => hK9; clear hK9)); go_simp; rfl) ?_
                (try simp only [Act.put, List.setIfInBounds_toArray, List.set_cons_zero, List.set_cons_succ])
                refine h_one 15 (by simp only [List.getElem?_toArray, List.getElem?_cons_succ, List.getElem?_cons_zero]; rfl) (by kernel_rfl) ?_
                ((with_reducible refine gSt rfl ?_); refine sh_storeX HS.out rfl rfl rfl (i := j + 1) rfl 0 rfl (u := (.int .u64 b)) rfl rfl (szT _ (by decide)) rfl (by have := HM1.out.1; simp only [List.length_set] at *; omega) ?_; clear HS; intro w1 HS1; (simp only [List.set_cons_zero, List.set_cons_succ] at HS1); have HS := Aside0.mk HS1; clear HS1; try simp only [Act.put, List.setIfInBounds_toArray, List.set_cons_zero, List.set_cons_succ])
                have HC1 := HS.out.pick [] rfl (by decide)
                clear HC
                have HC := Aside0.mk HC1
                clear HC1
                refine only_nil HC.out ?_
                (try simp only [Act.put, List.setIfInBounds_toArray, List.set_cons_zero, List.set_cons_succ])
                refine h_val 16 (v := _) (by simp only [List.getElem?_toArray, List.getElem?_cons_succ, List.getElem?_cons_zero]; rfl) (by kernel_rfl) (by kernel_rfl) (by kernel_rfl) (by intro _ _ _ h; exact h) HC.out (by kernel_rfl) (fun w hs => by (repeat (rename ∀ (_ : Act) (_ : World), _ => hK9; clear hK9)); go_simp; rfl) ?_
                (try simp only [Act.put, List.setIfInBounds_toArray, List.set_cons_zero, List.set_cons_succ])
                refine h_one 17 (by simp only [List.getElem?_toArray, List.getElem?_cons_succ, List.getElem?_cons_zero]; rfl) (by kernel_rfl) ?_
                ((with_reducible refine gSt rfl ?_); refine sh_storeX HS.out rfl rfl rfl (i := j) rfl 0 rfl (u := (.int .u64 a)) rfl rfl (szT _ (by decide)) rfl (by have := HM1.out.1; simp only [List.length_set] at *; omega) ?_; clear HS; intro w1 HS1; (simp only [List.set_cons_zero, List.set_cons_succ] at HS1); have HS := Aside0.mk HS1; clear HS1; try simp only [Act.put, List.setIfInBounds_toArray, List.set_cons_zero, List.set_cons_succ])
                have HC1 := HS.out.pick [] rfl (by decide)
                clear HC
                have HC := Aside0.mk HC1
                clear HC1
                refine only_nil HC.out ?_
                (try simp only [Act.put, List.setIfInBounds_toArray, List.set_cons_zero, List.set_cons_succ])
                refine wpAnyH_done (by kernel_rfl) ?_ _
                go_wp2
                go_roundw
                case rel => exact ⟨j, _, _, by omega, by go_num, ⟨HYS.out⟩, HIS, HCS, HMS, HS⟩
                case measure => simp [intOf]
      · obtain rfl : i = n := by omega
        go_wp2
        (try simp only [Exit.inBlock, Exit.then]); first | refine bodyPost_end (results_none rfl _ _ _) rfl ?_ | refine bodyPost_ret (results_none rfl _ _ _) rfl ?_
        exact ⟨cs1, ys, rfl, hyl, by rw [hyl]; exact HSR.out, HCP.out, HM.out, HS.out⟩
end Go.Proofs.Ytkfopjonhhldnaa.Nod
