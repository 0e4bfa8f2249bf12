import Derived.Test.YtkfopjonhhldnaaNod6
namespace Go.Proofs.Ytkfopjonhhldnaa.Nod
open Go.RowKit Go.Proofs.YtkfopjonhhldnaaW.PrintWords Go.Proofs.Ytkfopjonhhldnaa.Sl
set_option linter.unusedVariables false
set_option linter.unusedSimpArgs false
theorem take_filter_has {l v : List Int} {k : Nat} {x : Int} (hk : k < l.length) (hx : l.getD k 0 = x) : ((l.take (k + 1)).filter (has v)).length = ((l.take k).filter (has v)).length + (if has v x then 1 else 0) := by
  rw [take_succ_getD 0 hk, hx, List.filter_append, List.length_append]
  cases h : has v x <;> simp [h]
set_option maxHeartbeats 800000 in
theorem refMaj_any (A B : Option Addr) (c c' : Nat) (l v : List Int) (w : World) {N M : Nat} (hr : Rd (ints .i64) 1 w A N l) (hr' : Rd (ints .i64) 1 w B M v) (hlim : N * 8 ≤ 140737488351232) :
    Calls Try.prog 19 #[.slice A N c, .slice B M c'] w (fun e w' => e = .returned (.bool (maj l v)) ∧ w = w') := by
  obtain rfl := hr.len.1
  obtain rfl := hr'.len.1
  have hm := hr.len.2
  have HR := Aside0.mk hr
  have HR' := Aside0.mk hr'
  clear hr hr'
  go_enter Try.func19, Try.ntmps19
  go_wp2
  go_loop [5, 7, 10] (fun v5 v7 v10 => ∃ (k q : Nat), k ≤ l.length ∧ q ≤ k ∧ v10 = .int .i64 k ∧ v5 = .int .i64 q ∧ Aside0 (q = ((l.take k).filter (has v)).length)) (fun _ _ v10 => l.length - (intOf v10).toNat)
  case atStart => exact ⟨0, 0, Nat.zero_le _, Nat.le_refl _, rfl, rfl, ⟨rfl⟩⟩
  case round =>
    obtain ⟨k, q, hk, hqk, rfl, rfl, HQ⟩ := hrel
    by_cases hlt : k < l.length
    · obtain ⟨ad, rfl⟩ := HR.out.addr (by omega)
      generalize hx : l.getD k 0 = x
      have HX := Aside0.mk hx
      clear hx
      cases hb : has v x
      · have HB := Aside0.mk hb
        clear hb
        go_wp2_with (first | ((with_reducible refine gLd rfl ?_); refine rd_load1 (enc := Value.int .i64) HR.out rfl rfl (i := k) rfl hlt 0 ((agT _ (by decide)).trans rfl) ?_; intro x hx; obtain rfl := HX.out.symm.trans hx; (try simp only [Act.put, List.setIfInBounds_toArray, List.set_cons_zero, List.set_cons_succ])) | (go_at_call 14; (with_reducible refine (refHas_any _ _ v x _ HR'.out).mono ?_); rintro e w' ⟨rfl, rfl⟩; rw [HB.out]))
        go_round
        case rel => exact ⟨k + 1, q, by omega, by omega, by go_num, rfl, ⟨by rw [HQ.out, take_filter_has hlt HX.out, HB.out]; rfl⟩⟩
        case measure => simp [intOf]; omega
      · have HB := Aside0.mk hb
        clear hb
        go_wp2_with (first | ((with_reducible refine gLd rfl ?_); refine rd_load1 (enc := Value.int .i64) HR.out rfl rfl (i := k) rfl hlt 0 ((agT _ (by decide)).trans rfl) ?_; intro x hx; obtain rfl := HX.out.symm.trans hx; (try simp only [Act.put, List.setIfInBounds_toArray, List.set_cons_zero, List.set_cons_succ])) | (go_at_call 14; (with_reducible refine (refHas_any _ _ v x _ HR'.out).mono ?_); rintro e w' ⟨rfl, rfl⟩; rw [HB.out]))
        go_round
        case rel => exact ⟨k + 1, q + 1, by omega, by omega, by go_num, by go_num, ⟨by rw [HQ.out, take_filter_has hlt HX.out, HB.out]; rfl⟩⟩
        case measure => simp [intOf]; omega
    · obtain rfl : k = l.length := by omega
      have hq : q = voted l v := by have := HQ.out; rwa [List.take_length] at this
      have hmj : (good l && decide (l.length < 2 * q)) = maj l v := by rw [hq]; rfl
      replace hmj := Aside0.mk hmj
      clear hq
      generalize hg : good l = gl at hmj
      have HG := Aside0.mk hg
      clear hg
      cases gl
      · go_wp2_with (go_at_call 16; (with_reducible refine (refCheck_any _ _ l _ HR.out).mono ?_); rintro e w' ⟨rfl, rfl⟩; rw [HG.out])
        go_ret
        exact ⟨by rw [← hmj.out]; rfl, rfl⟩
      · go_wp2_with (go_at_call 16; (with_reducible refine (refCheck_any _ _ l _ HR.out).mono ?_); rintro e w' ⟨rfl, rfl⟩; rw [HG.out])
        go_ret
        refine ⟨?_, rfl⟩
        rw [← hmj.out]
        simp
        try omega
theorem maj_ex : maj [1, 2, 3] [3, 1] = true := by decide
set_option maxHeartbeats 800000 in
theorem lawMaj_any (A B : Option Addr) (c c' : Nat) (l v : List Int) (w : World) {N M : Nat} (hr : Rd (ints .i64) 1 w A N l) (hr' : Rd (ints .i64) 1 w B M v) (hlim : N * 8 ≤ 140737488351232) (hlim' : M * 8 ≤ 140737488351232) :
    Calls Try.prog 5 #[.slice A N c, .slice B M c'] w (fun e w' => e = .returned (.bool true) ∧ Below w.heap.size w w') := by
  obtain rfl := hr.len.1
  obtain rfl := hr'.len.1
  have HR := Aside0.mk hr
  have HR' := Aside0.mk hr'
  clear hr hr'
  have hvv : (v == v) = true := by simp
  have HVV := Aside0.mk hvv
  clear hvv
  generalize hb : maj l v = b
  have HB := Aside0.mk hb
  clear hb
  have hbb : (b == b) = true := by simp
  have HS := Aside0.mk (SH.start w)
  go_enter Try.func5, Try.ntmps5
  go_wp2_with (first | ((with_reducible refine gC (b := .append) rfl ?_); refine sh_append_nil (ints_len .i64) (ints_one .i64) HS.out rfl rfl rfl rfl HR'.out Try.underlying22 infoInt rfl (by decide) (by decide) (by omega) ?_; clear HS; intro v1 w1 S1 HS1; (simp only [List.cons_append, List.nil_append] at HS1); have HS := Aside0.mk HS1; clear HS1; try simp only [Act.put, List.setIfInBounds_toArray, List.set_cons_zero, List.set_cons_succ]; obtain ⟨A1, c1, rfl, hc1, _⟩ := row_rd HS.out 0 rfl) | (go_at_call 18; (with_reducible refine (maj_any _ _ _ _ l v _ (HR.out.sh HS.out) (row_rds (hl := ints_len .i64) (h1 := ints_one .i64) 0 (by with_unfolding_all rfl) _ HS.out)).mono ?_); rintro e w2 ⟨rfl, hb⟩; rw [HB.out]; have HS1 := HS.out.quiet hb; clear HS hb; have HS := Aside0.mk HS1; clear HS1) | (go_at_call 18; (with_reducible refine (maj_any _ _ _ _ [1, 2, 3] [3, 1] _ (Rd.lit (ints_len .i64) (HS.out.blk 1 (by with_unfolding_all rfl)) (by decide) (by with_unfolding_all rfl) (by decide)) (Rd.lit (ints_len .i64) (HS.out.blk 2 (by with_unfolding_all rfl)) (by decide) (by with_unfolding_all rfl) (by decide))).mono ?_); rintro e w2 ⟨rfl, hb⟩; rw [maj_ex]; have HS1 := HS.out.quiet hb; clear HS hb; have HS := Aside0.mk HS1; clear HS1) | (go_at_call 19; (with_reducible refine (refMaj_any _ _ _ _ l v _ (HR.out.sh HS.out) (HR'.out.sh HS.out) hlim).mono ?_); rintro e w2 ⟨rfl, rfl⟩; rw [HB.out]; skip) | (go_at_call 17; (with_reducible refine (refSame_any _ _ _ _ v v _ (row_rds (hl := ints_len .i64) (h1 := ints_one .i64) 0 (by with_unfolding_all rfl) _ HS.out) (HR'.out.sh HS.out)).mono ?_); rintro e w2 ⟨rfl, hb⟩; rw [HVV.out]; have HS1 := HS.out.quiet hb; clear HS hb; have HS := Aside0.mk HS1; clear HS1) | ((with_reducible refine gA rfl ?_); refine sh_alloc HS.out rfl rfl (zeT _ (by decide)) ?_; clear HS; intro g w1 hg HS1; (simp only [zeF, segOf, List.toList_toArray, List.cons_append, List.nil_append] at HS1); have HS := Aside0.mk HS1; clear HS1; try simp only [Act.put, List.setIfInBounds_toArray, List.set_cons_zero, List.set_cons_succ]) | ((with_reducible refine gB rfl ?_); (first | refine sh_box HS.out rfl rfl (v := (.agg (List.toArray _))) rfl ?_ | refine sh_box HS.out rfl rfl (v := (.int _ _)) rfl ?_ | refine sh_box HS.out rfl rfl (v := (.slice _ _ _)) rfl ?_ | refine sh_box HS.out rfl rfl (v := (.bool _)) rfl ?_ | refine sh_box HS.out rfl rfl (v := (.pointer _)) rfl ?_ | refine sh_box HS.out rfl rfl (v := (.string _)) rfl ?_ | refine sh_box HS.out rfl rfl (v := (.map _)) rfl ?_ | refine sh_box HS.out rfl rfl (v := (.func _ _ _)) rfl ?_); clear HS; intro g w1 hg HS1; (simp only [segOf, List.toList_toArray, List.cons_append, List.nil_append] at HS1); have HS := Aside0.mk HS1; clear HS1; try simp only [Act.put, List.setIfInBounds_toArray, List.set_cons_zero, List.set_cons_succ]) | ((with_reducible refine gL rfl ?_); refine sh_lit HS.out rfl rfl (by go_simp; exact ⟨⟨rfl, rfl⟩, rfl⟩) ?_; clear HS; intro g w1 hg HS1; (simp only [segOf, List.toList_toArray, List.cons_append, List.nil_append] at HS1); have HS := Aside0.mk HS1; clear HS1; try simp only [Act.put, List.setIfInBounds_toArray, List.set_cons_zero, List.set_cons_succ]) | ((with_reducible refine gLd rfl ?_); (first | refine sh_load HS.out rfl rfl rfl 0 rfl ((agT _ (by decide)).trans rfl) rfl ?_); try simp only [Act.put, List.setIfInBounds_toArray, List.set_cons_zero, List.set_cons_succ]) | ((with_reducible refine gLd rfl ?_); (first | refine sh_loads HS.out rfl rfl rfl 0 rfl ((agT _ (by decide)).trans rfl) (szT _ (by decide)) (Nat.le_of_ble_eq_true rfl) ?_); (try simp only [szL, Act.put, List.setIfInBounds_toArray, List.set_cons_zero, List.set_cons_succ, List.getD_cons_zero, List.getD_cons_succ, List.drop_zero, List.drop_succ_cons, List.take_succ_cons, List.take_zero])) | ((with_reducible refine gSt rfl ?_); (first | refine sh_store HS.out rfl rfl rfl rfl 0 rfl (u := (.agg (List.toArray _))) rfl (szT _ (by decide)) rfl (Nat.le_of_ble_eq_true rfl) ?_ | refine sh_store HS.out rfl rfl rfl rfl 0 rfl (u := (.int _ _)) rfl (szT _ (by decide)) rfl (Nat.le_of_ble_eq_true rfl) ?_ | refine sh_store HS.out rfl rfl rfl rfl 0 rfl (u := (.slice _ _ _)) rfl (szT _ (by decide)) rfl (Nat.le_of_ble_eq_true rfl) ?_ | refine sh_store HS.out rfl rfl rfl rfl 0 rfl (u := (.bool _)) rfl (szT _ (by decide)) rfl (Nat.le_of_ble_eq_true rfl) ?_ | refine sh_store HS.out rfl rfl rfl rfl 0 rfl (u := (.pointer _)) rfl (szT _ (by decide)) rfl (Nat.le_of_ble_eq_true rfl) ?_ | refine sh_store HS.out rfl rfl rfl rfl 0 rfl (u := (.string _)) rfl (szT _ (by decide)) rfl (Nat.le_of_ble_eq_true rfl) ?_ | refine sh_store HS.out rfl rfl rfl rfl 0 rfl (u := (.map _)) rfl (szT _ (by decide)) rfl (Nat.le_of_ble_eq_true rfl) ?_ | refine sh_store HS.out rfl rfl rfl rfl 0 rfl (u := (.func _ _ _)) rfl (szT _ (by decide)) rfl (Nat.le_of_ble_eq_true rfl) ?_); clear HS; intro w1 HS1; (simp only [segOf, List.toList_toArray, List.set_cons_zero, List.set_cons_succ, putSeg] at HS1); have HS := Aside0.mk HS1; clear HS1; try simp only [Act.put, List.setIfInBounds_toArray, List.set_cons_zero, List.set_cons_succ]))
  go_ret
  exact ⟨by first | rfl | simp, HS.out.below⟩
theorem has_cons (n x : Int) (v : List Int) : has (n :: v) x = (x == n || has v x) := by
  rw [Bool.eq_iff_iff, has_iff, Bool.or_eq_true, has_iff, beq_iff_eq, List.mem_cons]
theorem voted_mono {l v v' : List Int} (h : ∀ x, has v x = true → has v' x = true) : voted l v ≤ voted l v' := by
  unfold voted
  rw [← List.countP_eq_length_filter, ← List.countP_eq_length_filter]
  exact List.countP_mono_left (fun x _ hx => h x hx)
theorem maj_cons {l v : List Int} (n : Int) (h : maj l v = true) : maj l (n :: v) = true := by
  unfold maj at h ⊢
  rw [Bool.and_eq_true] at h ⊢
  refine ⟨h.1, decide_eq_true ?_⟩
  have h1 := of_decide_eq_true h.2
  have h2 := voted_mono (l := l) (v := v) (v' := n :: v) (fun x hx => by rw [has_cons, hx, Bool.or_true])
  omega
theorem maj_self (l : List Int) : maj l l = good l := by
  unfold maj
  have : voted l l = l.length := by
    unfold voted
    rw [List.filter_eq_self.2 (fun x hx => has_iff.2 hx)]
  rw [this]
  unfold good
  cases isSet l
  · rfl
  · simp
    omega
set_option maxHeartbeats 800000 in
theorem lawMore_any (A B : Option Addr) (c c' : Nat) (l v : List Int) (n : Int) (w : World) {N M : Nat} (hr : Rd (ints .i64) 1 w A N l) (hr' : Rd (ints .i64) 1 w B M v) (hlim' : M * 8 ≤ 140737488351232) :
    Calls Try.prog 7 #[.slice A N c, .slice B M c', .int .i64 n] w (fun e w' => e = .returned (.bool true) ∧ Below w.heap.size w w') := by
  obtain rfl := hr.len.1
  obtain rfl := hr'.len.1
  have HR := Aside0.mk hr
  have HR' := Aside0.mk hr'
  clear hr hr'
  have HC := fun h => maj_cons (l := l) (v := v) n h
  generalize hb : maj l v = b at HC
  have HB := Aside0.mk hb
  clear hb
  have HMS := Aside0.mk (maj_self l)
  generalize hg : good l = gl at HMS
  have HG := Aside0.mk hg
  clear hg
  have HS := Aside0.mk (SH.start w)
  have hgl : (gl == gl) = true := by simp
  cases b
  · clear HC
    cases gl
    all_goals
      go_enter Try.func7, Try.ntmps7
      go_wp2_with (first | (go_at_call 18; (with_reducible refine (maj_any _ _ _ _ [1, 2, 3] [3, 1] _ (Rd.lit (ints_len .i64) (HS.out.blk 0 (by with_unfolding_all rfl)) (by decide) (by with_unfolding_all rfl) (by decide)) (Rd.lit (ints_len .i64) (HS.out.blk 1 (by with_unfolding_all rfl)) (by decide) (by with_unfolding_all rfl) (by decide))).mono ?_); rintro e w2 ⟨rfl, hb⟩; rw [maj_ex]; have HS1 := HS.out.quiet hb; clear HS hb; have HS := Aside0.mk HS1; clear HS1) | (go_at_call 18; (with_reducible refine (maj_any _ _ _ _ l v _ (HR.out.sh HS.out) (HR'.out.sh HS.out)).mono ?_); rintro e w2 ⟨rfl, hb⟩; rw [HB.out]; have HS1 := HS.out.quiet hb; clear HS hb; have HS := Aside0.mk HS1; clear HS1) | (go_at_call 18; (with_reducible refine (maj_any _ _ _ _ l l _ (HR.out.sh HS.out) (HR.out.sh HS.out)).mono ?_); rintro e w2 ⟨rfl, hb⟩; rw [HMS.out]; have HS1 := HS.out.quiet hb; clear HS hb; have HS := Aside0.mk HS1; clear HS1) | (go_at_call 15; (with_reducible refine (check_any _ _ l _ (HR.out.sh HS.out)).mono ?_); rintro e w2 ⟨rfl, hb⟩; rw [HG.out]; have HS1 := HS.out.quiet hb; clear HS hb; have HS := Aside0.mk HS1; clear HS1) | ((with_reducible refine gA rfl ?_); refine sh_alloc HS.out rfl rfl (zeT _ (by decide)) ?_; clear HS; intro g w1 hg HS1; (simp only [zeF, segOf, List.toList_toArray, List.cons_append, List.nil_append] at HS1); have HS := Aside0.mk HS1; clear HS1; try simp only [Act.put, List.setIfInBounds_toArray, List.set_cons_zero, List.set_cons_succ]) | ((with_reducible refine gB rfl ?_); (first | refine sh_box HS.out rfl rfl (v := (.agg (List.toArray _))) rfl ?_ | refine sh_box HS.out rfl rfl (v := (.int _ _)) rfl ?_ | refine sh_box HS.out rfl rfl (v := (.slice _ _ _)) rfl ?_ | refine sh_box HS.out rfl rfl (v := (.bool _)) rfl ?_ | refine sh_box HS.out rfl rfl (v := (.pointer _)) rfl ?_ | refine sh_box HS.out rfl rfl (v := (.string _)) rfl ?_ | refine sh_box HS.out rfl rfl (v := (.map _)) rfl ?_ | refine sh_box HS.out rfl rfl (v := (.func _ _ _)) rfl ?_); clear HS; intro g w1 hg HS1; (simp only [segOf, List.toList_toArray, List.cons_append, List.nil_append] at HS1); have HS := Aside0.mk HS1; clear HS1; try simp only [Act.put, List.setIfInBounds_toArray, List.set_cons_zero, List.set_cons_succ]) | ((with_reducible refine gL rfl ?_); refine sh_lit HS.out rfl rfl (by go_simp; exact ⟨⟨rfl, rfl⟩, rfl⟩) ?_; clear HS; intro g w1 hg HS1; (simp only [segOf, List.toList_toArray, List.cons_append, List.nil_append] at HS1); have HS := Aside0.mk HS1; clear HS1; try simp only [Act.put, List.setIfInBounds_toArray, List.set_cons_zero, List.set_cons_succ]))
      go_ret
      exact ⟨by first | rfl | simp, HS.out.below⟩
  · have HCC := Aside0.mk (HC rfl)
    clear HC
    cases gl
    all_goals
      go_enter Try.func7, Try.ntmps7
      go_wp2_with (first | (go_at_call 18; (with_reducible refine (maj_any _ _ _ _ [1, 2, 3] [3, 1] _ (Rd.lit (ints_len .i64) (HS.out.blk 0 (by with_unfolding_all rfl)) (by decide) (by with_unfolding_all rfl) (by decide)) (Rd.lit (ints_len .i64) (HS.out.blk 1 (by with_unfolding_all rfl)) (by decide) (by with_unfolding_all rfl) (by decide))).mono ?_); rintro e w2 ⟨rfl, hb⟩; rw [maj_ex]; have HS1 := HS.out.quiet hb; clear HS hb; have HS := Aside0.mk HS1; clear HS1) | (go_at_call 18; (with_reducible refine (maj_any _ _ _ _ l v _ (HR.out.sh HS.out) (HR'.out.sh HS.out)).mono ?_); rintro e w2 ⟨rfl, hb⟩; rw [HB.out]; have HS1 := HS.out.quiet hb; clear HS hb; have HS := Aside0.mk HS1; clear HS1) | (go_at_call 18; (with_reducible refine (maj_any _ _ _ _ l l _ (HR.out.sh HS.out) (HR.out.sh HS.out)).mono ?_); rintro e w2 ⟨rfl, hb⟩; rw [HMS.out]; have HS1 := HS.out.quiet hb; clear HS hb; have HS := Aside0.mk HS1; clear HS1) | (go_at_call 18; (with_reducible refine (maj_any _ _ _ _ l (n :: v) _ (HR.out.sh HS.out) (row_rds (hl := ints_len .i64) (h1 := ints_one .i64) 2 (by with_unfolding_all rfl) _ HS.out)).mono ?_); rintro e w2 ⟨rfl, hb⟩; rw [HCC.out]; have HS1 := HS.out.quiet hb; clear HS hb; have HS := Aside0.mk HS1; clear HS1) | (go_at_call 15; (with_reducible refine (check_any _ _ l _ (HR.out.sh HS.out)).mono ?_); rintro e w2 ⟨rfl, hb⟩; rw [HG.out]; have HS1 := HS.out.quiet hb; clear HS hb; have HS := Aside0.mk HS1; clear HS1) | ((with_reducible refine gC (b := .append) rfl ?_); refine sh_append_blk (ints_len .i64) (ints_one .i64) HS.out rfl rfl 2 [n] rfl rfl rfl rfl (HR'.out.sh HS.out) Try.underlying22 infoInt rfl (by decide) (by decide) (by simp; omega) ?_; clear HS; intro v1 w1 S1 HS1; (simp only [List.set_cons_zero, List.set_cons_succ] at HS1); have HS := Aside0.mk HS1; clear HS1; try simp only [Act.put, List.setIfInBounds_toArray, List.set_cons_zero, List.set_cons_succ]; obtain ⟨A1, c1, rfl, hc1, _⟩ := row_rd HS.out 2 rfl) | ((with_reducible refine gA rfl ?_); refine sh_alloc HS.out rfl rfl (zeT _ (by decide)) ?_; clear HS; intro g w1 hg HS1; (simp only [zeF, segOf, List.toList_toArray, List.cons_append, List.nil_append] at HS1); have HS := Aside0.mk HS1; clear HS1; try simp only [Act.put, List.setIfInBounds_toArray, List.set_cons_zero, List.set_cons_succ]) | ((with_reducible refine gB rfl ?_); (first | refine sh_box HS.out rfl rfl (v := (.agg (List.toArray _))) rfl ?_ | refine sh_box HS.out rfl rfl (v := (.int _ _)) rfl ?_ | refine sh_box HS.out rfl rfl (v := (.slice _ _ _)) rfl ?_ | refine sh_box HS.out rfl rfl (v := (.bool _)) rfl ?_ | refine sh_box HS.out rfl rfl (v := (.pointer _)) rfl ?_ | refine sh_box HS.out rfl rfl (v := (.string _)) rfl ?_ | refine sh_box HS.out rfl rfl (v := (.map _)) rfl ?_ | refine sh_box HS.out rfl rfl (v := (.func _ _ _)) rfl ?_); clear HS; intro g w1 hg HS1; (simp only [segOf, List.toList_toArray, List.cons_append, List.nil_append] at HS1); have HS := Aside0.mk HS1; clear HS1; try simp only [Act.put, List.setIfInBounds_toArray, List.set_cons_zero, List.set_cons_succ]) | ((with_reducible refine gL rfl ?_); refine sh_lit HS.out rfl rfl (by go_simp; exact ⟨⟨rfl, rfl⟩, rfl⟩) ?_; clear HS; intro g w1 hg HS1; (simp only [segOf, List.toList_toArray, List.cons_append, List.nil_append] at HS1); have HS := Aside0.mk HS1; clear HS1; try simp only [Act.put, List.setIfInBounds_toArray, List.set_cons_zero, List.set_cons_succ]))
      go_ret
      exact ⟨by first | rfl | simp, HS.out.below⟩
end Go.Proofs.Ytkfopjonhhldnaa.Nod
