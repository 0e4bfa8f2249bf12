import Derived.Test.YtkfopjonhhldnaaNodA
namespace Go.Proofs.Ytkfopjonhhldnaa.Nod
open Go.RowKit Go.Proofs.YtkfopjonhhldnaaW.PrintWords Go.Proofs.Ytkfopjonhhldnaa.Sl
set_option linter.unusedVariables false
set_option linter.unusedSimpArgs false
theorem all_take_succ {l m : List Int} {k : Nat} {x : Int} (hk : k < m.length) (hx : m.getD k 0 = x) (h : (m.take k).all (has l) = true) (hb : has l x = true) : (m.take (k + 1)).all (has l) = true := by
  rw [take_succ_getD 0 hk, hx, List.all_append, h]
  simp [hb]
theorem not_all {l m : List Int} {k : Nat} {x : Int} (hk : k < m.length) (hx : m.getD k 0 = x) (hb : has l x = false) : m.all (has l) = false := by
  rw [Bool.eq_false_iff]
  intro h
  rw [List.all_eq_true] at h
  have hm : x ∈ m := has_iff.1 (has_at hk hx)
  rw [h x hm] at hb
  cases hb
set_option maxHeartbeats 400000 in
theorem more_any (A B : Option Addr) (c c' : Nat) (l m : List Int) (w : World) {N M : Nat} (hr : Rd (ints .i64) 1 w A N l) (hr' : Rd (ints .i64) 1 w B M m) (hlim : M * 8 ≤ 140737488351232) :
    Calls Try.prog 30 #[.slice A N c, .slice B M c'] w (fun e w' => e = .returned (.bool (more l m)) ∧ w = w') := by
  obtain rfl := hr.len.1
  obtain rfl := hr'.len.1
  have hm := hr.len.2
  have HR := Aside0.mk hr
  have HR' := Aside0.mk hr'
  clear hr hr'
  by_cases hlen : l.length = m.length + 1
  · have hlm : ((l.length : Int) != (m.length : Int) + 1) = false := by simp [hlen]
    have hmo : more l m = m.all (has l) := by rw [more, decide_eq_true hlen, Bool.true_and]
    clear hlen
    generalize hmo' : more l m = mo at hmo
    have HM := Aside0.mk hmo
    clear hmo hmo'
    go_enter Try.func30, Try.ntmps30
    go_wp2
    go_loop [6, 15] (fun v6 v15 => ∃ k : Nat, k ≤ m.length ∧ v15 = .int .i64 k ∧ Aside0 ((m.take k).all (has l) = true)) (fun _ v15 => m.length - (intOf v15).toNat)
    case atStart => exact ⟨0, Nat.zero_le _, rfl, ⟨rfl⟩⟩
    case round =>
      obtain ⟨k, hk, rfl, HO⟩ := hrel
      by_cases hlt : k < m.length
      · obtain ⟨ad, rfl⟩ := HR'.out.addr (by omega)
        generalize hx : m.getD k 0 = x
        have HX := Aside0.mk hx
        clear hx
        generalize hb : has l x = b
        have HB := Aside0.mk hb
        clear hb
        cases b
        · go_wp2_with (first | ((with_reducible refine gLd rfl ?_); refine rd_load1 (enc := Value.int .i64) HR'.out rfl rfl (i := k) rfl hlt 0 ((agT _ (by decide)).trans rfl) ?_; intro x hx; obtain rfl := HX.out.symm.trans hx; (try simp only [Act.put, List.setIfInBounds_toArray, List.set_cons_zero, List.set_cons_succ])) | (go_at_call 14; (with_reducible refine (refHas_any _ _ l x _ HR.out).mono ?_); rintro e w' ⟨rfl, rfl⟩; rw [HB.out]))
          go_ret
          exact ⟨by rw [HM.out, not_all hlt HX.out HB.out]; rfl, rfl⟩
        · go_wp2_with (first | ((with_reducible refine gLd rfl ?_); refine rd_load1 (enc := Value.int .i64) HR'.out rfl rfl (i := k) rfl hlt 0 ((agT _ (by decide)).trans rfl) ?_; intro x hx; obtain rfl := HX.out.symm.trans hx; (try simp only [Act.put, List.setIfInBounds_toArray, List.set_cons_zero, List.set_cons_succ])) | (go_at_call 14; (with_reducible refine (refHas_any _ _ l x _ HR.out).mono ?_); rintro e w' ⟨rfl, rfl⟩; rw [HB.out]))
          go_round
          case rel => exact ⟨k + 1, by omega, by go_num, ⟨all_take_succ hlt HX.out HO.out HB.out⟩⟩
          case measure => simp [intOf]; omega
      · obtain rfl : k = m.length := by omega
        go_wp2
        go_ret
        have := HO.out
        rw [List.take_length] at this
        exact ⟨by rw [HM.out, this]; rfl, rfl⟩
  · have hlm : ((l.length : Int) != (m.length : Int) + 1) = true := by rw [bne_iff_ne]; omega
    have hmo : more l m = false := by rw [more, decide_eq_false hlen, Bool.false_and]
    clear hlen
    generalize more l m = mo at hmo
    subst hmo
    go_enter Try.func30, Try.ntmps30
    go_wp2
    go_ret
    exact ⟨rfl, rfl⟩
def refSteps (l m : List Int) : Bool := good l && good m && (more l m || more m l)
set_option maxHeartbeats 400000 in
theorem refSteps_any (A B : Option Addr) (c c' : Nat) (l m : List Int) (w : World) {N M : Nat} (hr : Rd (ints .i64) 1 w A N l) (hr' : Rd (ints .i64) 1 w B M m) (hlim : N * 8 ≤ 140737488351232) (hlim' : M * 8 ≤ 140737488351232) :
    Calls Try.prog 21 #[.slice A N c, .slice B M c'] w (fun e w' => e = .returned (.bool (refSteps l m)) ∧ w = w') := by
  have HR := Aside0.mk hr
  have HR' := Aside0.mk hr'
  clear hr hr'
  have h : refSteps l m = (good l && good m && (more l m || more m l)) := rfl
  generalize refSteps l m = r at h
  generalize hg : good l = gl at h
  generalize hg' : good m = gm at h
  generalize hm1 : more l m = m1 at h
  generalize hm2 : more m l = m2 at h
  have HG := Aside0.mk hg
  have HG' := Aside0.mk hg'
  have H1 := Aside0.mk hm1
  have H2 := Aside0.mk hm2
  clear hg hg' hm1 hm2
  subst h
  cases gl <;> cases gm <;> cases m1 <;> cases m2
  all_goals
    go_enter Try.func21, Try.ntmps21
    go_wp2_with (first | (go_at_call 16; (with_reducible refine (refCheck_any _ _ l _ HR.out).mono ?_); rintro e w2 ⟨rfl, rfl⟩; rw [HG.out]; skip) | (go_at_call 16; (with_reducible refine (refCheck_any _ _ m _ HR'.out).mono ?_); rintro e w2 ⟨rfl, rfl⟩; rw [HG'.out]; skip) | (go_at_call 30; (with_reducible refine (more_any _ _ _ _ l m _ HR.out HR'.out hlim').mono ?_); rintro e w2 ⟨rfl, rfl⟩; rw [H1.out]; skip) | (go_at_call 30; (with_reducible refine (more_any _ _ _ _ m l _ HR'.out HR.out hlim).mono ?_); rintro e w2 ⟨rfl, rfl⟩; rw [H2.out]; skip))
    go_ret
    exact ⟨rfl, rfl⟩
theorem steps_ex : steps [1] [1, 2] = true := by rw [steps_more]; decide
set_option maxHeartbeats 400000 in
theorem lawSteps_any (A B : Option Addr) (c c' : Nat) (l m : List Int) (w : World) {N M : Nat} (hr : Rd (ints .i64) 1 w A N l) (hr' : Rd (ints .i64) 1 w B M m) (hlim : N * 8 ≤ 140737488351232) (hlim' : M * 8 ≤ 140737488351232) :
    Calls Try.prog 6 #[.slice A N c, .slice B M c'] w (fun e w' => e = .returned (.bool true) ∧ Below w.heap.size w w') := by
  have HR := Aside0.mk hr
  have HR' := Aside0.mk hr'
  clear hr hr'
  have h : steps l m = refSteps l m := steps_more l m
  generalize hb : refSteps l m = b at h
  have HB := Aside0.mk hb
  have HA := Aside0.mk h
  clear hb h
  have hbb : (b == b) = true := by simp
  have HS := Aside0.mk (SH.start w)
  go_enter Try.func6, Try.ntmps6
  go_wp2_with (first | (go_at_call 20; (with_reducible refine (steps_any _ _ _ _ l m _ (HR.out.sh HS.out) (HR'.out.sh HS.out)).mono ?_); rintro e w2 ⟨rfl, hb⟩; rw [HA.out]; have HS1 := HS.out.quiet hb; clear HS hb; have HS := Aside0.mk HS1; clear HS1) | (go_at_call 20; (with_reducible refine (steps_any _ _ _ _ [1] [1, 2] _ (Rd.lit (ints_len .i64) (HS.out.blk 0 (by with_unfolding_all rfl)) (by decide) (by with_unfolding_all rfl) (by decide)) (Rd.lit (ints_len .i64) (HS.out.blk 1 (by with_unfolding_all rfl)) (by decide) (by with_unfolding_all rfl) (by decide))).mono ?_); rintro e w2 ⟨rfl, hb⟩; rw [steps_ex]; have HS1 := HS.out.quiet hb; clear HS hb; have HS := Aside0.mk HS1; clear HS1) | (go_at_call 21; (with_reducible refine (refSteps_any _ _ _ _ l m _ (HR.out.sh HS.out) (HR'.out.sh HS.out) hlim hlim').mono ?_); rintro e w2 ⟨rfl, rfl⟩; rw [HB.out]; skip) | ((with_reducible refine gA rfl ?_); refine sh_alloc HS.out rfl rfl (zeT _ (by decide)) ?_; clear HS; intro g w1 hg HS1; (simp only [zeF, segOf, List.toList_toArray, List.cons_append, List.nil_append] at HS1); have HS := Aside0.mk HS1; clear HS1; try simp only [Act.put, List.setIfInBounds_toArray, List.set_cons_zero, List.set_cons_succ]) | ((with_reducible refine gB rfl ?_); (first | refine sh_box HS.out rfl rfl (v := (.agg (List.toArray _))) rfl ?_ | refine sh_box HS.out rfl rfl (v := (.int _ _)) rfl ?_ | refine sh_box HS.out rfl rfl (v := (.slice _ _ _)) rfl ?_ | refine sh_box HS.out rfl rfl (v := (.bool _)) rfl ?_ | refine sh_box HS.out rfl rfl (v := (.pointer _)) rfl ?_ | refine sh_box HS.out rfl rfl (v := (.string _)) rfl ?_ | refine sh_box HS.out rfl rfl (v := (.map _)) rfl ?_ | refine sh_box HS.out rfl rfl (v := (.func _ _ _)) rfl ?_); clear HS; intro g w1 hg HS1; (simp only [segOf, List.toList_toArray, List.cons_append, List.nil_append] at HS1); have HS := Aside0.mk HS1; clear HS1; try simp only [Act.put, List.setIfInBounds_toArray, List.set_cons_zero, List.set_cons_succ]) | ((with_reducible refine gL rfl ?_); refine sh_lit HS.out rfl rfl (by go_simp; exact ⟨⟨rfl, rfl⟩, rfl⟩) ?_; clear HS; intro g w1 hg HS1; (simp only [segOf, List.toList_toArray, List.cons_append, List.nil_append] at HS1); have HS := Aside0.mk HS1; clear HS1; try simp only [Act.put, List.setIfInBounds_toArray, List.set_cons_zero, List.set_cons_succ]))
  go_ret
  exact ⟨by first | rfl | simp, HS.out.below⟩
set_option maxHeartbeats 1600000 in
theorem lawBack_any (A B : Option Addr) (c c' : Nat) (l m : List Int) (w : World) {N M : Nat} (hr : Rd (ints .i64) 1 w A N l) (hr' : Rd (ints .i64) 1 w B M m) :
    Calls Try.prog 8 #[.slice A N c, .slice B M c'] w (fun e w' => e = .returned (.bool true) ∧ Below w.heap.size w w') := by
  have HR := Aside0.mk hr
  have HR' := Aside0.mk hr'
  clear hr hr'
  have hk := steps_back m l
  have hgg : steps l m = true → good l = true ∧ good m = true := by
    intro h
    rw [steps_more, Bool.and_eq_true, Bool.and_eq_true] at h
    exact h.1
  generalize hb : steps l m = b at hk hgg
  have HB := Aside0.mk hb
  have HK := Aside0.mk hk
  have HE := Aside0.mk (steps_self l)
  clear hb hk
  have hbb : (b == b) = true := by simp
  have HS := Aside0.mk (SH.start w)
  cases b
  · clear hgg
    go_enter Try.func8, Try.ntmps8
    go_wp2_with (first | (go_at_call 20; (with_reducible refine (steps_any _ _ _ _ l l _ (HR.out.sh HS.out) (HR.out.sh HS.out)).mono ?_); rintro e w2 ⟨rfl, hb⟩; rw [HE.out]; have HS1 := HS.out.quiet hb; clear HS hb; have HS := Aside0.mk HS1; clear HS1) | (go_at_call 20; (with_reducible refine (steps_any _ _ _ _ l m _ (HR.out.sh HS.out) (HR'.out.sh HS.out)).mono ?_); rintro e w2 ⟨rfl, hb⟩; rw [HB.out]; have HS1 := HS.out.quiet hb; clear HS hb; have HS := Aside0.mk HS1; clear HS1) | (go_at_call 20; (with_reducible refine (steps_any _ _ _ _ m l _ (HR'.out.sh HS.out) (HR.out.sh HS.out)).mono ?_); rintro e w2 ⟨rfl, hb⟩; rw [HK.out]; have HS1 := HS.out.quiet hb; clear HS hb; have HS := Aside0.mk HS1; clear HS1) | (go_at_call 20; (with_reducible refine (steps_any _ _ _ _ [1] [1, 2] _ (Rd.lit (ints_len .i64) (HS.out.blk 0 (by with_unfolding_all rfl)) (by decide) (by with_unfolding_all rfl) (by decide)) (Rd.lit (ints_len .i64) (HS.out.blk 1 (by with_unfolding_all rfl)) (by decide) (by with_unfolding_all rfl) (by decide))).mono ?_); rintro e w2 ⟨rfl, hb⟩; rw [steps_ex]; have HS1 := HS.out.quiet hb; clear HS hb; have HS := Aside0.mk HS1; clear HS1) | ((with_reducible refine gA rfl ?_); refine sh_alloc HS.out rfl rfl (zeT _ (by decide)) ?_; clear HS; intro g w1 hg HS1; (simp only [zeF, segOf, List.toList_toArray, List.cons_append, List.nil_append] at HS1); have HS := Aside0.mk HS1; clear HS1; try simp only [Act.put, List.setIfInBounds_toArray, List.set_cons_zero, List.set_cons_succ]) | ((with_reducible refine gB rfl ?_); (first | refine sh_box HS.out rfl rfl (v := (.agg (List.toArray _))) rfl ?_ | refine sh_box HS.out rfl rfl (v := (.int _ _)) rfl ?_ | refine sh_box HS.out rfl rfl (v := (.slice _ _ _)) rfl ?_ | refine sh_box HS.out rfl rfl (v := (.bool _)) rfl ?_ | refine sh_box HS.out rfl rfl (v := (.pointer _)) rfl ?_ | refine sh_box HS.out rfl rfl (v := (.string _)) rfl ?_ | refine sh_box HS.out rfl rfl (v := (.map _)) rfl ?_ | refine sh_box HS.out rfl rfl (v := (.func _ _ _)) rfl ?_); clear HS; intro g w1 hg HS1; (simp only [segOf, List.toList_toArray, List.cons_append, List.nil_append] at HS1); have HS := Aside0.mk HS1; clear HS1; try simp only [Act.put, List.setIfInBounds_toArray, List.set_cons_zero, List.set_cons_succ]) | ((with_reducible refine gL rfl ?_); refine sh_lit HS.out rfl rfl (by go_simp; exact ⟨⟨rfl, rfl⟩, rfl⟩) ?_; clear HS; intro g w1 hg HS1; (simp only [segOf, List.toList_toArray, List.cons_append, List.nil_append] at HS1); have HS := Aside0.mk HS1; clear HS1; try simp only [Act.put, List.setIfInBounds_toArray, List.set_cons_zero, List.set_cons_succ]))
    go_ret
    exact ⟨by first | rfl | simp, HS.out.below⟩
  · obtain ⟨h1, h2⟩ := hgg rfl
    clear hgg
    have HG := Aside0.mk h1
    have HG' := Aside0.mk h2
    clear h1 h2
    go_enter Try.func8, Try.ntmps8
    go_wp2_with (first | (go_at_call 20; (with_reducible refine (steps_any _ _ _ _ l l _ (HR.out.sh HS.out) (HR.out.sh HS.out)).mono ?_); rintro e w2 ⟨rfl, hb⟩; rw [HE.out]; have HS1 := HS.out.quiet hb; clear HS hb; have HS := Aside0.mk HS1; clear HS1) | (go_at_call 20; (with_reducible refine (steps_any _ _ _ _ l m _ (HR.out.sh HS.out) (HR'.out.sh HS.out)).mono ?_); rintro e w2 ⟨rfl, hb⟩; rw [HB.out]; have HS1 := HS.out.quiet hb; clear HS hb; have HS := Aside0.mk HS1; clear HS1) | (go_at_call 20; (with_reducible refine (steps_any _ _ _ _ m l _ (HR'.out.sh HS.out) (HR.out.sh HS.out)).mono ?_); rintro e w2 ⟨rfl, hb⟩; rw [HK.out]; have HS1 := HS.out.quiet hb; clear HS hb; have HS := Aside0.mk HS1; clear HS1) | (go_at_call 20; (with_reducible refine (steps_any _ _ _ _ [1] [1, 2] _ (Rd.lit (ints_len .i64) (HS.out.blk 0 (by with_unfolding_all rfl)) (by decide) (by with_unfolding_all rfl) (by decide)) (Rd.lit (ints_len .i64) (HS.out.blk 1 (by with_unfolding_all rfl)) (by decide) (by with_unfolding_all rfl) (by decide))).mono ?_); rintro e w2 ⟨rfl, hb⟩; rw [steps_ex]; have HS1 := HS.out.quiet hb; clear HS hb; have HS := Aside0.mk HS1; clear HS1) | (go_at_call 15; (with_reducible refine (check_any _ _ l _ (HR.out.sh HS.out)).mono ?_); rintro e w2 ⟨rfl, hb⟩; rw [HG.out]; have HS1 := HS.out.quiet hb; clear HS hb; have HS := Aside0.mk HS1; clear HS1) | (go_at_call 15; (with_reducible refine (check_any _ _ m _ (HR'.out.sh HS.out)).mono ?_); rintro e w2 ⟨rfl, hb⟩; rw [HG'.out]; have HS1 := HS.out.quiet hb; clear HS hb; have HS := Aside0.mk HS1; clear HS1) | ((with_reducible refine gA rfl ?_); refine sh_alloc HS.out rfl rfl (zeT _ (by decide)) ?_; clear HS; intro g w1 hg HS1; (simp only [zeF, segOf, List.toList_toArray, List.cons_append, List.nil_append] at HS1); have HS := Aside0.mk HS1; clear HS1; try simp only [Act.put, List.setIfInBounds_toArray, List.set_cons_zero, List.set_cons_succ]) | ((with_reducible refine gB rfl ?_); (first | refine sh_box HS.out rfl rfl (v := (.agg (List.toArray _))) rfl ?_ | refine sh_box HS.out rfl rfl (v := (.int _ _)) rfl ?_ | refine sh_box HS.out rfl rfl (v := (.slice _ _ _)) rfl ?_ | refine sh_box HS.out rfl rfl (v := (.bool _)) rfl ?_ | refine sh_box HS.out rfl rfl (v := (.pointer _)) rfl ?_ | refine sh_box HS.out rfl rfl (v := (.string _)) rfl ?_ | refine sh_box HS.out rfl rfl (v := (.map _)) rfl ?_ | refine sh_box HS.out rfl rfl (v := (.func _ _ _)) rfl ?_); clear HS; intro g w1 hg HS1; (simp only [segOf, List.toList_toArray, List.cons_append, List.nil_append] at HS1); have HS := Aside0.mk HS1; clear HS1; try simp only [Act.put, List.setIfInBounds_toArray, List.set_cons_zero, List.set_cons_succ]) | ((with_reducible refine gL rfl ?_); refine sh_lit HS.out rfl rfl (by go_simp; exact ⟨⟨rfl, rfl⟩, rfl⟩) ?_; clear HS; intro g w1 hg HS1; (simp only [segOf, List.toList_toArray, List.cons_append, List.nil_append] at HS1); have HS := Aside0.mk HS1; clear HS1; try simp only [Act.put, List.setIfInBounds_toArray, List.set_cons_zero, List.set_cons_succ]))
    go_ret
    exact ⟨by first | rfl | simp, HS.out.below⟩
end Go.Proofs.Ytkfopjonhhldnaa.Nod
