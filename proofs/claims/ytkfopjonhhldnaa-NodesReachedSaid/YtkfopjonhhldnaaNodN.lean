import Derived.Test.YtkfopjonhhldnaaNodM
import Derived.Test.YtkfopjonhhldnaaNod6
namespace Go.Proofs.Ytkfopjonhhldnaa.Nod
open Go.RowKit Go.Proofs.YtkfopjonhhldnaaW.PrintWords Go.Proofs.Ytkfopjonhhldnaa.Sl
set_option linter.unusedVariables false
set_option linter.unusedSimpArgs false
/-! The law NodesReached. -/
theorem mid_counts {xs : List Int} {r : Int} (h : isMid xs r) (hp : 0 < xs.length) : xs.length < 2 * xs.countP (fun y => decide (r ≤ y)) ∧ 2 * xs.countP (fun y => decide (r < y)) ≤ xs.length := by
  obtain ⟨ys, hl, hs, hc, rfl⟩ := h
  obtain ⟨q, hq⟩ : ∃ q, (xs.length - 1) / 2 = q := ⟨_, rfl⟩
  rw [hq]
  have hql : q < ys.length := by omega
  have hg : ∀ i (hi : i < ys.length), ys.getD i 0 = ys[i] := fun i hi => by rw [List.getD_eq_getElem?_getD, List.getElem?_eq_getElem hi]; rfl
  obtain ⟨r, hr⟩ : ∃ r, ys.getD q 0 = r := ⟨_, rfl⟩
  rw [hr]
  have hle : ∀ i, q ≤ i → i < ys.length → r ≤ ys.getD i 0 := fun i h1 h2 => by
    by_cases e : i = q
    · subst e; omega
    · rw [← hr]; exact hs q i (by omega) h2
  have hge : ∀ i, i ≤ q → ys.getD i 0 ≤ r := fun i h1 => by
    by_cases e : i = q
    · subst e; omega
    · rw [← hr]; exact hs i q (by omega) hql
  have hcount : ∀ (p : Int → Bool) (k : Nat), ys.countP p = (ys.take k).countP p + (ys.drop k).countP p := fun p k => by
    rw [← List.countP_append, List.take_append_drop]
  constructor
  · rw [← hc, hcount _ q]
    have : (ys.drop q).countP (fun y => decide (r ≤ y)) = (ys.drop q).length := List.countP_eq_length.2 (fun y hy => by
      obtain ⟨i, hi, rfl⟩ := List.getElem_of_mem hy
      rw [List.length_drop] at hi
      rw [List.getElem_drop, ← hg (q + i) (by omega)]
      exact decide_eq_true (hle (q + i) (by omega) (by omega)))
    rw [this, List.length_drop]
    omega
  · rw [← hc, hcount _ (q + 1)]
    have : (ys.take (q + 1)).countP (fun y => decide (r < y)) = 0 := List.countP_eq_zero.2 (fun y hy => by
      obtain ⟨i, hi, rfl⟩ := List.getElem_of_mem hy
      rw [List.length_take] at hi
      rw [List.getElem_take, ← hg i (by omega)]
      have := hge i (by omega)
      simp only [decide_eq_true_eq]
      omega)
    have h2 := List.countP_le_length (p := fun y => decide (r < y)) (l := ys.drop (q + 1))
    rw [List.length_drop] at h2
    omega
theorem infoIntN : (Try.prog.info? 3).map (fun i => (i.zero, i.size, i.bytes)) = some (some (.int .i64 0), 1, 8) := by kernel_rfl
theorem voted_filter (l : List Int) (P : Int → Bool) : voted l (l.filter P) = l.countP P := by
  unfold voted
  rw [List.countP_eq_length_filter]
  congr 1
  refine List.filter_congr (fun n hn => ?_)
  rw [Bool.eq_iff_iff, has_iff, List.mem_filter]
  exact ⟨fun h => h.2, fun h => ⟨hn, h⟩⟩
def there (m : FarM) (r : Int) (n : Int) : Bool := decide (r ≤ far m n)
def beyond (m : FarM) (r : Int) (n : Int) : Bool := decide (r < far m n)
theorem reached {l : List Int} {m : FarM} {r : Int} (hg : good l = true) (h : isMid (l.map (far m)) r) : maj l (l.filter (there m r)) = true ∧ maj l (l.filter (beyond m r)) = false := by
  obtain ⟨h1, h2⟩ := mid_counts h (by rw [List.length_map]; exact (good_len hg).1)
  rw [List.length_map, List.countP_map] at h1 h2
  unfold maj
  rw [hg, voted_filter, voted_filter, Bool.true_and, Bool.true_and]
  refine ⟨decide_eq_true ?_, decide_eq_false ?_⟩
  · exact h1
  · have h3 : l.countP (beyond m r) = l.countP ((fun y => decide (r < y)) ∘ far m) := rfl
    omega
theorem filter_take (l : List Int) (P : Int → Bool) {k : Nat} {x : Int} (hk : k < l.length) (hx : l.getD k 0 = x) : (l.take (k + 1)).filter P = if P x then (l.take k).filter P ++ [x] else (l.take k).filter P := by
  rw [take_succ_getD 0 hk, List.filter_append, hx]
  cases h : P x
  · simp [h]
  · simp [h]
theorem filter_le (l : List Int) (P : Int → Bool) (k : Nat) (h7 : l.length ≤ 7) : (((l.take k).filter P).length + 1) * 8 ≤ 140737488355328 := by
  have := List.length_filter_le P (l.take k)
  rw [List.length_take] at this
  omega
set_option maxHeartbeats 6400000 in
set_option maxRecDepth 100000 in
theorem lawReached_any (A B : Option Addr) (c c' : Nat) (l fs : List Int) (w : World) {N M : Nat} (hr : Rd (ints .i64) 1 w A N l) (hr' : Rd (ints .u64) 1 w B M fs) (hp : ∀ x ∈ fs, 0 ≤ x) :
    Calls Try.prog 12 #[.slice A N c, .slice B M c'] w (fun e w' => e = .returned (.bool true) ∧ Below w.heap.size w w') := by
  obtain rfl := hr.len.1
  obtain rfl := hr'.len.1
  have hm := hr.len.2
  have hm' := hr'.len.2
  have HR := Aside0.mk hr
  have HR' := Aside0.mk hr'
  have HPO := Aside0.mk (atM_pos hp)
  clear hr hr' hp
  have HS := Aside0.mk (SH.start w)
  go_enter Try.func12, Try.ntmps12
  go_upto_region 2 with (first | (go_at_call 26; (with_reducible refine (midC_any _ 3 _ [1, 2, 3] exM _ (rd123 (HS.out.blk 0 rfl)) (HS.out.at 1 rfl) exM_pos).mono ?_); rintro e w2 ⟨rfl, hb⟩; rw [exM_mid]; have HS1 := HS.out.quiet hb; clear HS hb; have HS := Aside0.mk HS1; clear HS1) | ((with_reducible refine gIn rfl ?_); refine sh_insert HS.out rfl rfl rfl rfl 1 rfl (1 : Int) rfl trivial (9 : Int) rfl Try.underlying33 farKeyOK ?_; clear HS; intro w1 HS1; (simp only [List.set_cons_zero, List.set_cons_succ] at HS1); have HS := Aside0.mk HS1; clear HS1; (try simp only [Act.put, List.setIfInBounds_toArray, List.set_cons_zero, List.set_cons_succ])) | ((with_reducible refine gIn rfl ?_); refine sh_insert HS.out rfl rfl rfl rfl 1 rfl (3 : Int) rfl trivial (4 : Int) rfl Try.underlying33 farKeyOK ?_; clear HS; intro w1 HS1; (simp only [List.set_cons_zero, List.set_cons_succ] at HS1); have HS := Aside0.mk HS1; clear HS1; (try simp only [Act.put, List.setIfInBounds_toArray, List.set_cons_zero, List.set_cons_succ])) | ((with_reducible refine gMm rfl ?_); refine sh_makeMap HS.out rfl rfl (Value.int .i64) (Value.int .u64) (fun _ : Int => True) ?_; clear HS; intro g w1 hg HS1; (simp only [List.cons_append, List.nil_append] at HS1); have HS := Aside0.mk HS1; clear HS1; try simp only [Act.put, List.setIfInBounds_toArray, List.set_cons_zero, List.set_cons_succ]) | ((with_reducible refine gA rfl ?_); refine sh_alloc HS.out rfl rfl (zeT _ (by decide)) ?_; clear HS; intro g w1 hg HS1; (simp only [zeF, segOf, List.toList_toArray, List.cons_append, List.nil_append] at HS1); have HS := Aside0.mk HS1; clear HS1; try simp only [Act.put, List.setIfInBounds_toArray, List.set_cons_zero, List.set_cons_succ]) | ((with_reducible refine gB rfl ?_); (first | refine sh_box HS.out rfl rfl (v := (.agg (List.toArray _))) rfl ?_ | refine sh_box HS.out rfl rfl (v := (.int _ _)) rfl ?_ | refine sh_box HS.out rfl rfl (v := (.slice _ _ _)) rfl ?_ | refine sh_box HS.out rfl rfl (v := (.bool _)) rfl ?_ | refine sh_box HS.out rfl rfl (v := (.pointer _)) rfl ?_ | refine sh_box HS.out rfl rfl (v := (.string _)) rfl ?_ | refine sh_box HS.out rfl rfl (v := (.map _)) rfl ?_ | refine sh_box HS.out rfl rfl (v := (.func _ _ _)) rfl ?_); clear HS; intro g w1 hg HS1; (simp only [segOf, List.toList_toArray, List.cons_append, List.nil_append] at HS1); have HS := Aside0.mk HS1; clear HS1; try simp only [Act.put, List.setIfInBounds_toArray, List.set_cons_zero, List.set_cons_succ]) | ((with_reducible refine gL rfl ?_); refine sh_lit HS.out rfl rfl (by go_simp; exact ⟨⟨rfl, rfl⟩, rfl⟩) ?_; clear HS; intro g w1 hg HS1; (simp only [segOf, List.toList_toArray, List.cons_append, List.nil_append] at HS1); have HS := Aside0.mk HS1; clear HS1; try simp only [Act.put, List.setIfInBounds_toArray, List.set_cons_zero, List.set_cons_succ]))
  have HS1 := HS.out.pick [] rfl (by decide)
  clear HS
  have HS : Aside0 (SH w _ []) := Aside0.mk HS1
  clear HS1
  go_wp2_with (first | ((with_reducible refine gMm rfl ?_); refine sh_makeMap HS.out rfl rfl (Value.int .i64) (Value.int .u64) (fun _ : Int => True) ?_; clear HS; intro g w1 hg HS1; (simp only [List.cons_append, List.nil_append] at HS1); have HS := Aside0.mk HS1; clear HS1; try simp only [Act.put, List.setIfInBounds_toArray, List.set_cons_zero, List.set_cons_succ]))
  obtain ⟨gm, hgm⟩ : ∃ gm, gm = g := ⟨_, rfl⟩
  subst hgm
  go_loopw [7, 8, 22] (fun v7 v8 v22 wr => ∃ (k : Nat), k ≤ fs.length ∧ v22 = .int .i64 k ∧ Aside0 (SH w wr [FarI gm (atM fs k)])) (fun _ _ v22 _ => fs.length - (intOf v22).toNat)
  case atStart => exact ⟨0, Nat.zero_le _, rfl, HS⟩
  case round =>
    clear HS
    obtain ⟨k, hk, rfl, HS⟩ := hrel
    by_cases hlt : k < fs.length
    · obtain ⟨ad, rfl⟩ := HR'.out.addr (by omega)
      generalize hx : fs.getD k 0 = x
      have HAT := Aside0.mk (show atM fs (k + 1) = if k < 12 then mput (atM fs k) (k : Int) x else atM fs k by rw [atM, hx])
      have HX := Aside0.mk hx
      clear hx
      have HRR := Aside0.mk (HR'.out.sh HS.out)
      by_cases h12 : k < 12
      · have f1 : decide ((k : Int) < 12) = true := by rw [decide_eq_true_eq]; omega
        have HA2 := Aside0.mk (show atM fs (k + 1) = mput (atM fs k) (k : Int) x by rw [HAT.out, if_pos h12])
        go_wp2_with (first | ((with_reducible refine gLd rfl ?_); refine rd_load1 (enc := Value.int .u64) HRR.out rfl rfl (i := k) rfl hlt 0 ((agT _ (by decide)).trans rfl) ?_; intro x hx; obtain rfl := HX.out.symm.trans hx; (try simp only [Act.put, List.setIfInBounds_toArray, List.set_cons_zero, List.set_cons_succ])) | ((with_reducible refine gMu rfl ?_); refine sh_update HS.out rfl rfl rfl rfl 0 rfl (k : Int) rfl trivial x rfl rfl farKeyOK ?_; clear HS; intro w1 HS1; (simp only [List.set_cons_zero, List.set_cons_succ] at HS1); have HS := Aside0.mk HS1; clear HS1; try simp only [Act.put, List.setIfInBounds_toArray, List.set_cons_zero, List.set_cons_succ]))
        go_roundw
        case rel => exact ⟨k + 1, by omega, by go_num, ⟨by rw [HA2.out]; exact HS.out⟩⟩
        case measure => simp [intOf]; omega
      · have f1 : decide ((k : Int) < 12) = false := by rw [decide_eq_false_iff_not]; omega
        have HA2 := Aside0.mk (show atM fs (k + 1) = atM fs k by rw [HAT.out, if_neg h12])
        go_wp2_with (first | ((with_reducible refine gLd rfl ?_); refine rd_load1 (enc := Value.int .u64) HRR.out rfl rfl (i := k) rfl hlt 0 ((agT _ (by decide)).trans rfl) ?_; intro x hx; obtain rfl := HX.out.symm.trans hx; (try simp only [Act.put, List.setIfInBounds_toArray, List.set_cons_zero, List.set_cons_succ])))
        go_roundw
        case rel => exact ⟨k + 1, by omega, by go_num, ⟨by rw [HA2.out]; exact HS.out⟩⟩
        case measure => simp [intOf]; omega
    · obtain rfl : k = fs.length := by omega
      obtain ⟨m, hmm⟩ : ∃ m, atM fs fs.length = m := ⟨_, rfl⟩
      rw [hmm] at HS
      clear hmm
      go_upto_region 10 with (first | (go_at_call 26; (with_reducible refine (mid_any A c gm l m _ (HR.out.sh HS.out) (HS.out.at 0 rfl)).mono ?_); rintro e w2 ⟨⟨r, rfl, hr0, hr1⟩, hb⟩; have HR0 := Aside0.mk hr0; have HR1 := Aside0.mk hr1; clear hr0 hr1; have HS1 := HS.out.quiet hb; clear HS hb; have HS := Aside0.mk HS1; clear HS1) | ((with_reducible refine gA rfl ?_); refine sh_alloc HS.out rfl rfl (zeT _ (by decide)) ?_; clear HS; intro g w1 hg HS1; (simp only [zeF, segOf, List.toList_toArray, List.cons_append, List.nil_append] at HS1); have HS := Aside0.mk HS1; clear HS1; try simp only [Act.put, List.setIfInBounds_toArray, List.set_cons_zero, List.set_cons_succ]) | ((with_reducible refine gB rfl ?_); (first | refine sh_box HS.out rfl rfl (v := (.agg (List.toArray _))) rfl ?_ | refine sh_box HS.out rfl rfl (v := (.int _ _)) rfl ?_ | refine sh_box HS.out rfl rfl (v := (.slice _ _ _)) rfl ?_ | refine sh_box HS.out rfl rfl (v := (.bool _)) rfl ?_ | refine sh_box HS.out rfl rfl (v := (.pointer _)) rfl ?_ | refine sh_box HS.out rfl rfl (v := (.string _)) rfl ?_ | refine sh_box HS.out rfl rfl (v := (.map _)) rfl ?_ | refine sh_box HS.out rfl rfl (v := (.func _ _ _)) rfl ?_); clear HS; intro g w1 hg HS1; (simp only [segOf, List.toList_toArray, List.cons_append, List.nil_append] at HS1); have HS := Aside0.mk HS1; clear HS1; try simp only [Act.put, List.setIfInBounds_toArray, List.set_cons_zero, List.set_cons_succ]) | ((with_reducible refine gL rfl ?_); refine sh_lit HS.out rfl rfl (by go_simp; exact ⟨⟨rfl, rfl⟩, rfl⟩) ?_; clear HS; intro g w1 hg HS1; (simp only [segOf, List.toList_toArray, List.cons_append, List.nil_append] at HS1); have HS := Aside0.mk HS1; clear HS1; try simp only [Act.put, List.setIfInBounds_toArray, List.set_cons_zero, List.set_cons_succ]))
      cases hg : good l with
      | false =>
        have HG := Aside0.mk hg
        obtain rfl := HR0.out hg
        clear hg
        go_wp2_with (first | (go_at_call 15; (with_reducible refine (check_any _ _ l _ (HR.out.sh HS.out)).mono ?_); rintro e w2 ⟨rfl, hb⟩; rw [HG.out]; have HS1 := HS.out.quiet hb; clear HS hb; have HS := Aside0.mk HS1; clear HS1) | ((with_reducible refine gA rfl ?_); refine sh_alloc HS.out rfl rfl (zeT _ (by decide)) ?_; clear HS; intro g w1 hg HS1; (simp only [zeF, segOf, List.toList_toArray, List.cons_append, List.nil_append] at HS1); have HS := Aside0.mk HS1; clear HS1; try simp only [Act.put, List.setIfInBounds_toArray, List.set_cons_zero, List.set_cons_succ]) | ((with_reducible refine gB rfl ?_); (first | refine sh_box HS.out rfl rfl (v := (.agg (List.toArray _))) rfl ?_ | refine sh_box HS.out rfl rfl (v := (.int _ _)) rfl ?_ | refine sh_box HS.out rfl rfl (v := (.slice _ _ _)) rfl ?_ | refine sh_box HS.out rfl rfl (v := (.bool _)) rfl ?_ | refine sh_box HS.out rfl rfl (v := (.pointer _)) rfl ?_ | refine sh_box HS.out rfl rfl (v := (.string _)) rfl ?_ | refine sh_box HS.out rfl rfl (v := (.map _)) rfl ?_ | refine sh_box HS.out rfl rfl (v := (.func _ _ _)) rfl ?_); clear HS; intro g w1 hg HS1; (simp only [segOf, List.toList_toArray, List.cons_append, List.nil_append] at HS1); have HS := Aside0.mk HS1; clear HS1; try simp only [Act.put, List.setIfInBounds_toArray, List.set_cons_zero, List.set_cons_succ]) | ((with_reducible refine gL rfl ?_); refine sh_lit HS.out rfl rfl (by go_simp; exact ⟨⟨rfl, rfl⟩, rfl⟩) ?_; clear HS; intro g w1 hg HS1; (simp only [segOf, List.toList_toArray, List.cons_append, List.nil_append] at HS1); have HS := Aside0.mk HS1; clear HS1; try simp only [Act.put, List.setIfInBounds_toArray, List.set_cons_zero, List.set_cons_succ]))
        go_ret
        exact ⟨rfl, HS.out.below⟩
      | true =>
        have HG := Aside0.mk hg
        have HMJ := Aside0.mk (reached hg (HR1.out hg))
        have h7 := (good_len hg).2
        clear hg HR0 HR1
        go_wp2_with (first | (go_at_call 15; (with_reducible refine (check_any _ _ l _ (HR.out.sh HS.out)).mono ?_); rintro e w2 ⟨rfl, hb⟩; rw [HG.out]; have HS1 := HS.out.quiet hb; clear HS hb; have HS := Aside0.mk HS1; clear HS1) | ((with_reducible refine gA rfl ?_); refine sh_alloc HS.out rfl rfl (zeT _ (by decide)) ?_; clear HS; intro g w1 hg HS1; (simp only [zeF, segOf, List.toList_toArray, List.cons_append, List.nil_append] at HS1); have HS := Aside0.mk HS1; clear HS1; try simp only [Act.put, List.setIfInBounds_toArray, List.set_cons_zero, List.set_cons_succ]) | ((with_reducible refine gB rfl ?_); (first | refine sh_box HS.out rfl rfl (v := (.agg (List.toArray _))) rfl ?_ | refine sh_box HS.out rfl rfl (v := (.int _ _)) rfl ?_ | refine sh_box HS.out rfl rfl (v := (.slice _ _ _)) rfl ?_ | refine sh_box HS.out rfl rfl (v := (.bool _)) rfl ?_ | refine sh_box HS.out rfl rfl (v := (.pointer _)) rfl ?_ | refine sh_box HS.out rfl rfl (v := (.string _)) rfl ?_ | refine sh_box HS.out rfl rfl (v := (.map _)) rfl ?_ | refine sh_box HS.out rfl rfl (v := (.func _ _ _)) rfl ?_); clear HS; intro g w1 hg HS1; (simp only [segOf, List.toList_toArray, List.cons_append, List.nil_append] at HS1); have HS := Aside0.mk HS1; clear HS1; try simp only [Act.put, List.setIfInBounds_toArray, List.set_cons_zero, List.set_cons_succ]) | ((with_reducible refine gL rfl ?_); refine sh_lit HS.out rfl rfl (by go_simp; exact ⟨⟨rfl, rfl⟩, rfl⟩) ?_; clear HS; intro g w1 hg HS1; (simp only [segOf, List.toList_toArray, List.cons_append, List.nil_append] at HS1); have HS := Aside0.mk HS1; clear HS1; try simp only [Act.put, List.setIfInBounds_toArray, List.set_cons_zero, List.set_cons_succ]))
        have HS1 := (HS.out.nil (intK .i64) 3).nil (intK .i64) 3
        simp only [List.cons_append, List.nil_append] at HS1
        clear HS
        have HS := Aside0.mk HS1
        clear HS1
        go_loopw [10, 11, 13, 46] (fun v10 v11 v13 v46 wr => ∃ (k : Nat) (S1 S2 : Nat → Prop), k ≤ l.length ∧ v46 = .int .i64 k ∧ Aside0 (SH w wr [FarI gm m, row (intK .i64) 3 v10 ((l.take k).filter (there m r)) S1, row (intK .i64) 3 v11 ((l.take k).filter (beyond m r)) S2])) (fun _ _ _ v46 _ => l.length - (intOf v46).toNat)
        case atStart => exact ⟨0, _, _, Nat.zero_le _, rfl, HS⟩
        case round =>
          clear HS
          obtain ⟨k, S1, S2, hk, rfl, HS⟩ := hrel
          by_cases hlt : k < l.length
          · obtain ⟨ad, rfl⟩ := HR.out.addr (by omega)
            generalize hx : l.getD k 0 = x
            have ht1 := filter_take l (there m r) hlt hx
            have ht2 := filter_take l (beyond m r) hlt hx
            have HX := Aside0.mk hx
            clear hx
            have HRR := Aside0.mk (HR.out.sh HS.out)
            have HLM1 := Aside0.mk (filter_le l (there m r) k h7)
            have HLM2 := Aside0.mk (filter_le l (beyond m r) k h7)
            obtain ⟨fx, hfx⟩ : ∃ fx, far m x = fx := ⟨_, rfl⟩
            have e1 : there m r x = decide (r ≤ fx) := by unfold there; rw [hfx]
            have e2 : beyond m r x = decide (r < fx) := by unfold beyond; rw [hfx]
            rw [e1] at ht1
            rw [e2] at ht2
            have HFX := Aside0.mk hfx
            clear hfx e1 e2
            cases d1 : decide (r ≤ fx) <;> cases d2 : decide (r < fx)
            all_goals
              first
              | (exfalso; simp only [decide_eq_true_eq, decide_eq_false_iff_not] at d1 d2; omega)
              | (rw [d1] at ht1
                 rw [d2] at ht2
                 have HT := Aside0.mk (And.intro ht1 ht2)
                 clear ht1 ht2
                 go_wp2_with (first | ((with_reducible refine gLd rfl ?_); refine rd_load1 (enc := Value.int .i64) HRR.out rfl rfl (i := k) rfl hlt 0 ((agT _ (by decide)).trans rfl) ?_; intro x hx; obtain rfl := HX.out.symm.trans hx; (try simp only [Act.put, List.setIfInBounds_toArray, List.set_cons_zero, List.set_cons_succ])) | ((with_reducible refine gLk rfl ?_); refine rd_lookup rfl rfl rfl (HS.out.at 0 rfl) x rfl trivial Try.underlying33 farKeyOK zeroU64 ?_; rw [show (mget m x).getD 0 = fx from HFX.out]; (try simp only [Act.put, List.setIfInBounds_toArray, List.set_cons_zero, List.set_cons_succ])) | ((with_reducible refine gC (b := .append) rfl ?_); refine sh_append HS.out rfl rfl rfl 1 rfl rfl (Rd.one (ints_len .i64) x (HS.out.blk 3 rfl)) Try.underlying22 infoIntN rfl (by decide) (by decide) HLM1.out ?_; clear HS; intro v1 w1 S1 HS1; (simp only [List.set_cons_zero, List.set_cons_succ] at HS1); have HS := Aside0.mk HS1; clear HS1; try simp only [Act.put, List.setIfInBounds_toArray, List.set_cons_zero, List.set_cons_succ]) | ((with_reducible refine gC (b := .append) rfl ?_); refine sh_append HS.out rfl rfl rfl 2 rfl rfl (Rd.one (ints_len .i64) x (HS.out.blk 4 rfl)) Try.underlying22 infoIntN rfl (by decide) (by decide) HLM2.out ?_; clear HS; intro v1 w1 S1 HS1; (simp only [List.set_cons_zero, List.set_cons_succ] at HS1); have HS := Aside0.mk HS1; clear HS1; try simp only [Act.put, List.setIfInBounds_toArray, List.set_cons_zero, List.set_cons_succ]) | ((with_reducible refine gA rfl ?_); refine sh_alloc HS.out rfl rfl (zeT _ (by decide)) ?_; clear HS; intro g w1 hg HS1; (simp only [zeF, segOf, List.toList_toArray, List.cons_append, List.nil_append] at HS1); have HS := Aside0.mk HS1; clear HS1; try simp only [Act.put, List.setIfInBounds_toArray, List.set_cons_zero, List.set_cons_succ]) | ((with_reducible refine gB rfl ?_); (first | refine sh_box HS.out rfl rfl (v := (.agg (List.toArray _))) rfl ?_ | refine sh_box HS.out rfl rfl (v := (.int _ _)) rfl ?_ | refine sh_box HS.out rfl rfl (v := (.slice _ _ _)) rfl ?_ | refine sh_box HS.out rfl rfl (v := (.bool _)) rfl ?_ | refine sh_box HS.out rfl rfl (v := (.pointer _)) rfl ?_ | refine sh_box HS.out rfl rfl (v := (.string _)) rfl ?_ | refine sh_box HS.out rfl rfl (v := (.map _)) rfl ?_ | refine sh_box HS.out rfl rfl (v := (.func _ _ _)) rfl ?_); clear HS; intro g w1 hg HS1; (simp only [segOf, List.toList_toArray, List.cons_append, List.nil_append] at HS1); have HS := Aside0.mk HS1; clear HS1; try simp only [Act.put, List.setIfInBounds_toArray, List.set_cons_zero, List.set_cons_succ]) | ((with_reducible refine gL rfl ?_); refine sh_lit HS.out rfl rfl (by go_simp; exact ⟨⟨rfl, rfl⟩, rfl⟩) ?_; clear HS; intro g w1 hg HS1; (simp only [segOf, List.toList_toArray, List.cons_append, List.nil_append] at HS1); have HS := Aside0.mk HS1; clear HS1; try simp only [Act.put, List.setIfInBounds_toArray, List.set_cons_zero, List.set_cons_succ]))
                 go_roundw
                 case rel => exact ⟨k + 1, _, _, by omega, by go_num, ⟨by rw [HT.out.1, HT.out.2]; exact HS.out.pick [0, 1, 2] rfl (by decide)⟩⟩
                 case measure => simp [intOf]; omega)
          · obtain rfl : k = l.length := by omega
            rw [List.take_length] at HS
            obtain ⟨A1, c1, rfl, _, _⟩ := row_rd HS.out 1 rfl
            obtain ⟨A2, c2, rfl, _, _⟩ := row_rd HS.out 2 rfl
            go_wp2_with (first | (go_at_call 18; (with_reducible refine (maj_any A A1 c c1 l _ _ (HR.out.sh HS.out) (row_rds 1 rfl _ HS.out)).mono ?_); rintro e w2 ⟨rfl, hb⟩; rw [HMJ.out.1]; have HS1 := HS.out.quiet hb; clear HS hb; have HS := Aside0.mk HS1; clear HS1) | (go_at_call 18; (with_reducible refine (maj_any A A2 c c2 l _ _ (HR.out.sh HS.out) (row_rds 2 rfl _ HS.out)).mono ?_); rintro e w2 ⟨rfl, hb⟩; rw [HMJ.out.2]; have HS1 := HS.out.quiet hb; clear HS hb; have HS := Aside0.mk HS1; clear HS1) | ((with_reducible refine gA rfl ?_); refine sh_alloc HS.out rfl rfl (zeT _ (by decide)) ?_; clear HS; intro g w1 hg HS1; (simp only [zeF, segOf, List.toList_toArray, List.cons_append, List.nil_append] at HS1); have HS := Aside0.mk HS1; clear HS1; try simp only [Act.put, List.setIfInBounds_toArray, List.set_cons_zero, List.set_cons_succ]) | ((with_reducible refine gB rfl ?_); (first | refine sh_box HS.out rfl rfl (v := (.agg (List.toArray _))) rfl ?_ | refine sh_box HS.out rfl rfl (v := (.int _ _)) rfl ?_ | refine sh_box HS.out rfl rfl (v := (.slice _ _ _)) rfl ?_ | refine sh_box HS.out rfl rfl (v := (.bool _)) rfl ?_ | refine sh_box HS.out rfl rfl (v := (.pointer _)) rfl ?_ | refine sh_box HS.out rfl rfl (v := (.string _)) rfl ?_ | refine sh_box HS.out rfl rfl (v := (.map _)) rfl ?_ | refine sh_box HS.out rfl rfl (v := (.func _ _ _)) rfl ?_); clear HS; intro g w1 hg HS1; (simp only [segOf, List.toList_toArray, List.cons_append, List.nil_append] at HS1); have HS := Aside0.mk HS1; clear HS1; try simp only [Act.put, List.setIfInBounds_toArray, List.set_cons_zero, List.set_cons_succ]) | ((with_reducible refine gL rfl ?_); refine sh_lit HS.out rfl rfl (by go_simp; exact ⟨⟨rfl, rfl⟩, rfl⟩) ?_; clear HS; intro g w1 hg HS1; (simp only [segOf, List.toList_toArray, List.cons_append, List.nil_append] at HS1); have HS := Aside0.mk HS1; clear HS1; try simp only [Act.put, List.setIfInBounds_toArray, List.set_cons_zero, List.set_cons_succ]))
            go_ret
            exact ⟨rfl, HS.out.below⟩
namespace LawReached
theorem walk (W : World) (cs0 : List Value) (x0 : intsS.D) (hk0 : intsS.kd.K W x0 cs0) (hw0 : intsS.wf x0) (hz0 : intsS.sized Try.prog x0) (cs1 : List Value) (x1 : u64sS.D) (hk1 : u64sS.kd.K W x1 cs1) (hw1 : u64sS.wf x1) (hz1 : u64sS.sized Try.prog x1) :
    Calls Try.prog 12 #[intsS.val cs0, u64sS.val cs1] W fun e W' => e = .returned (.bool true) ∧ Below W.heap.size W W' := by
  obtain ⟨A, c, rfl, _, hr⟩ := ints_open (e := 3) (k := .i64) hk0
  obtain ⟨B, c', rfl, _, hr'⟩ := ints_open (e := 34) (k := .u64) hk1
  exact lawReached_any A B c c' x0 x1 W hr hr' (fun x hx => u64_lo (hw1.2 x hx))
end LawReached
end Go.Proofs.Ytkfopjonhhldnaa.Nod
