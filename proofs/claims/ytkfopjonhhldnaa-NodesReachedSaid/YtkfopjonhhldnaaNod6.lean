import Derived.Test.YtkfopjonhhldnaaNod4
-- ENC: ofRow, rowM
namespace Go.Proofs.Ytkfopjonhhldnaa.Nod
open Go.RowKit Go.Proofs.YtkfopjonhhldnaaW.PrintWords Go.Proofs.Ytkfopjonhhldnaa.Sl
set_option linter.unusedVariables false
set_option linter.unusedSimpArgs false
/-- who of a set has not voted yet -/
def stillIn (l v : List Int) (j : Int) : Bool := inS l j && !has v j
def rowM (l v : List Int) : List Value := [.bool (stillIn l v 0), .bool (stillIn l v 1), .bool (stillIn l v 2), .bool (stillIn l v 3), .bool (stillIn l v 4), .bool (stillIn l v 5), .bool (stillIn l v 6), .bool (stillIn l v 7)]
theorem rowM_nil (l : List Int) : rowM l [] = ofRow l := by simp [rowM, ofRow, stillIn, has_nil]
theorem rowM_get {l v : List Int} {x : Int} {b : Bool} (h1 : 1 ≤ x) (h2 : x ≤ 7) (hb : stillIn l v x = b) : (rowM l v)[x.toNat]? = some (.bool b) := by
  subst hb
  obtain rfl | rfl | rfl | rfl | rfl | rfl | rfl : x = 1 ∨ x = 2 ∨ x = 3 ∨ x = 4 ∨ x = 5 ∨ x = 6 ∨ x = 7 := by omega
  all_goals rfl
theorem stillIn_succ {l v : List Int} {k : Nat} {x j : Int} (hk : k < v.length) (hx : v.getD k 0 = x) : stillIn l (v.take (k + 1)) j = (stillIn l (v.take k) j && !(x == j)) := by
  unfold stillIn
  rw [has_take_succ hk hx]
  cases inS l j <;> cases has (v.take k) j <;> simp
theorem rowM_keep {l v : List Int} {k : Nat} {x : Int} (hk : k < v.length) (hx : v.getD k 0 = x) (hb : stillIn l (v.take k) x = false) : rowM l (v.take (k + 1)) = rowM l (v.take k) := by
  have h : ∀ j, stillIn l (v.take (k + 1)) j = stillIn l (v.take k) j := by
    intro j
    rw [stillIn_succ hk hx]
    by_cases e : x = j
    · subst e; rw [hb]; rfl
    · rw [beq_eq_false_iff_ne.2 e]; simp
  simp only [rowM, h]
theorem rowM_set {l v : List Int} {k : Nat} {x : Int} (hk : k < v.length) (hx : v.getD k 0 = x) (h1 : 1 ≤ x) (h2 : x ≤ 7) : rowM l (v.take (k + 1)) = (rowM l (v.take k)).set x.toNat (.bool false) := by
  have h : ∀ j, stillIn l (v.take (k + 1)) j = (stillIn l (v.take k) j && !(x == j)) := fun j => stillIn_succ hk hx
  obtain rfl | rfl | rfl | rfl | rfl | rfl | rfl : x = 1 ∨ x = 2 ∨ x = 3 ∨ x = 4 ∨ x = 5 ∨ x = 6 ∨ x = 7 := by omega
  all_goals simp [rowM, h]
theorem inS_range {l : List Int} {x : Int} (h : inS l x = true) : 1 ≤ x ∧ x ≤ 7 := by
  unfold inS at h
  rw [Bool.and_eq_true, has_iff] at h
  obtain ⟨hs, hm⟩ := h
  obtain ⟨i, hi, rfl⟩ := List.getElem_of_mem hm
  have := of_decide_eq_true hs i hi
  rw [List.getD_eq_getElem?_getD, List.getElem?_eq_getElem hi] at this
  simp at this
  exact ⟨this.1, this.2.1⟩
theorem okTo_lt {l : List Int} {n : Nat} (h : okTo l n) : ∀ j, j < n → ∀ i, i < j → l.getD i 0 < l.getD j 0
  | 0, _, i, hi => by omega
  | j + 1, hj, i, hi => by
    have h1 := (h (j + 1) hj).2.2 (by omega)
    rw [show j + 1 - 1 = j from rfl] at h1
    rcases Nat.lt_or_ge i j with hlt | hge
    · exact Int.lt_trans (okTo_lt h j (by omega) i hlt) h1
    · obtain rfl : i = j := by omega
      exact h1
theorem isSet_nodup {l : List Int} (h : isSet l = true) : l.Nodup := by
  rw [List.nodup_iff_pairwise_ne, List.pairwise_iff_getElem]
  intro i j hi hj hij
  have := okTo_lt (of_decide_eq_true h) j hj i hij
  rw [List.getD_eq_getElem?_getD, List.getD_eq_getElem?_getD, List.getElem?_eq_getElem hi, List.getElem?_eq_getElem hj] at this
  simp at this
  omega
/-- how many of a set have voted -/
def voted (l v : List Int) : Nat := (l.filter (has v)).length
theorem voted_nil (l : List Int) : voted l [] = 0 := by
  unfold voted
  rw [List.filter_eq_nil_iff.2 (fun a _ => by rw [has_nil]; simp)]
  rfl
theorem voted_le (l v : List Int) : voted l v ≤ l.length := List.length_filter_le _ _
theorem filter_or_length : ∀ {l : List Int} (p : Int → Bool) (x : Int), l.Nodup → (l.filter (fun n => p n || x == n)).length = (l.filter p).length + (if has l x && !p x then 1 else 0)
  | [], p, x, _ => by simp [has_nil]
  | y :: l, p, x, h => by
    obtain ⟨hy, hl⟩ := List.nodup_cons.1 h
    have ih := filter_or_length p x hl
    by_cases e : x = y
    · subst e
      have hn : has l x = false := by
        rw [← Bool.not_eq_true, has_iff]; exact hy
      have hc : has (x :: l) x = true := has_iff.2 (List.mem_cons_self)
      rw [hn] at ih
      cases hp : p x
      · rw [List.filter_cons_of_pos (by simp), List.filter_cons_of_neg (by simp [hp]), hc]
        simp at ih ⊢
        omega
      · rw [List.filter_cons_of_pos (by simp), List.filter_cons_of_pos (by simp [hp]), hc]
        simp at ih ⊢
        omega
    · have hc : has (y :: l) x = has l x := by
        rw [Bool.eq_iff_iff, has_iff, has_iff, List.mem_cons]
        exact ⟨fun h => h.resolve_left e, .inr⟩
      have hb : (x == y) = false := beq_eq_false_iff_ne.2 e
      rw [hc]
      cases hp : p y
      · rw [List.filter_cons_of_neg (by simp [hp, e]), List.filter_cons_of_neg (by simp [hp])]
        exact ih
      · rw [List.filter_cons_of_pos (by simp [hp]), List.filter_cons_of_pos (by simp [hp])]
        simp only [List.length_cons, ih]
        omega
theorem voted_succ {l v : List Int} {k : Nat} {x : Int} (hs : isSet l = true) (hk : k < v.length) (hx : v.getD k 0 = x) : voted l (v.take (k + 1)) = voted l (v.take k) + (if stillIn l (v.take k) x then 1 else 0) := by
  unfold voted
  have : has (v.take (k + 1)) = fun n => has (v.take k) n || x == n := funext fun n => has_take_succ hk hx
  rw [this, filter_or_length _ _ (isSet_nodup hs)]
  unfold stillIn inS
  rw [hs, Bool.true_and]
/-- how many are left, in Majority's counting -/
def leftOf (l v : List Int) : Int := (l.length : Int) / 2 - (if isSet l then (voted l v : Int) else 0)
theorem leftOf_keep {l v : List Int} {k : Nat} {x : Int} (hk : k < v.length) (hx : v.getD k 0 = x) (hb : stillIn l (v.take k) x = false) : leftOf l (v.take (k + 1)) = leftOf l (v.take k) := by
  unfold leftOf
  cases hs : isSet l
  · rfl
  · rw [voted_succ hs hk hx, hb]; simp
theorem leftOf_down {l v : List Int} {k : Nat} {x : Int} (hk : k < v.length) (hx : v.getD k 0 = x) (hb : stillIn l (v.take k) x = true) : leftOf l (v.take (k + 1)) = leftOf l (v.take k) - 1 := by
  have hs : isSet l = true := by
    unfold stillIn inS at hb
    cases h : isSet l
    · rw [h] at hb; simp at hb
    · rfl
  unfold leftOf
  rw [voted_succ hs hk hx, hb, hs]
  simp
  omega
theorem leftOf_range (l v : List Int) : -(l.length : Int) ≤ leftOf l v ∧ leftOf l v ≤ l.length := by
  unfold leftOf
  have := voted_le l v
  split <;> omega
/-- whether more than half have voted -/
def maj (l v : List Int) : Bool := good l && decide (l.length < 2 * voted l v)
theorem maj_left (l v : List Int) : (good l && decide (leftOf l v < 0)) = maj l v := by
  unfold maj leftOf
  cases hg : good l
  · rfl
  · have hs : isSet l = true := by unfold good at hg; rw [Bool.and_eq_true] at hg; exact hg.1
    rw [hs]
    congr 1
    apply decide_eq_decide.2
    simp
    omega
set_option maxHeartbeats 800000 in
theorem maj_any (A B : Option Addr) (c c' : Nat) (l v : List Int) (w : World) {N M : Nat} (hr : Rd (ints .i64) 1 w A N l) (hr' : Rd (ints .i64) 1 w B M v) :
    Calls Try.prog 18 #[.slice A N c, .slice B M c'] w (fun e w' => e = .returned (.bool (maj l v)) ∧ Below w.heap.size w w') := by
  obtain rfl := hr.len.1
  obtain rfl := hr'.len.1
  have hm := hr.len.2
  have hm' := hr'.len.2
  have HR := Aside0.mk hr
  have HR' := Aside0.mk hr'
  clear hr hr'
  have HS := Aside0.mk (SH.start w)
  generalize hg : good l = gl
  have HG := Aside0.mk hg
  clear hg
  go_enter Try.func18, Try.ntmps18
  go_wp2_with (first | (go_at_call 29; (with_reducible refine (of_any _ _ l _ (HR.out.sh HS.out)).mono ?_); rintro e w2 ⟨rfl, hb⟩; rw [HG.out]; simp only [ofRow]; have HS1 := HS.out.quiet hb; clear HS hb; have HS := Aside0.mk HS1; clear HS1) | ((with_reducible refine gA rfl ?_); refine sh_alloc HS.out rfl rfl (zeT _ (by decide)) ?_; clear HS; intro g w1 hg HS1; (simp only [ofRow, rowM, zeF, segOf, List.toList_toArray, List.cons_append, List.nil_append] at HS1); have HS := Aside0.mk HS1; clear HS1; try simp only [Act.put, List.setIfInBounds_toArray, List.set_cons_zero, List.set_cons_succ]) | ((with_reducible refine gB rfl ?_); (first | refine sh_box HS.out rfl rfl (v := (.agg (List.toArray _))) rfl ?_ | refine sh_box HS.out rfl rfl (v := (.int _ _)) rfl ?_ | refine sh_box HS.out rfl rfl (v := (.slice _ _ _)) rfl ?_ | refine sh_box HS.out rfl rfl (v := (.bool _)) rfl ?_ | refine sh_box HS.out rfl rfl (v := (.pointer _)) rfl ?_ | refine sh_box HS.out rfl rfl (v := (.string _)) rfl ?_ | refine sh_box HS.out rfl rfl (v := (.map _)) rfl ?_ | refine sh_box HS.out rfl rfl (v := (.func _ _ _)) rfl ?_); clear HS; intro g w1 hg HS1; (simp only [ofRow, rowM, segOf, List.toList_toArray, List.cons_append, List.nil_append] at HS1); have HS := Aside0.mk HS1; clear HS1; try simp only [Act.put, List.setIfInBounds_toArray, List.set_cons_zero, List.set_cons_succ]) | ((with_reducible refine gL rfl ?_); refine sh_lit HS.out rfl rfl (by go_simp; exact ⟨⟨rfl, rfl⟩, rfl⟩) ?_; clear HS; intro g w1 hg HS1; (simp only [ofRow, rowM, segOf, List.toList_toArray, List.cons_append, List.nil_append] at HS1); have HS := Aside0.mk HS1; clear HS1; try simp only [Act.put, List.setIfInBounds_toArray, List.set_cons_zero, List.set_cons_succ]) | ((with_reducible refine gLd rfl ?_); (first | refine sh_load HS.out rfl rfl rfl 0 rfl ((agT _ (by decide)).trans rfl) rfl ?_); try simp only [Act.put, List.setIfInBounds_toArray, List.set_cons_zero, List.set_cons_succ]) | ((with_reducible refine gLd rfl ?_); (first | refine sh_loads HS.out rfl rfl rfl 0 rfl ((agT _ (by decide)).trans rfl) (szT _ (by decide)) (Nat.le_of_ble_eq_true rfl) ?_); (try simp only [szL, Act.put, List.setIfInBounds_toArray, List.set_cons_zero, List.set_cons_succ, List.getD_cons_zero, List.getD_cons_succ, List.drop_zero, List.drop_succ_cons, List.take_succ_cons, List.take_zero])) | ((with_reducible refine gSt rfl ?_); (first | refine sh_store HS.out rfl rfl rfl rfl 0 rfl (u := (.agg (List.toArray _))) rfl (szT _ (by decide)) rfl (Nat.le_of_ble_eq_true rfl) ?_ | refine sh_store HS.out rfl rfl rfl rfl 0 rfl (u := (.int _ _)) rfl (szT _ (by decide)) rfl (Nat.le_of_ble_eq_true rfl) ?_ | refine sh_store HS.out rfl rfl rfl rfl 0 rfl (u := (.slice _ _ _)) rfl (szT _ (by decide)) rfl (Nat.le_of_ble_eq_true rfl) ?_ | refine sh_store HS.out rfl rfl rfl rfl 0 rfl (u := (.bool _)) rfl (szT _ (by decide)) rfl (Nat.le_of_ble_eq_true rfl) ?_ | refine sh_store HS.out rfl rfl rfl rfl 0 rfl (u := (.pointer _)) rfl (szT _ (by decide)) rfl (Nat.le_of_ble_eq_true rfl) ?_ | refine sh_store HS.out rfl rfl rfl rfl 0 rfl (u := (.string _)) rfl (szT _ (by decide)) rfl (Nat.le_of_ble_eq_true rfl) ?_ | refine sh_store HS.out rfl rfl rfl rfl 0 rfl (u := (.map _)) rfl (szT _ (by decide)) rfl (Nat.le_of_ble_eq_true rfl) ?_ | refine sh_store HS.out rfl rfl rfl rfl 0 rfl (u := (.func _ _ _)) rfl (szT _ (by decide)) rfl (Nat.le_of_ble_eq_true rfl) ?_); clear HS; intro w1 HS1; (simp only [ofRow, rowM, segOf, List.toList_toArray, List.set_cons_zero, List.set_cons_succ, putSeg] at HS1); have HS := Aside0.mk HS1; clear HS1; try simp only [Act.put, List.setIfInBounds_toArray, List.set_cons_zero, List.set_cons_succ]))
  go_loopw [7, 9, 20] (fun v7 v9 v20 wr => ∃ (k : Nat) (q : Int), k ≤ v.length ∧ v20 = .int .i64 k ∧ v7 = .int .i64 q ∧ Aside0 (q = leftOf l (v.take k)) ∧ Aside0 (SH w wr [blk g (rowM l (v.take k)) 38])) (fun _ _ v20 _ => v.length - (intOf v20).toNat)
  case atStart =>
    refine ⟨0, _, Nat.zero_le _, rfl, rfl, ⟨?_⟩, ⟨?_⟩⟩
    · rw [List.take_zero]
      unfold leftOf
      rw [voted_nil]
      split <;> simp
    · rw [List.take_zero, rowM_nil]; exact HS.out
  case round =>
    clear HS
    obtain ⟨k, q, hk, rfl, rfl, HQ, HS⟩ := hrel
    have hq := leftOf_range l (v.take k)
    rw [← HQ.out] at hq
    obtain ⟨hq1, hq2⟩ := hq
    by_cases hlt : k < v.length
    · obtain ⟨ad, rfl⟩ := HR'.out.addr (by omega)
      have HRR := Aside0.mk (HR'.out.sh HS.out)
      generalize hx : v.getD k 0 = x
      have HX := Aside0.mk hx
      clear hx
      have hout : x < 1 ∨ 7 < x → stillIn l (v.take k) x = false := fun h => by
        unfold stillIn
        cases hi : inS l x
        · rfl
        · have := inS_range hi; omega
      by_cases h1 : x < 1
      · have hb := hout (.inl h1)
        replace hb := Aside0.mk hb
        clear hout
        go_wp2_with (first | ((with_reducible refine gLd rfl ?_); refine rd_load1 (enc := Value.int .i64) HRR.out rfl rfl (i := k) rfl hlt 0 ((agT _ (by decide)).trans rfl) ?_; intro x hx; obtain rfl := HX.out.symm.trans hx; (try simp only [Act.put, List.setIfInBounds_toArray, List.set_cons_zero, List.set_cons_succ])) | ((with_reducible refine gA rfl ?_); refine sh_alloc HS.out rfl rfl (zeT _ (by decide)) ?_; clear HS; intro g w1 hg HS1; (simp only [ofRow, rowM, zeF, segOf, List.toList_toArray, List.cons_append, List.nil_append] at HS1); have HS := Aside0.mk HS1; clear HS1; try simp only [Act.put, List.setIfInBounds_toArray, List.set_cons_zero, List.set_cons_succ]) | ((with_reducible refine gB rfl ?_); (first | refine sh_box HS.out rfl rfl (v := (.agg (List.toArray _))) rfl ?_ | refine sh_box HS.out rfl rfl (v := (.int _ _)) rfl ?_ | refine sh_box HS.out rfl rfl (v := (.slice _ _ _)) rfl ?_ | refine sh_box HS.out rfl rfl (v := (.bool _)) rfl ?_ | refine sh_box HS.out rfl rfl (v := (.pointer _)) rfl ?_ | refine sh_box HS.out rfl rfl (v := (.string _)) rfl ?_ | refine sh_box HS.out rfl rfl (v := (.map _)) rfl ?_ | refine sh_box HS.out rfl rfl (v := (.func _ _ _)) rfl ?_); clear HS; intro g w1 hg HS1; (simp only [ofRow, rowM, segOf, List.toList_toArray, List.cons_append, List.nil_append] at HS1); have HS := Aside0.mk HS1; clear HS1; try simp only [Act.put, List.setIfInBounds_toArray, List.set_cons_zero, List.set_cons_succ]) | ((with_reducible refine gL rfl ?_); refine sh_lit HS.out rfl rfl (by go_simp; exact ⟨⟨rfl, rfl⟩, rfl⟩) ?_; clear HS; intro g w1 hg HS1; (simp only [ofRow, rowM, segOf, List.toList_toArray, List.cons_append, List.nil_append] at HS1); have HS := Aside0.mk HS1; clear HS1; try simp only [Act.put, List.setIfInBounds_toArray, List.set_cons_zero, List.set_cons_succ]) | ((with_reducible refine gLd rfl ?_); (first | refine sh_load HS.out rfl rfl rfl 0 rfl ((agT _ (by decide)).trans rfl) rfl ?_); try simp only [Act.put, List.setIfInBounds_toArray, List.set_cons_zero, List.set_cons_succ]) | ((with_reducible refine gLd rfl ?_); (first | refine sh_loads HS.out rfl rfl rfl 0 rfl ((agT _ (by decide)).trans rfl) (szT _ (by decide)) (Nat.le_of_ble_eq_true rfl) ?_); (try simp only [szL, Act.put, List.setIfInBounds_toArray, List.set_cons_zero, List.set_cons_succ, List.getD_cons_zero, List.getD_cons_succ, List.drop_zero, List.drop_succ_cons, List.take_succ_cons, List.take_zero])) | ((with_reducible refine gSt rfl ?_); (first | refine sh_store HS.out rfl rfl rfl rfl 0 rfl (u := (.agg (List.toArray _))) rfl (szT _ (by decide)) rfl (Nat.le_of_ble_eq_true rfl) ?_ | refine sh_store HS.out rfl rfl rfl rfl 0 rfl (u := (.int _ _)) rfl (szT _ (by decide)) rfl (Nat.le_of_ble_eq_true rfl) ?_ | refine sh_store HS.out rfl rfl rfl rfl 0 rfl (u := (.slice _ _ _)) rfl (szT _ (by decide)) rfl (Nat.le_of_ble_eq_true rfl) ?_ | refine sh_store HS.out rfl rfl rfl rfl 0 rfl (u := (.bool _)) rfl (szT _ (by decide)) rfl (Nat.le_of_ble_eq_true rfl) ?_ | refine sh_store HS.out rfl rfl rfl rfl 0 rfl (u := (.pointer _)) rfl (szT _ (by decide)) rfl (Nat.le_of_ble_eq_true rfl) ?_ | refine sh_store HS.out rfl rfl rfl rfl 0 rfl (u := (.string _)) rfl (szT _ (by decide)) rfl (Nat.le_of_ble_eq_true rfl) ?_ | refine sh_store HS.out rfl rfl rfl rfl 0 rfl (u := (.map _)) rfl (szT _ (by decide)) rfl (Nat.le_of_ble_eq_true rfl) ?_ | refine sh_store HS.out rfl rfl rfl rfl 0 rfl (u := (.func _ _ _)) rfl (szT _ (by decide)) rfl (Nat.le_of_ble_eq_true rfl) ?_); clear HS; intro w1 HS1; (simp only [ofRow, rowM, segOf, List.toList_toArray, List.set_cons_zero, List.set_cons_succ, putSeg] at HS1); have HS := Aside0.mk HS1; clear HS1; try simp only [Act.put, List.setIfInBounds_toArray, List.set_cons_zero, List.set_cons_succ]))
        go_roundw
        case rel => exact ⟨k + 1, q, by omega, by go_num, rfl, ⟨by rw [HQ.out, leftOf_keep hlt HX.out hb.out]⟩, ⟨by rw [rowM_keep hlt HX.out hb.out]; exact HS.out⟩⟩
        case measure => simp [intOf]; omega
      · by_cases h2 : 7 < x
        · have hb := hout (.inr h2)
          replace hb := Aside0.mk hb
          clear hout
          go_wp2_with (first | ((with_reducible refine gLd rfl ?_); refine rd_load1 (enc := Value.int .i64) HRR.out rfl rfl (i := k) rfl hlt 0 ((agT _ (by decide)).trans rfl) ?_; intro x hx; obtain rfl := HX.out.symm.trans hx; (try simp only [Act.put, List.setIfInBounds_toArray, List.set_cons_zero, List.set_cons_succ])) | ((with_reducible refine gA rfl ?_); refine sh_alloc HS.out rfl rfl (zeT _ (by decide)) ?_; clear HS; intro g w1 hg HS1; (simp only [ofRow, rowM, zeF, segOf, List.toList_toArray, List.cons_append, List.nil_append] at HS1); have HS := Aside0.mk HS1; clear HS1; try simp only [Act.put, List.setIfInBounds_toArray, List.set_cons_zero, List.set_cons_succ]) | ((with_reducible refine gB rfl ?_); (first | refine sh_box HS.out rfl rfl (v := (.agg (List.toArray _))) rfl ?_ | refine sh_box HS.out rfl rfl (v := (.int _ _)) rfl ?_ | refine sh_box HS.out rfl rfl (v := (.slice _ _ _)) rfl ?_ | refine sh_box HS.out rfl rfl (v := (.bool _)) rfl ?_ | refine sh_box HS.out rfl rfl (v := (.pointer _)) rfl ?_ | refine sh_box HS.out rfl rfl (v := (.string _)) rfl ?_ | refine sh_box HS.out rfl rfl (v := (.map _)) rfl ?_ | refine sh_box HS.out rfl rfl (v := (.func _ _ _)) rfl ?_); clear HS; intro g w1 hg HS1; (simp only [ofRow, rowM, segOf, List.toList_toArray, List.cons_append, List.nil_append] at HS1); have HS := Aside0.mk HS1; clear HS1; try simp only [Act.put, List.setIfInBounds_toArray, List.set_cons_zero, List.set_cons_succ]) | ((with_reducible refine gL rfl ?_); refine sh_lit HS.out rfl rfl (by go_simp; exact ⟨⟨rfl, rfl⟩, rfl⟩) ?_; clear HS; intro g w1 hg HS1; (simp only [ofRow, rowM, segOf, List.toList_toArray, List.cons_append, List.nil_append] at HS1); have HS := Aside0.mk HS1; clear HS1; try simp only [Act.put, List.setIfInBounds_toArray, List.set_cons_zero, List.set_cons_succ]) | ((with_reducible refine gLd rfl ?_); (first | refine sh_load HS.out rfl rfl rfl 0 rfl ((agT _ (by decide)).trans rfl) rfl ?_); try simp only [Act.put, List.setIfInBounds_toArray, List.set_cons_zero, List.set_cons_succ]) | ((with_reducible refine gLd rfl ?_); (first | refine sh_loads HS.out rfl rfl rfl 0 rfl ((agT _ (by decide)).trans rfl) (szT _ (by decide)) (Nat.le_of_ble_eq_true rfl) ?_); (try simp only [szL, Act.put, List.setIfInBounds_toArray, List.set_cons_zero, List.set_cons_succ, List.getD_cons_zero, List.getD_cons_succ, List.drop_zero, List.drop_succ_cons, List.take_succ_cons, List.take_zero])) | ((with_reducible refine gSt rfl ?_); (first | refine sh_store HS.out rfl rfl rfl rfl 0 rfl (u := (.agg (List.toArray _))) rfl (szT _ (by decide)) rfl (Nat.le_of_ble_eq_true rfl) ?_ | refine sh_store HS.out rfl rfl rfl rfl 0 rfl (u := (.int _ _)) rfl (szT _ (by decide)) rfl (Nat.le_of_ble_eq_true rfl) ?_ | refine sh_store HS.out rfl rfl rfl rfl 0 rfl (u := (.slice _ _ _)) rfl (szT _ (by decide)) rfl (Nat.le_of_ble_eq_true rfl) ?_ | refine sh_store HS.out rfl rfl rfl rfl 0 rfl (u := (.bool _)) rfl (szT _ (by decide)) rfl (Nat.le_of_ble_eq_true rfl) ?_ | refine sh_store HS.out rfl rfl rfl rfl 0 rfl (u := (.pointer _)) rfl (szT _ (by decide)) rfl (Nat.le_of_ble_eq_true rfl) ?_ | refine sh_store HS.out rfl rfl rfl rfl 0 rfl (u := (.string _)) rfl (szT _ (by decide)) rfl (Nat.le_of_ble_eq_true rfl) ?_ | refine sh_store HS.out rfl rfl rfl rfl 0 rfl (u := (.map _)) rfl (szT _ (by decide)) rfl (Nat.le_of_ble_eq_true rfl) ?_ | refine sh_store HS.out rfl rfl rfl rfl 0 rfl (u := (.func _ _ _)) rfl (szT _ (by decide)) rfl (Nat.le_of_ble_eq_true rfl) ?_); clear HS; intro w1 HS1; (simp only [ofRow, rowM, segOf, List.toList_toArray, List.set_cons_zero, List.set_cons_succ, putSeg] at HS1); have HS := Aside0.mk HS1; clear HS1; try simp only [Act.put, List.setIfInBounds_toArray, List.set_cons_zero, List.set_cons_succ]))
          go_roundw
          case rel => exact ⟨k + 1, q, by omega, by go_num, rfl, ⟨by rw [HQ.out, leftOf_keep hlt HX.out hb.out]⟩, ⟨by rw [rowM_keep hlt HX.out hb.out]; exact HS.out⟩⟩
          case measure => simp [intOf]; omega
        · clear hout
          cases hb : stillIn l (v.take k) x
          · have HV := Aside0.mk (rowM_get (l := l) (v := v.take k) (x := x) (by omega) (by omega) hb)
            replace hb := Aside0.mk hb
            go_wp2_with (first | ((with_reducible refine gLd rfl ?_); refine rd_load1 (enc := Value.int .i64) HRR.out rfl rfl (i := k) rfl hlt 0 ((agT _ (by decide)).trans rfl) ?_; intro x hx; obtain rfl := HX.out.symm.trans hx; (try simp only [Act.put, List.setIfInBounds_toArray, List.set_cons_zero, List.set_cons_succ])) | ((with_reducible refine gLd rfl ?_); refine sh_loadX HS.out rfl rfl (i := x.toNat) rfl 0 rfl ((agT _ (by decide)).trans rfl) HV.out ?_; try simp only [Act.put, List.setIfInBounds_toArray, List.set_cons_zero, List.set_cons_succ]) | ((with_reducible refine gA rfl ?_); refine sh_alloc HS.out rfl rfl (zeT _ (by decide)) ?_; clear HS; intro g w1 hg HS1; (simp only [ofRow, rowM, zeF, segOf, List.toList_toArray, List.cons_append, List.nil_append] at HS1); have HS := Aside0.mk HS1; clear HS1; try simp only [Act.put, List.setIfInBounds_toArray, List.set_cons_zero, List.set_cons_succ]) | ((with_reducible refine gB rfl ?_); (first | refine sh_box HS.out rfl rfl (v := (.agg (List.toArray _))) rfl ?_ | refine sh_box HS.out rfl rfl (v := (.int _ _)) rfl ?_ | refine sh_box HS.out rfl rfl (v := (.slice _ _ _)) rfl ?_ | refine sh_box HS.out rfl rfl (v := (.bool _)) rfl ?_ | refine sh_box HS.out rfl rfl (v := (.pointer _)) rfl ?_ | refine sh_box HS.out rfl rfl (v := (.string _)) rfl ?_ | refine sh_box HS.out rfl rfl (v := (.map _)) rfl ?_ | refine sh_box HS.out rfl rfl (v := (.func _ _ _)) rfl ?_); clear HS; intro g w1 hg HS1; (simp only [ofRow, rowM, segOf, List.toList_toArray, List.cons_append, List.nil_append] at HS1); have HS := Aside0.mk HS1; clear HS1; try simp only [Act.put, List.setIfInBounds_toArray, List.set_cons_zero, List.set_cons_succ]) | ((with_reducible refine gL rfl ?_); refine sh_lit HS.out rfl rfl (by go_simp; exact ⟨⟨rfl, rfl⟩, rfl⟩) ?_; clear HS; intro g w1 hg HS1; (simp only [ofRow, rowM, segOf, List.toList_toArray, List.cons_append, List.nil_append] at HS1); have HS := Aside0.mk HS1; clear HS1; try simp only [Act.put, List.setIfInBounds_toArray, List.set_cons_zero, List.set_cons_succ]) | ((with_reducible refine gLd rfl ?_); (first | refine sh_load HS.out rfl rfl rfl 0 rfl ((agT _ (by decide)).trans rfl) rfl ?_); try simp only [Act.put, List.setIfInBounds_toArray, List.set_cons_zero, List.set_cons_succ]) | ((with_reducible refine gLd rfl ?_); (first | refine sh_loads HS.out rfl rfl rfl 0 rfl ((agT _ (by decide)).trans rfl) (szT _ (by decide)) (Nat.le_of_ble_eq_true rfl) ?_); (try simp only [szL, Act.put, List.setIfInBounds_toArray, List.set_cons_zero, List.set_cons_succ, List.getD_cons_zero, List.getD_cons_succ, List.drop_zero, List.drop_succ_cons, List.take_succ_cons, List.take_zero])) | ((with_reducible refine gSt rfl ?_); (first | refine sh_store HS.out rfl rfl rfl rfl 0 rfl (u := (.agg (List.toArray _))) rfl (szT _ (by decide)) rfl (Nat.le_of_ble_eq_true rfl) ?_ | refine sh_store HS.out rfl rfl rfl rfl 0 rfl (u := (.int _ _)) rfl (szT _ (by decide)) rfl (Nat.le_of_ble_eq_true rfl) ?_ | refine sh_store HS.out rfl rfl rfl rfl 0 rfl (u := (.slice _ _ _)) rfl (szT _ (by decide)) rfl (Nat.le_of_ble_eq_true rfl) ?_ | refine sh_store HS.out rfl rfl rfl rfl 0 rfl (u := (.bool _)) rfl (szT _ (by decide)) rfl (Nat.le_of_ble_eq_true rfl) ?_ | refine sh_store HS.out rfl rfl rfl rfl 0 rfl (u := (.pointer _)) rfl (szT _ (by decide)) rfl (Nat.le_of_ble_eq_true rfl) ?_ | refine sh_store HS.out rfl rfl rfl rfl 0 rfl (u := (.string _)) rfl (szT _ (by decide)) rfl (Nat.le_of_ble_eq_true rfl) ?_ | refine sh_store HS.out rfl rfl rfl rfl 0 rfl (u := (.map _)) rfl (szT _ (by decide)) rfl (Nat.le_of_ble_eq_true rfl) ?_ | refine sh_store HS.out rfl rfl rfl rfl 0 rfl (u := (.func _ _ _)) rfl (szT _ (by decide)) rfl (Nat.le_of_ble_eq_true rfl) ?_); clear HS; intro w1 HS1; (simp only [ofRow, rowM, segOf, List.toList_toArray, List.set_cons_zero, List.set_cons_succ, putSeg] at HS1); have HS := Aside0.mk HS1; clear HS1; try simp only [Act.put, List.setIfInBounds_toArray, List.set_cons_zero, List.set_cons_succ]))
            go_roundw
            case rel => exact ⟨k + 1, q, by omega, by go_num, rfl, ⟨by rw [HQ.out, leftOf_keep hlt HX.out hb.out]⟩, ⟨by rw [rowM_keep hlt HX.out hb.out]; exact HS.out⟩⟩
            case measure => simp [intOf]; omega
          · have HV := Aside0.mk (rowM_get (l := l) (v := v.take k) (x := x) (by omega) (by omega) hb)
            replace hb := Aside0.mk hb
            go_wp2_with (first | ((with_reducible refine gLd rfl ?_); refine rd_load1 (enc := Value.int .i64) HRR.out rfl rfl (i := k) rfl hlt 0 ((agT _ (by decide)).trans rfl) ?_; intro x hx; obtain rfl := HX.out.symm.trans hx; (try simp only [Act.put, List.setIfInBounds_toArray, List.set_cons_zero, List.set_cons_succ])) | ((with_reducible refine gLd rfl ?_); refine sh_loadX HS.out rfl rfl (i := x.toNat) rfl 0 rfl ((agT _ (by decide)).trans rfl) HV.out ?_; try simp only [Act.put, List.setIfInBounds_toArray, List.set_cons_zero, List.set_cons_succ]) | ((with_reducible refine gSt rfl ?_); refine sh_storeX HS.out rfl rfl rfl (i := x.toNat) rfl 0 rfl (u := (.bool _)) rfl rfl (szT _ (by decide)) rfl (by simp [rowM]; omega) ?_; clear HS; intro w1 HS1; (simp only [List.set_cons_zero, List.set_cons_succ] at HS1); have HS := Aside0.mk HS1; clear HS1; try simp only [Act.put, List.setIfInBounds_toArray, List.set_cons_zero, List.set_cons_succ]) | ((with_reducible refine gA rfl ?_); refine sh_alloc HS.out rfl rfl (zeT _ (by decide)) ?_; clear HS; intro g w1 hg HS1; (simp only [ofRow, rowM, zeF, segOf, List.toList_toArray, List.cons_append, List.nil_append] at HS1); have HS := Aside0.mk HS1; clear HS1; try simp only [Act.put, List.setIfInBounds_toArray, List.set_cons_zero, List.set_cons_succ]) | ((with_reducible refine gB rfl ?_); (first | refine sh_box HS.out rfl rfl (v := (.agg (List.toArray _))) rfl ?_ | refine sh_box HS.out rfl rfl (v := (.int _ _)) rfl ?_ | refine sh_box HS.out rfl rfl (v := (.slice _ _ _)) rfl ?_ | refine sh_box HS.out rfl rfl (v := (.bool _)) rfl ?_ | refine sh_box HS.out rfl rfl (v := (.pointer _)) rfl ?_ | refine sh_box HS.out rfl rfl (v := (.string _)) rfl ?_ | refine sh_box HS.out rfl rfl (v := (.map _)) rfl ?_ | refine sh_box HS.out rfl rfl (v := (.func _ _ _)) rfl ?_); clear HS; intro g w1 hg HS1; (simp only [ofRow, rowM, segOf, List.toList_toArray, List.cons_append, List.nil_append] at HS1); have HS := Aside0.mk HS1; clear HS1; try simp only [Act.put, List.setIfInBounds_toArray, List.set_cons_zero, List.set_cons_succ]) | ((with_reducible refine gL rfl ?_); refine sh_lit HS.out rfl rfl (by go_simp; exact ⟨⟨rfl, rfl⟩, rfl⟩) ?_; clear HS; intro g w1 hg HS1; (simp only [ofRow, rowM, segOf, List.toList_toArray, List.cons_append, List.nil_append] at HS1); have HS := Aside0.mk HS1; clear HS1; try simp only [Act.put, List.setIfInBounds_toArray, List.set_cons_zero, List.set_cons_succ]) | ((with_reducible refine gLd rfl ?_); (first | refine sh_load HS.out rfl rfl rfl 0 rfl ((agT _ (by decide)).trans rfl) rfl ?_); try simp only [Act.put, List.setIfInBounds_toArray, List.set_cons_zero, List.set_cons_succ]) | ((with_reducible refine gLd rfl ?_); (first | refine sh_loads HS.out rfl rfl rfl 0 rfl ((agT _ (by decide)).trans rfl) (szT _ (by decide)) (Nat.le_of_ble_eq_true rfl) ?_); (try simp only [szL, Act.put, List.setIfInBounds_toArray, List.set_cons_zero, List.set_cons_succ, List.getD_cons_zero, List.getD_cons_succ, List.drop_zero, List.drop_succ_cons, List.take_succ_cons, List.take_zero])) | ((with_reducible refine gSt rfl ?_); (first | refine sh_store HS.out rfl rfl rfl rfl 0 rfl (u := (.agg (List.toArray _))) rfl (szT _ (by decide)) rfl (Nat.le_of_ble_eq_true rfl) ?_ | refine sh_store HS.out rfl rfl rfl rfl 0 rfl (u := (.int _ _)) rfl (szT _ (by decide)) rfl (Nat.le_of_ble_eq_true rfl) ?_ | refine sh_store HS.out rfl rfl rfl rfl 0 rfl (u := (.slice _ _ _)) rfl (szT _ (by decide)) rfl (Nat.le_of_ble_eq_true rfl) ?_ | refine sh_store HS.out rfl rfl rfl rfl 0 rfl (u := (.bool _)) rfl (szT _ (by decide)) rfl (Nat.le_of_ble_eq_true rfl) ?_ | refine sh_store HS.out rfl rfl rfl rfl 0 rfl (u := (.pointer _)) rfl (szT _ (by decide)) rfl (Nat.le_of_ble_eq_true rfl) ?_ | refine sh_store HS.out rfl rfl rfl rfl 0 rfl (u := (.string _)) rfl (szT _ (by decide)) rfl (Nat.le_of_ble_eq_true rfl) ?_ | refine sh_store HS.out rfl rfl rfl rfl 0 rfl (u := (.map _)) rfl (szT _ (by decide)) rfl (Nat.le_of_ble_eq_true rfl) ?_ | refine sh_store HS.out rfl rfl rfl rfl 0 rfl (u := (.func _ _ _)) rfl (szT _ (by decide)) rfl (Nat.le_of_ble_eq_true rfl) ?_); clear HS; intro w1 HS1; (simp only [ofRow, rowM, segOf, List.toList_toArray, List.set_cons_zero, List.set_cons_succ, putSeg] at HS1); have HS := Aside0.mk HS1; clear HS1; try simp only [Act.put, List.setIfInBounds_toArray, List.set_cons_zero, List.set_cons_succ]))
            go_roundw
            case rel => exact ⟨k + 1, q - 1, by omega, by go_num, by first | rfl | go_num, ⟨by rw [HQ.out, leftOf_down hlt HX.out hb.out]⟩, ⟨by rw [rowM_set hlt HX.out (by omega) (by omega)]; exact HS.out⟩⟩
            case measure => simp [intOf]; omega
    · obtain rfl : k = v.length := by omega
      have hmj := maj_left l v
      have hqq := HQ.out
      rw [List.take_length] at hqq
      rw [← hqq, HG.out] at hmj
      replace hmj := Aside0.mk hmj
      clear hqq
      cases gl
      · go_wp2
        go_ret
        exact ⟨by rw [← hmj.out]; rfl, HS.out.below⟩
      · by_cases hq0 : q < 0
        · go_wp2
          go_ret
          exact ⟨by rw [← hmj.out]; simp [hq0], HS.out.below⟩
        · go_wp2
          go_ret
          exact ⟨by rw [← hmj.out]; simp; omega, HS.out.below⟩
end Go.Proofs.Ytkfopjonhhldnaa.Nod
