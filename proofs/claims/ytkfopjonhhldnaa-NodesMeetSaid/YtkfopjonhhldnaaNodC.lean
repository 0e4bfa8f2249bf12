import Derived.Test.YtkfopjonhhldnaaNodB
namespace Go.Proofs.Ytkfopjonhhldnaa.Nod
open Go.RowKit Go.Proofs.YtkfopjonhhldnaaW.PrintWords Go.Proofs.Ytkfopjonhhldnaa.Sl
set_option linter.unusedVariables false
set_option linter.unusedSimpArgs false
/-! Majorities meet: the plain law. -/
theorem filter_disj {α : Type} (f g h : α → Bool) (h1 : ∀ x, f x = true → g x = false) (h2 : ∀ x, f x = true → h x = true) (h3 : ∀ x, g x = true → h x = true) : ∀ l : List α, (l.filter f).length + (l.filter g).length ≤ (l.filter h).length
  | [] => by simp
  | x :: l => by
    have ih := filter_disj f g h h1 h2 h3 l
    have e1 := h1 x
    have e2 := h2 x
    have e3 := h3 x
    rw [List.filter_cons, List.filter_cons, List.filter_cons]
    cases hf : f x <;> cases hg : g x <;> cases hh : h x <;> simp_all <;> omega
theorem voted_univ {l v : List Int} (h : isSet l = true) : voted l v = (univ.filter (fun x => has v x && inS l x)).length := by
  unfold voted
  conv => lhs; rw [isSet_filter h, List.filter_filter]
/-- the votes that are of a set -/
def inner (l v : List Int) : List Int := v.filter (has l)
def common (a b : List Int) : Bool := a.any (has b)
theorem meet {a b v o : List Int} (hs : steps a b = true ∨ a = b) (h1 : maj a v = true) (h2 : maj b o = true) : common (inner a v) (inner b o) = true := by
  unfold maj at h1 h2
  rw [Bool.and_eq_true] at h1 h2
  obtain ⟨g1, m1⟩ := h1
  obtain ⟨g2, m2⟩ := h2
  have s1 := good_isSet g1
  have s2 := good_isSet g2
  have m1 := of_decide_eq_true m1
  have m2 := of_decide_eq_true m2
  rw [voted_univ s1] at m1
  rw [voted_univ s2] at m2
  cases hc : common (inner a v) (inner b o) with
  | true => rfl
  | false =>
    exfalso
    have hd : ∀ x, (has v x && inS a x) = true → (has o x && inS b x) = false := by
      intro x hx
      rw [Bool.and_eq_true, inS_set s1] at hx
      rw [Bool.eq_false_iff]
      intro hy
      rw [Bool.and_eq_true, inS_set s2] at hy
      rw [common, List.any_eq_false] at hc
      exact hc x (by rw [inner, List.mem_filter]; exact ⟨has_iff.1 hx.1, hx.2⟩) (has_iff.2 (by rw [inner, List.mem_filter]; exact ⟨has_iff.1 hy.1, hy.2⟩))
    have key : ∀ c : List Int, isSet c = true → (∀ x, has a x = true → has c x = true) → (∀ x, has b x = true → has c x = true) → (univ.filter (fun x => has v x && inS a x)).length + (univ.filter (fun x => has o x && inS b x)).length ≤ c.length := by
      intro c hc h1 h2
      have := filter_disj (fun x => has v x && inS a x) (fun x => has o x && inS b x) (inS c) hd (fun x hx => by
        rw [Bool.and_eq_true, inS_set s1] at hx
        rw [inS_set hc]; exact h1 x hx.2) (fun x hx => by
        rw [Bool.and_eq_true, inS_set s2] at hx
        rw [inS_set hc]; exact h2 x hx.2) univ
      rwa [← isSet_filter hc] at this
    have hall : ∀ {l m : List Int}, m.all (has l) = true → ∀ x, has m x = true → has l x = true := by
      intro l m h x hx
      rw [List.all_eq_true] at h
      exact h x (has_iff.1 hx)
    rcases hs with hs | rfl
    · simp only [steps_more, Bool.and_eq_true, Bool.or_eq_true, more, decide_eq_true_eq] at hs
      rcases hs.2 with ⟨e1, e2⟩ | ⟨e1, e2⟩
      · have := key a s1 (fun _ h => h) (hall e2)
        omega
      · have := key b s2 (hall e2) (fun _ h => h)
        omega
    · have := key a s1 (fun _ h => h) (fun _ h => h)
      omega
/-! The walks. -/
def InnerPost (l m : List Int) (w : World) (e : Ending) (w' : World) : Prop := ∃ (v : Value) (S : Nat → Prop), e = .returned v ∧ SH w w' [row (flk (ints .i64) 1 (ints_len .i64) (ints_one .i64)) 3 v (inner l m) S]
theorem inner_succ {l m : List Int} {k : Nat} {x : Int} (hk : k < m.length) (hx : m.getD k 0 = x) {b : Bool} (hb : has l x = b) : inner l (m.take (k + 1)) = inner l (m.take k) ++ (if b then [x] else []) := by
  subst hb
  rw [take_succ_getD 0 hk, hx, inner, inner, List.filter_append]
  cases h : has l x <;> simp [h]
theorem inner_le (l m : List Int) (k : Nat) : (inner l (m.take k)).length ≤ m.length := by
  refine Nat.le_trans (List.length_filter_le _ _) ?_
  rw [List.length_take]; omega
set_option maxHeartbeats 400000 in
theorem common_any (A B : Option Addr) (c c' : Nat) (l m : List Int) (w : World) {N M : Nat} (hr : Rd (ints .i64) 1 w A N l) (hr' : Rd (ints .i64) 1 w B M m) :
    Calls Try.prog 24 #[.slice A N c, .slice B M c'] w (fun e w' => e = .returned (.bool (common l m)) ∧ w = w') := by
  obtain rfl := hr.len.1
  have hm := hr.len.2
  have HR := Aside0.mk hr
  have HR' := Aside0.mk hr'
  clear hr hr'
  go_enter Try.func24, Try.ntmps24
  go_wp2
  go_loop [6, 9] (fun v6 v9 => ∃ k : Nat, k ≤ l.length ∧ v9 = .int .i64 k ∧ Aside0 (common (l.take k) m = false)) (fun _ v9 => l.length - (intOf v9).toNat)
  case atStart => exact ⟨0, Nat.zero_le _, rfl, ⟨rfl⟩⟩
  case round =>
    obtain ⟨k, hk, rfl, HO⟩ := hrel
    by_cases hlt : k < l.length
    · obtain ⟨ad, rfl⟩ := HR.out.addr (by omega)
      generalize hx : l.getD k 0 = x
      have HX := Aside0.mk hx
      clear hx
      generalize hb : has m x = b
      have HB := Aside0.mk hb
      clear hb
      cases b
      · go_wp2_with (first | ((with_reducible refine gLd rfl ?_); refine rd_load1 (enc := Value.int .i64) HR.out rfl rfl (i := k) rfl hlt 0 ((agT _ (by decide)).trans rfl) ?_; intro x hx; obtain rfl := HX.out.symm.trans hx; (try simp only [Act.put, List.setIfInBounds_toArray, List.set_cons_zero, List.set_cons_succ])) | (go_at_call 13; (with_reducible refine (has_any _ _ m x _ HR'.out).mono ?_); rintro e w' ⟨rfl, rfl⟩; rw [HB.out]))
        go_round
        case rel => exact ⟨k + 1, by omega, by go_num, ⟨by rw [common, take_succ_getD 0 hlt, HX.out, List.any_append, show (l.take k).any (has m) = false from HO.out]; simp [HB.out]⟩⟩
        case measure => simp [intOf]; omega
      · go_wp2_with (first | ((with_reducible refine gLd rfl ?_); refine rd_load1 (enc := Value.int .i64) HR.out rfl rfl (i := k) rfl hlt 0 ((agT _ (by decide)).trans rfl) ?_; intro x hx; obtain rfl := HX.out.symm.trans hx; (try simp only [Act.put, List.setIfInBounds_toArray, List.set_cons_zero, List.set_cons_succ])) | (go_at_call 13; (with_reducible refine (has_any _ _ m x _ HR'.out).mono ?_); rintro e w' ⟨rfl, rfl⟩; rw [HB.out]))
        go_ret
        have : common l m = true := List.any_eq_true.2 ⟨x, has_iff.1 (has_at hlt HX.out), HB.out⟩
        exact ⟨by rw [this]; rfl, rfl⟩
    · obtain rfl : k = l.length := by omega
      go_wp2
      go_ret
      have := HO.out
      rw [List.take_length] at this
      exact ⟨by rw [this]; rfl, rfl⟩
set_option maxHeartbeats 400000 in
theorem inner_any (A B : Option Addr) (c c' : Nat) (l m : List Int) (w : World) {N M : Nat} (hr : Rd (ints .i64) 1 w A N l) (hr' : Rd (ints .i64) 1 w B M m) (hlim : M * 8 ≤ 140737488351232) :
    Calls Try.prog 25 #[.slice A N c, .slice B M c'] w (InnerPost l m w) := by
  obtain rfl := hr'.len.1
  have hm := hr'.len.2
  have HR := Aside0.mk hr
  have HR' := Aside0.mk hr'
  clear hr hr'
  have HS := Aside0.mk ((SH.start w).nil (flk (ints .i64) 1 (ints_len .i64) (ints_one .i64)) 3)
  go_enter Try.func25, Try.ntmps25
  go_wp2
  go_loopw [5, 7, 10] (fun v5 v7 v10 wr => ∃ (k : Nat) (S : Nat → Prop), k ≤ m.length ∧ v10 = .int .i64 k ∧ Aside0 (SH w wr [row (flk (ints .i64) 1 (ints_len .i64) (ints_one .i64)) 3 v5 (inner l (m.take k)) S])) (fun _ _ v10 _ => m.length - (intOf v10).toNat)
  case atStart => exact ⟨0, _, Nat.zero_le _, rfl, HS⟩
  case round =>
    clear HS
    obtain ⟨k, S, hk, rfl, HS⟩ := hrel
    by_cases hlt : k < m.length
    · obtain ⟨ad, rfl⟩ := HR'.out.addr (by omega)
      have HRR := Aside0.mk (HR'.out.sh HS.out)
      generalize hx : m.getD k 0 = x
      have HX := Aside0.mk hx
      clear hx
      generalize hb : has l x = b
      have HB := Aside0.mk hb
      clear hb
      have hle := inner_le l m k
      cases b
      · go_wp2_with (first | ((with_reducible refine gLd rfl ?_); refine rd_load1 (enc := Value.int .i64) HRR.out rfl rfl (i := k) rfl hlt 0 ((agT _ (by decide)).trans rfl) ?_; intro x hx; obtain rfl := HX.out.symm.trans hx; (try simp only [Act.put, List.setIfInBounds_toArray, List.set_cons_zero, List.set_cons_succ])) | (go_at_call 13; (with_reducible refine (has_any _ _ l x _ (HR.out.sh HS.out)).mono ?_); rintro e w' ⟨rfl, rfl⟩; rw [HB.out]))
        go_roundw
        case rel => exact ⟨k + 1, S, by omega, by go_num, ⟨by rw [inner_succ hlt HX.out HB.out]; simpa using HS.out⟩⟩
        case measure => simp [intOf]; omega
      · obtain ⟨A1, c1, hv5, hc1, _⟩ := row_rd HS.out 0 rfl
        subst hv5
        go_wp2_with (first | ((with_reducible refine gLd rfl ?_); refine rd_load1 (enc := Value.int .i64) HRR.out rfl rfl (i := k) rfl hlt 0 ((agT _ (by decide)).trans rfl) ?_; intro x hx; obtain rfl := HX.out.symm.trans hx; (try simp only [Act.put, List.setIfInBounds_toArray, List.set_cons_zero, List.set_cons_succ])) | (go_at_call 13; (with_reducible refine (has_any _ _ l x _ (HR.out.sh HS.out)).mono ?_); rintro e w' ⟨rfl, rfl⟩; rw [HB.out]) | ((with_reducible refine gC (b := .append) rfl ?_); refine sh_append HS.out rfl rfl rfl 0 rfl rfl (Rd.one (ints_len .i64) x (HS.out.blk 1 rfl)) Try.underlying22 infoInt rfl (by decide) (by decide) (by omega) ?_; clear HS; intro v1 w1 S1 HS1; (simp only [List.set_cons_zero, List.set_cons_succ] at HS1); have HS := Aside0.mk HS1; clear HS1; try simp only [Act.put, List.setIfInBounds_toArray, List.set_cons_zero, List.set_cons_succ]) | ((with_reducible refine gA rfl ?_); refine sh_alloc HS.out rfl rfl (zeT _ (by decide)) ?_; clear HS; intro g w1 hg HS1; (simp only [zeF, segOf, List.toList_toArray, List.cons_append, List.nil_append] at HS1); have HS := Aside0.mk HS1; clear HS1; try simp only [Act.put, List.setIfInBounds_toArray, List.set_cons_zero, List.set_cons_succ]) | ((with_reducible refine gB rfl ?_); (first | refine sh_box HS.out rfl rfl (v := (.agg (List.toArray _))) rfl ?_ | refine sh_box HS.out rfl rfl (v := (.int _ _)) rfl ?_ | refine sh_box HS.out rfl rfl (v := (.slice _ _ _)) rfl ?_ | refine sh_box HS.out rfl rfl (v := (.bool _)) rfl ?_ | refine sh_box HS.out rfl rfl (v := (.pointer _)) rfl ?_ | refine sh_box HS.out rfl rfl (v := (.string _)) rfl ?_ | refine sh_box HS.out rfl rfl (v := (.map _)) rfl ?_ | refine sh_box HS.out rfl rfl (v := (.func _ _ _)) rfl ?_); clear HS; intro g w1 hg HS1; (simp only [segOf, List.toList_toArray, List.cons_append, List.nil_append] at HS1); have HS := Aside0.mk HS1; clear HS1; try simp only [Act.put, List.setIfInBounds_toArray, List.set_cons_zero, List.set_cons_succ]) | ((with_reducible refine gL rfl ?_); refine sh_lit HS.out rfl rfl (by go_simp; exact ⟨⟨rfl, rfl⟩, rfl⟩) ?_; clear HS; intro g w1 hg HS1; (simp only [segOf, List.toList_toArray, List.cons_append, List.nil_append] at HS1); have HS := Aside0.mk HS1; clear HS1; try simp only [Act.put, List.setIfInBounds_toArray, List.set_cons_zero, List.set_cons_succ]))
        have HS1 := HS.out.pick [0] rfl (by decide)
        clear HS
        have HS := Aside0.mk HS1
        clear HS1
        go_wp2
        go_roundw
        case rel => exact ⟨k + 1, _, by omega, by go_num, ⟨by rw [inner_succ hlt HX.out HB.out]; exact HS.out⟩⟩
        case measure => simp [intOf]; omega
    · obtain rfl : k = m.length := by omega
      go_wp2
      go_ret
      have := HS.out
      rw [List.take_length] at this
      exact ⟨_, S, rfl, this⟩
theorem rowLen {α : Type} {enc : α → List Value} {sz : Nat} {hl : ∀ x, (enc x).length = sz} {h1 : ∀ x, (enc x).all (·.oneCell') = true} {w0 w : World} {is : List HP} (HS : SH w0 w is) (n : Nat) {e : TypeId} {v : Value} {xs : List α} {S : Nat → Prop} (hn : is[n]? = some (row (flk enc sz hl h1) e v xs S)) : ∃ A c, v = .slice A xs.length c := by
  obtain ⟨A, c, h, _⟩ := row_rd HS n hn
  exact ⟨A, c, h⟩
set_option maxHeartbeats 1600000 in
theorem lawMeet_any (A B C D : Option Addr) (c1 c2 c3 c4 : Nat) (a b v o : List Int) (w : World) {N1 N2 N3 N4 : Nat} (hr : Rd (ints .i64) 1 w A N1 a) (hr2 : Rd (ints .i64) 1 w B N2 b) (hr3 : Rd (ints .i64) 1 w C N3 v) (hr4 : Rd (ints .i64) 1 w D N4 o) (hlim3 : N3 * 8 ≤ 140737488351232) (hlim4 : N4 * 8 ≤ 140737488351232) :
    Calls Try.prog 10 #[.slice A N1 c1, .slice B N2 c2, .slice C N3 c3, .slice D N4 c4] w (fun e w' => e = .returned (.bool true) ∧ Below w.heap.size w w') := by
  have HR := Aside0.mk hr
  have HR2 := Aside0.mk hr2
  have HR3 := Aside0.mk hr3
  have HR4 := Aside0.mk hr4
  clear hr hr2 hr3 hr4
  have hmeet := fun hs h1 h2 => meet (a := a) (b := b) (v := v) (o := o) hs h1 h2
  have hab : (a = b) ↔ (a == b) = true := by simp
  rw [hab] at hmeet
  clear hab
  generalize hst : steps a b = st at hmeet
  generalize hsa : (a == b) = sa at hmeet
  generalize hm1 : maj a v = m1 at hmeet
  generalize hm2 : maj b o = m2 at hmeet
  generalize hcm : common (inner a v) (inner b o) = cm at hmeet
  have HST := Aside0.mk hst
  have HSA := Aside0.mk hsa
  have H1 := Aside0.mk hm1
  have H2 := Aside0.mk hm2
  have HC := Aside0.mk hcm
  clear hst hsa hm1 hm2 hcm
  have HS := Aside0.mk (SH.start w)
  have hcase : (st = false ∧ sa = false) ∨ m1 = false ∨ m2 = false ∨ ((st = true ∨ sa = true) ∧ m1 = true ∧ m2 = true ∧ cm = true) := by
    cases st <;> cases sa <;> cases m1 <;> cases m2 <;> simp_all
  clear hmeet
  cases st <;> cases sa <;> cases m1 <;> cases m2
  all_goals
    first
      | (simp at hcase; subst hcase)
      | clear hcase
    go_enter Try.func10, Try.ntmps10
    go_wp2_with (first | (go_at_call 18; (with_reducible refine (maj_any _ _ _ _ [1, 2, 3] [3, 1] _ (Rd.lit (ints_len .i64) (HS.out.blk 0 (by with_unfolding_all rfl)) (by decide) (by with_unfolding_all rfl) (by decide)) (Rd.lit (ints_len .i64) (HS.out.blk 1 (by with_unfolding_all rfl)) (by decide) (by with_unfolding_all rfl) (by decide))).mono ?_); rintro e w2 ⟨rfl, hb⟩; rw [maj_ex]; have HS1 := HS.out.quiet hb; clear HS hb; have HS := Aside0.mk HS1; clear HS1) | (go_at_call 18; (with_reducible refine (maj_any _ _ _ _ a v _ (HR.out.sh HS.out) (HR3.out.sh HS.out)).mono ?_); rintro e w2 ⟨rfl, hb⟩; rw [H1.out]; have HS1 := HS.out.quiet hb; clear HS hb; have HS := Aside0.mk HS1; clear HS1) | (go_at_call 18; (with_reducible refine (maj_any _ _ _ _ b o _ (HR2.out.sh HS.out) (HR4.out.sh HS.out)).mono ?_); rintro e w2 ⟨rfl, hb⟩; rw [H2.out]; have HS1 := HS.out.quiet hb; clear HS hb; have HS := Aside0.mk HS1; clear HS1) | (go_at_call 20; (with_reducible refine (steps_any _ _ _ _ a b _ (HR.out.sh HS.out) (HR2.out.sh HS.out)).mono ?_); rintro e w2 ⟨rfl, hb⟩; rw [HST.out]; have HS1 := HS.out.quiet hb; clear HS hb; have HS := Aside0.mk HS1; clear HS1) | (go_at_call 17; (with_reducible refine (refSame_any _ _ _ _ a b _ (HR.out.sh HS.out) (HR2.out.sh HS.out)).mono ?_); rintro e w2 ⟨rfl, hb⟩; rw [HSA.out]; have HS1 := HS.out.quiet hb; clear HS hb; have HS := Aside0.mk HS1; clear HS1) | (go_at_call 25; (with_reducible refine (inner_any _ _ _ _ a v _ (HR.out.sh HS.out) (HR3.out.sh HS.out) hlim3).mono ?_); rintro e w2 ⟨v1, S1, rfl, HS1⟩; have HS2 := HS.out.call HS1; clear HS HS1; simp only [List.cons_append, List.nil_append] at HS2; have HS := Aside0.mk HS2; clear HS2; obtain ⟨A1, k1, rfl⟩ := rowLen HS.out 2 rfl) | (go_at_call 25; (with_reducible refine (inner_any _ _ _ _ b o _ (HR2.out.sh HS.out) (HR4.out.sh HS.out) hlim4).mono ?_); rintro e w2 ⟨v2, S2, rfl, HS1⟩; have HS2 := HS.out.call HS1; clear HS HS1; simp only [List.cons_append, List.nil_append] at HS2; have HS := Aside0.mk HS2; clear HS2; obtain ⟨A2, k2, rfl⟩ := rowLen HS.out 3 rfl) | (go_at_call 24; (with_reducible refine (common_any _ _ _ _ (inner a v) (inner b o) _ (row_rds (hl := ints_len .i64) (h1 := ints_one .i64) 2 (by with_unfolding_all rfl) _ HS.out) (row_rds (hl := ints_len .i64) (h1 := ints_one .i64) 3 (by with_unfolding_all rfl) _ HS.out)).mono ?_); rintro e w2 ⟨rfl, rfl⟩; rw [HC.out]) | ((with_reducible refine gA rfl ?_); refine sh_alloc HS.out rfl rfl (zeT _ (by decide)) ?_; clear HS; intro g w1 hg HS1; (simp only [zeF, segOf, List.toList_toArray, List.cons_append, List.nil_append] at HS1); have HS := Aside0.mk HS1; clear HS1; try simp only [Act.put, List.setIfInBounds_toArray, List.set_cons_zero, List.set_cons_succ]) | ((with_reducible refine gB rfl ?_); (first | refine sh_box HS.out rfl rfl (v := (.agg (List.toArray _))) rfl ?_ | refine sh_box HS.out rfl rfl (v := (.int _ _)) rfl ?_ | refine sh_box HS.out rfl rfl (v := (.slice _ _ _)) rfl ?_ | refine sh_box HS.out rfl rfl (v := (.bool _)) rfl ?_ | refine sh_box HS.out rfl rfl (v := (.pointer _)) rfl ?_ | refine sh_box HS.out rfl rfl (v := (.string _)) rfl ?_ | refine sh_box HS.out rfl rfl (v := (.map _)) rfl ?_ | refine sh_box HS.out rfl rfl (v := (.func _ _ _)) rfl ?_); clear HS; intro g w1 hg HS1; (simp only [segOf, List.toList_toArray, List.cons_append, List.nil_append] at HS1); have HS := Aside0.mk HS1; clear HS1; try simp only [Act.put, List.setIfInBounds_toArray, List.set_cons_zero, List.set_cons_succ]) | ((with_reducible refine gL rfl ?_); refine sh_lit HS.out rfl rfl (by go_simp; exact ⟨⟨rfl, rfl⟩, rfl⟩) ?_; clear HS; intro g w1 hg HS1; (simp only [segOf, List.toList_toArray, List.cons_append, List.nil_append] at HS1); have HS := Aside0.mk HS1; clear HS1; try simp only [Act.put, List.setIfInBounds_toArray, List.set_cons_zero, List.set_cons_succ]))
    go_ret
    exact ⟨by first | rfl | simp, HS.out.below⟩
end Go.Proofs.Ytkfopjonhhldnaa.Nod
