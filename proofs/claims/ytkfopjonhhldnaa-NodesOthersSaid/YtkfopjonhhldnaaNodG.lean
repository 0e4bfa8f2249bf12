import Derived.Test.YtkfopjonhhldnaaNodF
namespace Go.Proofs.Ytkfopjonhhldnaa.Nod
open Go.RowKit Go.Proofs.YtkfopjonhhldnaaW.PrintWords Go.Proofs.Ytkfopjonhhldnaa.Sl
set_option linter.unusedVariables false
set_option linter.unusedSimpArgs false
/-! nodes.Others and the document's. -/
theorem idx_empty {n r : Int} (h : IdxIs n [] r) : r = -1 := by
  rcases h with ⟨h, _⟩ | ⟨i, _, h, _⟩
  · exact h
  · simp at h
set_option maxHeartbeats 400000 in
theorem del_none (A : Option Addr) (c : Nat) (ad : Addr) (n : Int) (w : World) {N : Nat} (hN : N = 0) (hn : Rd (ints .i64) 1 w (some ad) 1 [n]) :
    Calls Try.prog 31 #[.slice A N c, .func (.func 33) #[] #[.pointer (some ad)]] w (fun e w' => e = .returned (.slice A N c) ∧ w = w') := by
  subst hN
  have HN := Aside0.mk hn
  clear hn
  go_enter Try.func31, Try.ntmps31
  go_wp2_with (first | (go_at_call 36; (with_reducible refine (idx_any A c ad n [] _ (Rd.nil _ _ _ _) HN.out).mono ?_); rintro e w' ⟨⟨r, rfl, hr⟩, rfl⟩; obtain rfl := idx_empty hr))
  go_ret
  exact ⟨rfl, rfl⟩
def OthPost (n : Int) (l : List Int) (w : World) (e : Ending) (w' : World) : Prop :=
  ∃ A' c' g cs', e = .returned (.slice A' (oth n l).length c') ∧ SH w w' [blk g cs' 3] ∧ (oth n l).length ≤ cs'.length ∧ (∀ i, i < (oth n l).length → cs'[i]? = some (.int .i64 ((oth n l).getD i 0))) ∧ (0 < (oth n l).length → A' = some ⟨g, 0, none⟩)
set_option maxHeartbeats 800000 in
theorem others_any (A : Option Addr) (c : Nat) (n : Int) (l : List Int) (w : World) {N : Nat} (hr : Rd (ints .i64) 1 w A N l) (hlim : N * 8 ≤ 140737488351232) :
    Calls Try.prog 22 #[.slice A N c, .int .i64 n] w (OthPost n l w) := by
  obtain rfl := hr.len.1
  have hm := hr.len.2
  have HR := Aside0.mk hr
  clear hr
  have hmf : ∀ (fn : Fn) (first cap : Array Value) (w : World), (Instr.makeFunc fn first cap).run Try.prog w = .ok (.func fn first cap) w := fun _ _ _ _ => rfl
  have HS := Aside0.mk (SH.start w)
  by_cases h0 : l.length = 0
  · obtain rfl : l = [] := List.length_eq_zero_iff.1 h0
    simp only [List.length_nil] at HR
    go_enter Try.func22, Try.ntmps22
    go_wp2_with (first | (go_at_call 32; (with_reducible refine (clone_any A c [] _ (HR.out.sh HS.out) (by decide)).mono ?_); rintro e w2 ⟨v1, S1, rfl, HS1⟩; obtain ⟨A1, c1, rfl, hc1, _⟩ := row_rd HS1 0 rfl; have HS2 := HS.out.call HS1; clear HS HS1; simp only [List.cons_append, List.nil_append] at HS2; have HS := Aside0.mk HS2; clear HS2) | (go_at_call 31; (with_reducible refine (del_none A1 c1 _ n _ rfl (Rd.one (ints_len .i64) n (HS.out.blk 0 rfl))).mono ?_); rintro e w' ⟨rfl, rfl⟩) | ((with_reducible refine gA rfl ?_); refine sh_alloc HS.out rfl rfl (zeT _ (by decide)) ?_; clear HS; intro g w1 hg HS1; (simp only [zeF, segOf, List.toList_toArray, List.cons_append, List.nil_append] at HS1); have HS := Aside0.mk HS1; clear HS1; try simp only [Act.put, List.setIfInBounds_toArray, List.set_cons_zero, List.set_cons_succ]) | ((with_reducible refine gB rfl ?_); (first | refine sh_box HS.out rfl rfl (v := (.agg (List.toArray _))) rfl ?_ | refine sh_box HS.out rfl rfl (v := (.int _ _)) rfl ?_ | refine sh_box HS.out rfl rfl (v := (.slice _ _ _)) rfl ?_ | refine sh_box HS.out rfl rfl (v := (.bool _)) rfl ?_ | refine sh_box HS.out rfl rfl (v := (.pointer _)) rfl ?_ | refine sh_box HS.out rfl rfl (v := (.string _)) rfl ?_ | refine sh_box HS.out rfl rfl (v := (.map _)) rfl ?_ | refine sh_box HS.out rfl rfl (v := (.func _ _ _)) rfl ?_); clear HS; intro g w1 hg HS1; (simp only [segOf, List.toList_toArray, List.cons_append, List.nil_append] at HS1); have HS := Aside0.mk HS1; clear HS1; try simp only [Act.put, List.setIfInBounds_toArray, List.set_cons_zero, List.set_cons_succ]) | ((with_reducible refine gL rfl ?_); refine sh_lit HS.out rfl rfl (by go_simp; exact ⟨⟨rfl, rfl⟩, rfl⟩) ?_; clear HS; intro g w1 hg HS1; (simp only [segOf, List.toList_toArray, List.cons_append, List.nil_append] at HS1); have HS := Aside0.mk HS1; clear HS1; try simp only [Act.put, List.setIfInBounds_toArray, List.set_cons_zero, List.set_cons_succ]))
    go_ret
    exact ⟨A1, c1, _, _, rfl, HS.out.pick [0] rfl (by decide), Nat.zero_le _, fun i h => absurd h (Nat.not_lt_zero i), fun h => absurd h (Nat.not_lt_zero 0)⟩
  · have hpos : 0 < l.length := by omega
    go_enter Try.func22, Try.ntmps22
    go_wp2_with (first | (go_at_call 32; (with_reducible refine (clone_any A c l _ (HR.out.sh HS.out) hlim).mono ?_); rintro e w2 ⟨v1, S1, rfl, HS1⟩; obtain ⟨A1, c1, rfl, hc1, _⟩ := row_rd HS1 0 rfl; have HS2 := HS.out.call HS1; clear HS HS1; simp only [List.cons_append, List.nil_append] at HS2; have HS := Aside0.mk HS2; clear HS2) | (go_at_call 31; obtain ⟨gd, cs, rfl, _, hcl, hcs, HS3⟩ := HS.out.rowBlk (k := .i64) 1 rfl hpos; clear HS; (simp only [List.set_cons_succ, List.set_cons_zero] at HS3); (with_reducible refine (del_any _ gd n l cs c1 _ HS3 hm hcl hc1 hcs).mono ?_); rintro e w2 ⟨cs', rfl, h1, h2, HS4⟩; have HS := Aside0.mk HS4; clear HS4 HS3) | ((with_reducible refine gA rfl ?_); refine sh_alloc HS.out rfl rfl (zeT _ (by decide)) ?_; clear HS; intro g w1 hg HS1; (simp only [zeF, segOf, List.toList_toArray, List.cons_append, List.nil_append] at HS1); have HS := Aside0.mk HS1; clear HS1; try simp only [Act.put, List.setIfInBounds_toArray, List.set_cons_zero, List.set_cons_succ]) | ((with_reducible refine gB rfl ?_); (first | refine sh_box HS.out rfl rfl (v := (.agg (List.toArray _))) rfl ?_ | refine sh_box HS.out rfl rfl (v := (.int _ _)) rfl ?_ | refine sh_box HS.out rfl rfl (v := (.slice _ _ _)) rfl ?_ | refine sh_box HS.out rfl rfl (v := (.bool _)) rfl ?_ | refine sh_box HS.out rfl rfl (v := (.pointer _)) rfl ?_ | refine sh_box HS.out rfl rfl (v := (.string _)) rfl ?_ | refine sh_box HS.out rfl rfl (v := (.map _)) rfl ?_ | refine sh_box HS.out rfl rfl (v := (.func _ _ _)) rfl ?_); clear HS; intro g w1 hg HS1; (simp only [segOf, List.toList_toArray, List.cons_append, List.nil_append] at HS1); have HS := Aside0.mk HS1; clear HS1; try simp only [Act.put, List.setIfInBounds_toArray, List.set_cons_zero, List.set_cons_succ]) | ((with_reducible refine gL rfl ?_); refine sh_lit HS.out rfl rfl (by go_simp; exact ⟨⟨rfl, rfl⟩, rfl⟩) ?_; clear HS; intro g w1 hg HS1; (simp only [segOf, List.toList_toArray, List.cons_append, List.nil_append] at HS1); have HS := Aside0.mk HS1; clear HS1; try simp only [Act.put, List.setIfInBounds_toArray, List.set_cons_zero, List.set_cons_succ]))
    go_ret
    exact ⟨_, _, gd, cs', rfl, HS.out.pick [1] rfl (by decide), h1, h2, fun _ => rfl⟩
/-- What Others told is read. -/
theorem othRd {w : World} {A : Option Addr} {g : Nat} {cs : List Value} {F : List Int} (h : w.heap[g]? = some (.cells cs.toArray 3 (0, 0))) (hm : F.length ≤ 9223372036854775807) (hc : ∀ i, i < F.length → cs[i]? = some (.int .i64 (F.getD i 0))) (hA : 0 < F.length → A = some ⟨g, 0, none⟩) : Rd (ints .i64) 1 w A F.length F := by
  rcases Nat.eq_zero_or_pos F.length with h0 | h0
  · obtain rfl : F = [] := List.length_eq_zero_iff.1 h0
    exact Rd.nil _ _ _ _
  · rw [hA h0]
    exact blkRd h rfl hm hc
set_option maxHeartbeats 400000 in
theorem refOthers_any (A : Option Addr) (c : Nat) (n : Int) (l : List Int) (w : World) {N : Nat} (hr : Rd (ints .i64) 1 w A N l) (hlim : N * 8 ≤ 140737488351232) :
    Calls Try.prog 23 #[.slice A N c, .int .i64 n] w (fun e w' => ∃ v S, e = .returned v ∧ SH w w' [row (flk (ints .i64) 1 (ints_len .i64) (ints_one .i64)) 3 v (oth n l) S]) := by
  obtain rfl := hr.len.1
  have hm := hr.len.2
  have HR' := Aside0.mk hr
  clear hr
  have HS := Aside0.mk ((SH.start w).nil (flk (ints .i64) 1 (ints_len .i64) (ints_one .i64)) 3)
  go_enter Try.func23, Try.ntmps23
  go_wp2
  go_loopw [5, 7, 10] (fun v5 v7 v10 wr => ∃ (k : Nat) (S : Nat → Prop), k ≤ l.length ∧ v10 = .int .i64 k ∧ Aside0 (SH w wr [row (flk (ints .i64) 1 (ints_len .i64) (ints_one .i64)) 3 v5 (oth n (l.take k)) S])) (fun _ _ v10 _ => l.length - (intOf v10).toNat)
  case atStart => exact ⟨0, _, Nat.zero_le _, rfl, HS⟩
  case round =>
    clear HS
    obtain ⟨k, S, hk, rfl, HS⟩ := hrel
    by_cases hlt : k < l.length
    · obtain ⟨ad, rfl⟩ := HR'.out.addr (by omega)
      have HRR := Aside0.mk (HR'.out.sh HS.out)
      generalize hx : l.getD k 0 = x
      have HX := Aside0.mk hx
      clear hx
      have hle : (oth n (l.take k)).length ≤ l.length := Nat.le_trans (oth_le _ _) (by rw [List.length_take]; omega)
      cases hb : (x == n) with
      | true =>
        have HB := Aside0.mk hb
        have hb' : (x != n) = false := by rw [bne, hb]; rfl
        go_wp2_with (first | ((with_reducible refine gLd rfl ?_); refine rd_load1 (enc := Value.int .i64) HRR.out rfl rfl (i := k) rfl hlt 0 ((agT _ (by decide)).trans rfl) ?_; intro x hx; obtain rfl := HX.out.symm.trans hx; (try simp only [Act.put, List.setIfInBounds_toArray, List.set_cons_zero, List.set_cons_succ])))
        go_roundw
        case rel => exact ⟨k + 1, S, by omega, by go_num, ⟨by rw [oth_succ hlt HX.out, if_pos HB.out]; simpa using HS.out⟩⟩
        case measure => simp [intOf]; omega
      | false =>
        have HB := Aside0.mk hb
        have hb' : (x != n) = true := by rw [bne, hb]; rfl
        obtain ⟨A1, c1, hv5, hc1, _⟩ := row_rd HS.out 0 rfl
        subst hv5
        go_wp2_with (first | ((with_reducible refine gLd rfl ?_); refine rd_load1 (enc := Value.int .i64) HRR.out rfl rfl (i := k) rfl hlt 0 ((agT _ (by decide)).trans rfl) ?_; intro x hx; obtain rfl := HX.out.symm.trans hx; (try simp only [Act.put, List.setIfInBounds_toArray, List.set_cons_zero, List.set_cons_succ])) | ((with_reducible refine gC (b := .append) rfl ?_); refine sh_append HS.out rfl rfl rfl 0 rfl rfl (Rd.one (ints_len .i64) x (HS.out.blk 1 rfl)) Try.underlying22 infoInt rfl (by decide) (by decide) (by omega) ?_; clear HS; intro v1 w1 S1 HS1; (simp only [List.set_cons_zero, List.set_cons_succ] at HS1); have HS := Aside0.mk HS1; clear HS1; try simp only [Act.put, List.setIfInBounds_toArray, List.set_cons_zero, List.set_cons_succ]) | ((with_reducible refine gA rfl ?_); refine sh_alloc HS.out rfl rfl (zeT _ (by decide)) ?_; clear HS; intro g w1 hg HS1; (simp only [zeF, segOf, List.toList_toArray, List.cons_append, List.nil_append] at HS1); have HS := Aside0.mk HS1; clear HS1; try simp only [Act.put, List.setIfInBounds_toArray, List.set_cons_zero, List.set_cons_succ]) | ((with_reducible refine gB rfl ?_); (first | refine sh_box HS.out rfl rfl (v := (.agg (List.toArray _))) rfl ?_ | refine sh_box HS.out rfl rfl (v := (.int _ _)) rfl ?_ | refine sh_box HS.out rfl rfl (v := (.slice _ _ _)) rfl ?_ | refine sh_box HS.out rfl rfl (v := (.bool _)) rfl ?_ | refine sh_box HS.out rfl rfl (v := (.pointer _)) rfl ?_ | refine sh_box HS.out rfl rfl (v := (.string _)) rfl ?_ | refine sh_box HS.out rfl rfl (v := (.map _)) rfl ?_ | refine sh_box HS.out rfl rfl (v := (.func _ _ _)) rfl ?_); clear HS; intro g w1 hg HS1; (simp only [segOf, List.toList_toArray, List.cons_append, List.nil_append] at HS1); have HS := Aside0.mk HS1; clear HS1; try simp only [Act.put, List.setIfInBounds_toArray, List.set_cons_zero, List.set_cons_succ]) | ((with_reducible refine gL rfl ?_); refine sh_lit HS.out rfl rfl (by go_simp; exact ⟨⟨rfl, rfl⟩, rfl⟩) ?_; clear HS; intro g w1 hg HS1; (simp only [segOf, List.toList_toArray, List.cons_append, List.nil_append] at HS1); have HS := Aside0.mk HS1; clear HS1; try simp only [Act.put, List.setIfInBounds_toArray, List.set_cons_zero, List.set_cons_succ]))
        have HS1 := HS.out.pick [0] rfl (by decide)
        clear HS
        have HS := Aside0.mk HS1
        clear HS1
        go_wp2
        go_roundw
        case rel => exact ⟨k + 1, _, by omega, by go_num, ⟨by rw [oth_succ hlt HX.out, if_neg (by rw [HB.out]; simp)]; exact HS.out⟩⟩
        case measure => simp [intOf]; omega
    · obtain rfl : k = l.length := by omega
      go_wp2
      go_ret
      have := HS.out
      rw [List.take_length] at this
      exact ⟨_, S, rfl, this⟩
end Go.Proofs.Ytkfopjonhhldnaa.Nod
