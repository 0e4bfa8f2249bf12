import Derived.Test.YtkfopjonhhldnaaNod4
import Derived.Test.YtkfopjonhhldnaaSl4
namespace Go.Proofs.Ytkfopjonhhldnaa.Nod
open Go.RowKit Go.Proofs.YtkfopjonhhldnaaW.PrintWords Go.Proofs.Ytkfopjonhhldnaa.Sl
set_option linter.unusedVariables false
set_option linter.unusedSimpArgs false
/-! The library's IndexFunc and Clone at the closure of nodes.Others. -/
def IdxIs (n : Int) (l : List Int) (r : Int) : Prop := (r = -1 ∧ ∀ j, j < l.length → l.getD j 0 ≠ n) ∨ (∃ i : Nat, r = i ∧ i < l.length ∧ l.getD i 0 = n ∧ ∀ j, j < i → l.getD j 0 ≠ n)
set_option maxHeartbeats 400000 in
theorem clos_any (ad : Addr) (n m : Int) (w : World) (hr : Rd (ints .i64) 1 w (some ad) 1 [n]) :
    Calls Try.prog 33 #[.int .i64 m, .pointer (some ad)] w (fun e w' => e = .returned (.bool (m == n)) ∧ w = w') := by
  have HR := Aside0.mk hr
  clear hr
  have HX := Aside0.mk (show [n].getD 0 0 = n from rfl)
  go_enter Try.func33, Try.ntmps33
  go_wp2_with (first | ((with_reducible refine gLd rfl ?_); refine rd_load1 (enc := Value.int .i64) HR.out rfl rfl (i := 0) rfl (by decide) 0 ((agT _ (by decide)).trans rfl) ?_; intro x hx; obtain rfl := HX.out.symm.trans hx; (try simp only [Act.put, List.setIfInBounds_toArray, List.set_cons_zero, List.set_cons_succ])))
  go_ret
  exact ⟨by first | rfl | simp, rfl⟩
def theF (ad : Addr) : Value := .func (.func 33) #[] #[.pointer (some ad)]
set_option maxHeartbeats 400000 in
theorem idx_any (A : Option Addr) (c : Nat) (ad : Addr) (n : Int) (l : List Int) (w : World) {N : Nat} (hr : Rd (ints .i64) 1 w A N l) (hn : Rd (ints .i64) 1 w (some ad) 1 [n]) :
    Calls Try.prog 36 #[.slice A N c, .func (.func 33) #[] #[.pointer (some ad)]] w (fun e w' => (∃ r, e = .returned (.int .i64 r) ∧ IdxIs n l r) ∧ w = w') := by
  obtain rfl := hr.len.1
  have hm := hr.len.2
  have HR := Aside0.mk hr
  have HN := Aside0.mk hn
  clear hr hn
  go_enter Try.func36, Try.ntmps36
  go_wp2
  go_loop [5, 8] (fun v5 v8 => ∃ k : Nat, k ≤ l.length ∧ v8 = .int .i64 k ∧ Aside0 (∀ j, j < k → l.getD j 0 ≠ n)) (fun _ v8 => l.length - (intOf v8).toNat)
  case atStart => exact ⟨0, Nat.zero_le _, rfl, ⟨fun j h => absurd h (Nat.not_lt_zero j)⟩⟩
  case round =>
    obtain ⟨k, hk, rfl, HO⟩ := hrel
    by_cases hlt : k < l.length
    · obtain ⟨ad1, rfl⟩ := HR.out.addr (by omega)
      generalize hx : l.getD k 0 = x
      have HX := Aside0.mk hx
      clear hx
      cases hb : (x == n) with
      | true =>
        have HB := Aside0.mk hb
        go_wp2_with (first | ((with_reducible refine gLd rfl ?_); refine rd_load1 (enc := Value.int .i64) HR.out rfl rfl (i := k) rfl hlt 0 ((agT _ (by decide)).trans rfl) ?_; intro x hx; obtain rfl := HX.out.symm.trans hx; (try simp only [Act.put, List.setIfInBounds_toArray, List.set_cons_zero, List.set_cons_succ])) | (go_at_call 33; (with_reducible refine (clos_any ad n x _ HN.out).mono ?_); rintro e w' ⟨rfl, rfl⟩; rw [HB.out]))
        go_ret
        exact ⟨⟨_, rfl, .inr ⟨k, rfl, hlt, by rw [HX.out]; exact eq_of_beq HB.out, HO.out⟩⟩, rfl⟩
      | false =>
        have HB := Aside0.mk hb
        go_wp2_with (first | ((with_reducible refine gLd rfl ?_); refine rd_load1 (enc := Value.int .i64) HR.out rfl rfl (i := k) rfl hlt 0 ((agT _ (by decide)).trans rfl) ?_; intro x hx; obtain rfl := HX.out.symm.trans hx; (try simp only [Act.put, List.setIfInBounds_toArray, List.set_cons_zero, List.set_cons_succ])) | (go_at_call 33; (with_reducible refine (clos_any ad n x _ HN.out).mono ?_); rintro e w' ⟨rfl, rfl⟩; rw [HB.out]))
        go_round
        case rel =>
          refine ⟨k + 1, by omega, by go_num, ⟨fun j hj => ?_⟩⟩
          by_cases hjk : j < k
          · exact HO.out j hjk
          · obtain rfl : j = k := by omega
            rw [HX.out]
            exact fun e => by rw [e] at hb; simp at hb
        case measure => simp [intOf]; omega
    · obtain rfl : k = l.length := by omega
      go_wp2
      go_ret
      exact ⟨⟨_, rfl, .inl ⟨rfl, HO.out⟩⟩, rfl⟩
set_option maxHeartbeats 400000 in
theorem clone_any (A : Option Addr) (c : Nat) (l : List Int) (w : World) {N : Nat} (hr : Rd (ints .i64) 1 w A N l) (hlim : N * 8 ≤ 140737488351232) :
    Calls Try.prog 32 #[.slice A N c] w (fun e w' => ∃ v S, e = .returned v ∧ SH w w' [row (flk (ints .i64) 1 (ints_len .i64) (ints_one .i64)) 3 v l S]) := by
  obtain rfl := hr.len.1
  have HR := Aside0.mk hr
  have hm := hr.len.2
  clear hr
  cases A with
  | none =>
    have h0 : l = [] := by
      cases l with
      | nil => rfl
      | cons x l => obtain ⟨ad, h⟩ := HR.out.addr (by simp); cases h
    subst h0
    have heq : ∀ w, (binOp .eql 22 (.slice none 0 c) (.slice none 0 0)).run Try.prog w = .ok (.bool true) w := fun w => Go.Lib.run_eql_slice_nil w 22 3 none 0 c 0 0 Try.underlying22
    have HS := Aside0.mk ((SH.start w).nil (flk (ints .i64) 1 (ints_len .i64) (ints_one .i64)) 3)
    go_enter Try.func32, Try.ntmps32
    go_wp2
    go_ret
    exact ⟨_, _, rfl, HS.out⟩
  | some ad =>
    have heq : ∀ w, (binOp .eql 22 (.slice (some ad) l.length c) (.slice none 0 0)).run Try.prog w = .ok (.bool false) w := fun w => Go.Lib.run_eql_slice_nil w 22 3 (some ad) l.length c 0 0 Try.underlying22
    have HS := Aside0.mk (SH.start w)
    go_enter Try.func32, Try.ntmps32
    go_wp2_with (first | ((with_reducible refine gC (b := .append) rfl ?_); refine sh_append_blk (ints_len .i64) (ints_one .i64) HS.out rfl rfl 0 [] rfl rfl rfl rfl (HR.out.sh HS.out) Try.underlying22 infoInt rfl (by decide) (by decide) (by simp; omega) ?_; clear HS; intro v1 w1 S1 HS1; (simp only [List.set_cons_zero, List.set_cons_succ] at HS1); have HS := Aside0.mk HS1; clear HS1; try simp only [Act.put, List.setIfInBounds_toArray, List.set_cons_zero, List.set_cons_succ]; obtain ⟨A1, c1, rfl, hc1, _⟩ := row_rd HS.out 0 rfl) | ((with_reducible refine gA rfl ?_); refine sh_alloc HS.out rfl rfl (zeT _ (by decide)) ?_; clear HS; intro g w1 hg HS1; (simp only [zeF, segOf, List.toList_toArray, List.cons_append, List.nil_append] at HS1); have HS := Aside0.mk HS1; clear HS1; try simp only [Act.put, List.setIfInBounds_toArray, List.set_cons_zero, List.set_cons_succ]) | ((with_reducible refine gB rfl ?_); (first | refine sh_box HS.out rfl rfl (v := (.agg (List.toArray _))) rfl ?_ | refine sh_box HS.out rfl rfl (v := (.int _ _)) rfl ?_ | refine sh_box HS.out rfl rfl (v := (.slice _ _ _)) rfl ?_ | refine sh_box HS.out rfl rfl (v := (.bool _)) rfl ?_ | refine sh_box HS.out rfl rfl (v := (.pointer _)) rfl ?_ | refine sh_box HS.out rfl rfl (v := (.string _)) rfl ?_ | refine sh_box HS.out rfl rfl (v := (.map _)) rfl ?_ | refine sh_box HS.out rfl rfl (v := (.func _ _ _)) rfl ?_); clear HS; intro g w1 hg HS1; (simp only [segOf, List.toList_toArray, List.cons_append, List.nil_append] at HS1); have HS := Aside0.mk HS1; clear HS1; try simp only [Act.put, List.setIfInBounds_toArray, List.set_cons_zero, List.set_cons_succ]) | ((with_reducible refine gL rfl ?_); refine sh_lit HS.out rfl rfl (by go_simp; exact ⟨⟨rfl, rfl⟩, rfl⟩) ?_; clear HS; intro g w1 hg HS1; (simp only [segOf, List.toList_toArray, List.cons_append, List.nil_append] at HS1); have HS := Aside0.mk HS1; clear HS1; try simp only [Act.put, List.setIfInBounds_toArray, List.set_cons_zero, List.set_cons_succ]))
    go_ret
    exact ⟨_, _, rfl, HS.out⟩
end Go.Proofs.Ytkfopjonhhldnaa.Nod
