import Derived.Test.YtkfopjonhhldnaaNod1
import Derived.Test.YtkfopjonhhldnaaNod2
import Derived.Test.YtkfopjonhhldnaaNod3
namespace Go.Proofs.Ytkfopjonhhldnaa.Nod
open Go.RowKit Go.Proofs.YtkfopjonhhldnaaW.PrintWords Go.Proofs.Ytkfopjonhhldnaa.Sl
set_option linter.unusedVariables false
set_option linter.unusedSimpArgs false
theorem infoInt : (Try.prog.info? 3).map (fun i => (i.zero, i.size, i.bytes)) = some (some (.int .i64 0), 1, 8) := by kernel_rfl
set_option maxHeartbeats 400000 in
theorem lawHas_any (A : Option Addr) (c : Nat) (l : List Int) (n : Int) (w : World) (hr : Rd (ints .i64) 1 w A l.length l) :
    Calls Try.prog 3 #[.slice A l.length c, .int .i64 n] w (fun e w' => e = .returned (.bool true) ∧ Below w.heap.size w w') := by
  have HR := Aside0.mk hr
  clear hr
  generalize hb : has l n = b
  have HB := Aside0.mk hb
  clear hb
  have hbb : (b == b) = true := by cases b <;> rfl
  have HS := Aside0.mk (SH.start w)
  go_enter Try.func3, Try.ntmps3
  go_wp2_with (first | (go_at_call 13; first | ((with_reducible refine (has_any _ _ l n _ (HR.out.sh HS.out)).mono ?_); rintro e w' ⟨rfl, rfl⟩; rw [HB.out]) | ((with_reducible refine (has_any _ _ [4] 4 _ (Rd.one (ints_len .i64) 4 (HS.out.blk 0 rfl))).mono ?_); rintro e w' ⟨rfl, rfl⟩; rw [show has [4] 4 = true from rfl])) | (go_at_call 14; (with_reducible refine (refHas_any _ _ l n _ (HR.out.sh HS.out)).mono ?_); rintro e w' ⟨rfl, rfl⟩; rw [HB.out]) | ((with_reducible refine gA rfl ?_); refine sh_alloc HS.out rfl rfl (zeT _ (by decide)) ?_; clear HS; intro g w1 hg HS1; (simp only [zeF, segOf, List.toList_toArray, List.cons_append, List.nil_append] at HS1); have HS := Aside0.mk HS1; clear HS1; try simp only [Act.put, List.setIfInBounds_toArray, List.set_cons_zero, List.set_cons_succ]) | ((with_reducible refine gB rfl ?_); (first | refine sh_box HS.out rfl rfl (v := (.agg (List.toArray _))) rfl ?_ | refine sh_box HS.out rfl rfl (v := (.int _ _)) rfl ?_ | refine sh_box HS.out rfl rfl (v := (.slice _ _ _)) rfl ?_ | refine sh_box HS.out rfl rfl (v := (.bool _)) rfl ?_ | refine sh_box HS.out rfl rfl (v := (.pointer _)) rfl ?_ | refine sh_box HS.out rfl rfl (v := (.string _)) rfl ?_ | refine sh_box HS.out rfl rfl (v := (.map _)) rfl ?_ | refine sh_box HS.out rfl rfl (v := (.func _ _ _)) rfl ?_); clear HS; intro g w1 hg HS1; (simp only [segOf, List.toList_toArray, List.cons_append, List.nil_append] at HS1); have HS := Aside0.mk HS1; clear HS1; try simp only [Act.put, List.setIfInBounds_toArray, List.set_cons_zero, List.set_cons_succ]) | ((with_reducible refine gL rfl ?_); refine sh_lit HS.out rfl rfl (by go_simp; exact ⟨⟨rfl, rfl⟩, rfl⟩) ?_; clear HS; intro g w1 hg HS1; (simp only [segOf, List.toList_toArray, List.cons_append, List.nil_append] at HS1); have HS := Aside0.mk HS1; clear HS1; try simp only [Act.put, List.setIfInBounds_toArray, List.set_cons_zero, List.set_cons_succ]) | ((with_reducible refine gLd rfl ?_); (first | refine sh_load HS.out rfl rfl rfl 0 rfl ((agT _ (by decide)).trans rfl) rfl ?_); try simp only [Act.put, List.setIfInBounds_toArray, List.set_cons_zero, List.set_cons_succ]) | ((with_reducible refine gLd rfl ?_); (first | refine sh_loads HS.out rfl rfl rfl 0 rfl ((agT _ (by decide)).trans rfl) (szT _ (by decide)) (Nat.le_of_ble_eq_true rfl) ?_); (try simp only [szL, Act.put, List.setIfInBounds_toArray, List.set_cons_zero, List.set_cons_succ, List.getD_cons_zero, List.getD_cons_succ, List.drop_zero, List.drop_succ_cons, List.take_succ_cons, List.take_zero])) | ((with_reducible refine gSt rfl ?_); (first | refine sh_store HS.out rfl rfl rfl rfl 0 rfl (u := (.agg (List.toArray _))) rfl (szT _ (by decide)) rfl (Nat.le_of_ble_eq_true rfl) ?_ | refine sh_store HS.out rfl rfl rfl rfl 0 rfl (u := (.int _ _)) rfl (szT _ (by decide)) rfl (Nat.le_of_ble_eq_true rfl) ?_ | refine sh_store HS.out rfl rfl rfl rfl 0 rfl (u := (.slice _ _ _)) rfl (szT _ (by decide)) rfl (Nat.le_of_ble_eq_true rfl) ?_ | refine sh_store HS.out rfl rfl rfl rfl 0 rfl (u := (.bool _)) rfl (szT _ (by decide)) rfl (Nat.le_of_ble_eq_true rfl) ?_ | refine sh_store HS.out rfl rfl rfl rfl 0 rfl (u := (.pointer _)) rfl (szT _ (by decide)) rfl (Nat.le_of_ble_eq_true rfl) ?_ | refine sh_store HS.out rfl rfl rfl rfl 0 rfl (u := (.string _)) rfl (szT _ (by decide)) rfl (Nat.le_of_ble_eq_true rfl) ?_ | refine sh_store HS.out rfl rfl rfl rfl 0 rfl (u := (.map _)) rfl (szT _ (by decide)) rfl (Nat.le_of_ble_eq_true rfl) ?_ | refine sh_store HS.out rfl rfl rfl rfl 0 rfl (u := (.func _ _ _)) rfl (szT _ (by decide)) rfl (Nat.le_of_ble_eq_true rfl) ?_); clear HS; intro w1 HS1; (simp only [segOf, List.toList_toArray, List.set_cons_zero, List.set_cons_succ, putSeg] at HS1); have HS := Aside0.mk HS1; clear HS1; try simp only [Act.put, List.setIfInBounds_toArray, List.set_cons_zero, List.set_cons_succ]))
  go_ret
  exact ⟨by first | rfl | simp, HS.out.below⟩
set_option maxHeartbeats 400000 in
theorem lawCheck_any (A : Option Addr) (c : Nat) (l : List Int) (w : World) (hr : Rd (ints .i64) 1 w A l.length l) (hlim : l.length * 8 ≤ 140737488351232) :
    Calls Try.prog 4 #[.slice A l.length c] w (fun e w' => e = .returned (.bool true) ∧ Below w.heap.size w w') := by
  have HR := Aside0.mk hr
  clear hr
  have hll : (l == l) = true := by simp
  have HLL := Aside0.mk hll
  clear hll
  generalize hb : (if good l then (0 : Int) else 1) = b
  have HB := Aside0.mk hb
  clear hb
  have hbb : (b == b) = true := by simp
  have HS := Aside0.mk (SH.start w)
  go_enter Try.func4, Try.ntmps4
  go_wp2_with (first | ((with_reducible refine gC (b := .append) rfl ?_); refine sh_append_nil (ints_len .i64) (ints_one .i64) HS.out rfl rfl rfl rfl HR.out Try.underlying22 infoInt rfl (by decide) (by decide) (by omega) ?_; clear HS; intro v1 w1 S1 HS1; (simp only [List.cons_append, List.nil_append] at HS1); have HS := Aside0.mk HS1; clear HS1; try simp only [Act.put, List.setIfInBounds_toArray, List.set_cons_zero, List.set_cons_succ]; obtain ⟨A1, c1, rfl, hc1, _⟩ := row_rd HS.out 0 rfl) | (go_at_call 15; (with_reducible refine (check_any _ _ l _ (row_rds (hl := ints_len .i64) (h1 := ints_one .i64) 0 rfl _ HS.out)).mono ?_); rintro e w2 ⟨rfl, hb⟩; rw [HB.out]; have HS1 := HS.out.quiet hb; clear HS hb; have HS := Aside0.mk HS1; clear HS1) | (go_at_call 15; (with_reducible refine (check_any _ _ [] _ (Rd.nil _ _ _ _)).mono ?_); rintro e w2 ⟨rfl, hb⟩; rw [show (if good [] then (0 : Int) else 1) = 1 from rfl]; have HS1 := HS.out.quiet hb; clear HS hb; have HS := Aside0.mk HS1; clear HS1) | (go_at_call 16; (with_reducible refine (refCheck_any _ _ l _ (HR.out.sh HS.out)).mono ?_); rintro e w2 ⟨rfl, rfl⟩; rw [HB.out]; skip) | (go_at_call 17; (with_reducible refine (refSame_any _ _ _ _ l l _ (row_rds (hl := ints_len .i64) (h1 := ints_one .i64) 0 rfl _ HS.out) (HR.out.sh HS.out)).mono ?_); rintro e w2 ⟨rfl, hb⟩; rw [HLL.out]; have HS1 := HS.out.quiet hb; clear HS hb; have HS := Aside0.mk HS1; clear HS1))
  go_ret
  exact ⟨by first | rfl | simp, HS.out.below⟩
end Go.Proofs.Ytkfopjonhhldnaa.Nod
