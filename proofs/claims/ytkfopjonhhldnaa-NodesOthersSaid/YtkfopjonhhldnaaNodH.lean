import Derived.Test.YtkfopjonhhldnaaNodG
import Derived.Test.YtkfopjonhhldnaaNod5
namespace Go.Proofs.Ytkfopjonhhldnaa.Nod
open Go.RowKit Go.Proofs.YtkfopjonhhldnaaW.PrintWords Go.Proofs.Ytkfopjonhhldnaa.Sl
set_option linter.unusedVariables false
set_option linter.unusedSimpArgs false
set_option maxHeartbeats 1600000 in
theorem lawOthers_any (A : Option Addr) (c : Nat) (n : Int) (l : List Int) (w : World) (hr : Rd (ints .i64) 1 w A l.length l) (hlim : l.length * 8 ≤ 140737488351232) :
    Calls Try.prog 9 #[.slice A l.length c, .int .i64 n] w (fun e w' => e = .returned (.bool true) ∧ Below w.heap.size w w') := by
  have HR := Aside0.mk hr
  have hm := hr.len.2
  clear hr
  have hFm : (oth n l).length ≤ 9223372036854775807 := Nat.le_trans (oth_le n l) hm
  have HFF := Aside0.mk (show (oth n l == oth n l) = true by simp)
  have HLL := Aside0.mk (show (l == l) = true by simp)
  have h1 : (oth 5 [4, 5]).length = 1 := by decide
  have HS := Aside0.mk (SH.start w)
  go_enter Try.func9, Try.ntmps9
  go_wp2_with (first | ((with_reducible refine gC (b := .append) rfl ?_); refine sh_append_nil (ints_len .i64) (ints_one .i64) HS.out rfl rfl rfl rfl HR.out Try.underlying22 infoInt rfl (by decide) (by decide) (by omega) ?_; clear HS; intro v1 w1 S1 HS1; (simp only [List.cons_append, List.nil_append] at HS1); have HS := Aside0.mk HS1; clear HS1; try simp only [Act.put, List.setIfInBounds_toArray, List.set_cons_zero, List.set_cons_succ]; obtain ⟨A1, c1, rfl, hc1, _⟩ := row_rd HS.out 0 rfl) | (go_at_call 22; (with_reducible refine (others_any A1 c1 n l _ (row_rds (hl := ints_len .i64) (h1 := ints_one .i64) 0 rfl _ HS.out) hlim).mono ?_); rintro e w2 ⟨A2, c2, ga, cs2, rfl, HS1, ha1, ha2, ha3⟩;  have HS2 := HS.out.call HS1; clear HS HS1; simp only [List.cons_append, List.nil_append] at HS2; have HS := Aside0.mk HS2; clear HS2) | (go_at_call 23; (with_reducible refine (refOthers_any A c n l _ (HR.out.sh HS.out) hlim).mono ?_); rintro e w2 ⟨v3, S3, rfl, HS1⟩; obtain ⟨A3, c3, rfl, hc3, _⟩ := row_rd HS1 0 rfl; have HS2 := HS.out.call HS1; clear HS HS1; simp only [List.cons_append, List.nil_append] at HS2; have HS := Aside0.mk HS2; clear HS2) | (go_at_call 17; (with_reducible refine (refSame_any _ _ _ _ (oth n l) (oth n l) _ (othRd (HS.out.blk 1 rfl) hFm ha2 ha3) (row_rds (hl := ints_len .i64) (h1 := ints_one .i64) 2 rfl _ HS.out)).mono ?_); rintro e w2 ⟨rfl, hb⟩; rw [HFF.out]; have HS1 := HS.out.quiet hb; clear HS hb; have HS := Aside0.mk HS1; clear HS1))
  generalize hF : oth n l = F at *
  have HF := Aside0.mk hF
  clear hF ha2 HFF
  go_loopw [8, 21] (fun v8 v21 wr => ∃ (k : Nat) (cs : List Value), k ≤ F.length ∧ v21 = .int .i64 k ∧ F.length ≤ cs.length ∧ Aside0 (SH w wr [row (flk (ints .i64) 1 (ints_len .i64) (ints_one .i64)) 3 (.slice A1 l.length c1) l S1, blk ga cs 3, row (flk (ints .i64) 1 (ints_len .i64) (ints_one .i64)) 3 (.slice A3 F.length c3) F S3])) (fun _ v21 _ => F.length - (intOf v21).toNat)
  case atStart => exact ⟨0, cs2, Nat.zero_le _, rfl, ha1, HS⟩
  case round =>
    clear HS
    obtain ⟨k, cs, hk, rfl, hcs, HS⟩ := hrel
    by_cases hlt : k < F.length
    · obtain rfl := ha3 (by omega)
      go_wp2_with (first | ((with_reducible refine gSt rfl ?_); refine sh_storeX HS.out rfl rfl rfl (i := k) rfl 1 rfl (u := (.int .i64 99)) rfl rfl (szT _ (by decide)) rfl (by omega) ?_; clear HS; intro w1 HS1; (simp only [List.set_cons_zero, List.set_cons_succ] at HS1); have HS := Aside0.mk HS1; clear HS1; (try simp only [Act.put, List.setIfInBounds_toArray, List.set_cons_zero, List.set_cons_succ])))
      go_roundw
      case rel => exact ⟨k + 1, _, by omega, by go_num, by rw [List.length_set]; exact hcs, HS⟩
      case measure => simp [intOf]; omega
    · obtain rfl : k = F.length := by omega
      go_wp2_with (first | (go_at_call 22; (with_reducible refine (others_any _ _ 5 [4, 5] _ (Rd.lit (ints_len .i64) (HS.out.blk 3 rfl) (by decide) rfl (by decide)) (by decide)).mono ?_); rintro e w2 ⟨A4, c4, gb, cs4, rfl, HS1, hb1, hb2, hb3⟩; rw [h1]; have HS2 := HS.out.call HS1; clear HS HS1; simp only [List.cons_append, List.nil_append] at HS2; have HS := Aside0.mk HS2; clear HS2) | (go_at_call 17; (with_reducible refine (refSame_any _ _ _ _ l l _ (row_rds (hl := ints_len .i64) (h1 := ints_one .i64) 0 rfl _ HS.out) (HR.out.sh HS.out)).mono ?_); rintro e w2 ⟨rfl, hb⟩; rw [HLL.out]; have HS1 := HS.out.quiet hb; clear HS hb; have HS := Aside0.mk HS1; clear HS1) | ((with_reducible refine gA rfl ?_); refine sh_alloc HS.out rfl rfl (zeT _ (by decide)) ?_; clear HS; intro g w1 hg HS1; (simp only [zeF, segOf, List.toList_toArray, List.cons_append, List.nil_append] at HS1); have HS := Aside0.mk HS1; clear HS1; try simp only [Act.put, List.setIfInBounds_toArray, List.set_cons_zero, List.set_cons_succ]) | ((with_reducible refine gB rfl ?_); (first | refine sh_box HS.out rfl rfl (v := (.agg (List.toArray _))) rfl ?_ | refine sh_box HS.out rfl rfl (v := (.int _ _)) rfl ?_ | refine sh_box HS.out rfl rfl (v := (.slice _ _ _)) rfl ?_ | refine sh_box HS.out rfl rfl (v := (.bool _)) rfl ?_ | refine sh_box HS.out rfl rfl (v := (.pointer _)) rfl ?_ | refine sh_box HS.out rfl rfl (v := (.string _)) rfl ?_ | refine sh_box HS.out rfl rfl (v := (.map _)) rfl ?_ | refine sh_box HS.out rfl rfl (v := (.func _ _ _)) rfl ?_); clear HS; intro g w1 hg HS1; (simp only [segOf, List.toList_toArray, List.cons_append, List.nil_append] at HS1); have HS := Aside0.mk HS1; clear HS1; try simp only [Act.put, List.setIfInBounds_toArray, List.set_cons_zero, List.set_cons_succ]) | ((with_reducible refine gL rfl ?_); refine sh_lit HS.out rfl rfl (by go_simp; exact ⟨⟨rfl, rfl⟩, rfl⟩) ?_; clear HS; intro g w1 hg HS1; (simp only [segOf, List.toList_toArray, List.cons_append, List.nil_append] at HS1); have HS := Aside0.mk HS1; clear HS1; try simp only [Act.put, List.setIfInBounds_toArray, List.set_cons_zero, List.set_cons_succ]))
      go_ret
      exact ⟨by first | rfl | simp, HS.out.below⟩
namespace LawOthers
theorem walk (W : World) (cs0 : List Value) (x0 : intsS.D) (hk0 : intsS.kd.K W x0 cs0) (hw0 : intsS.wf x0) (hz0 : intsS.sized Try.prog x0) (cs1 : List Value) (x1 : intS.D) (hk1 : intS.kd.K W x1 cs1) (hw1 : intS.wf x1) (hz1 : intS.sized Try.prog x1) :
    Calls Try.prog 9 #[intsS.val cs0, intS.val cs1] W fun e W' => e = .returned (.bool true) ∧ Below W.heap.size W W' := by
  obtain ⟨A, c, rfl, _, hr⟩ := ints_open hk0
  obtain rfl : cs1 = [.int .i64 x1] := hk1
  exact lawOthers_any A c x1 x0 W hr (intsS_sized hz0)
end LawOthers
end Go.Proofs.Ytkfopjonhhldnaa.Nod
