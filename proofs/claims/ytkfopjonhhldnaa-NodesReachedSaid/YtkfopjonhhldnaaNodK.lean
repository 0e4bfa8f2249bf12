import Derived.Test.YtkfopjonhhldnaaNodJ
namespace Go.Proofs.Ytkfopjonhhldnaa.Nod
open Go.RowKit Go.Proofs.YtkfopjonhhldnaaW.PrintWords Go.Proofs.Ytkfopjonhhldnaa.Sl
set_option linter.unusedVariables false
set_option linter.unusedSimpArgs false
/-! How far more than half have come, by the code. -/
abbrev FarM := List (Int × Int)
abbrev FarI (g : Nat) (m : FarM) : HP := mp g (Value.int .i64) (Value.int .u64) (fun _ => True) m
def far (m : FarM) (n : Int) : Int := (mget m n).getD 0
theorem farKeyOK : KeyOK Try.prog 3 (Value.int .i64) (fun _ : Int => True) := intKeyOK (by kernel_rfl)
theorem infoU64 : (Try.prog.info? 34).map (fun i => (i.zero, i.size, i.bytes)) = some (some (.int .u64 0), 1, 8) := by kernel_rfl
theorem zeroU64 : (Try.prog.info? 34).bind (·.zero) = some (Value.int .u64 0) := by kernel_rfl
def isMid (xs : List Int) (r : Int) : Prop := ∃ ys : List Int, ys.length = xs.length ∧ Srt ys ys.length ∧ (∀ p, ys.countP p = xs.countP p) ∧ r = ys.getD ((xs.length - 1) / 2) 0
theorem okTo_ge {l : List Int} {k : Nat} (h : okTo l k) : ∀ i, i < k → (i : Int) + 1 ≤ l.getD i 0
  | 0, hi => by have := (h 0 hi).1; simpa using this
  | i + 1, hi => by
    have h1 := okTo_ge h i (by omega)
    have h2 := (h (i + 1) hi).2.2 (by omega)
    rw [show i + 1 - 1 = i from rfl] at h2
    omega
theorem good_len {l : List Int} (h : good l = true) : 0 < l.length ∧ l.length ≤ 7 := by
  unfold good isSet at h
  rw [Bool.and_eq_true, decide_eq_true_eq, decide_eq_true_eq] at h
  refine ⟨h.2, ?_⟩
  have h1 := okTo_ge h.1 (l.length - 1) (by omega)
  have h2 := (h.1 (l.length - 1) (by omega)).2.1
  omega
set_option maxHeartbeats 1600000 in
set_option maxRecDepth 100000 in
theorem mid_any (A : Option Addr) (c gm : Nat) (l : List Int) (m : FarM) (w : World) {N : Nat} (hr : Rd (ints .i64) 1 w A N l) (hmp : (FarI gm m).ok w) :
    Calls Try.prog 26 #[.slice A N c, .map (some gm)] w (fun e w' => (∃ r, e = .returned (.int .u64 r) ∧ (good l = false → r = 0) ∧ (good l = true → isMid (l.map (far m)) r)) ∧ Below w.heap.size w w') := by
  obtain rfl := hr.len.1
  have hm := hr.len.2
  have HR := Aside0.mk hr
  have HP := Aside0.mk hmp
  clear hr hmp
  have HS := Aside0.mk (SH.start w)
  cases hg : good l with
  | false =>
    have HG := Aside0.mk hg
    clear hg
    go_enter Try.func26, Try.ntmps26
    go_wp2_with (first | (go_at_call 29; (with_reducible refine (of_any _ _ l _ (HR.out.sh HS.out)).mono ?_); rintro e w2 ⟨rfl, hb⟩; rw [HG.out]; simp only [ofRow]; have HS1 := HS.out.quiet hb; clear HS hb; have HS := Aside0.mk HS1; clear HS1) | ((with_reducible refine gA rfl ?_); refine sh_alloc HS.out rfl rfl (zeT _ (by decide)) ?_; clear HS; intro g w1 hg HS1; (simp only [zeF, segOf, List.toList_toArray, List.cons_append, List.nil_append] at HS1); have HS := Aside0.mk HS1; clear HS1; try simp only [Act.put, List.setIfInBounds_toArray, List.set_cons_zero, List.set_cons_succ]) | ((with_reducible refine gB rfl ?_); (first | refine sh_box HS.out rfl rfl (v := (.agg (List.toArray _))) rfl ?_ | refine sh_box HS.out rfl rfl (v := (.int _ _)) rfl ?_ | refine sh_box HS.out rfl rfl (v := (.slice _ _ _)) rfl ?_ | refine sh_box HS.out rfl rfl (v := (.bool _)) rfl ?_ | refine sh_box HS.out rfl rfl (v := (.pointer _)) rfl ?_ | refine sh_box HS.out rfl rfl (v := (.string _)) rfl ?_ | refine sh_box HS.out rfl rfl (v := (.map _)) rfl ?_ | refine sh_box HS.out rfl rfl (v := (.func _ _ _)) rfl ?_); clear HS; intro g w1 hg HS1; (simp only [segOf, List.toList_toArray, List.cons_append, List.nil_append] at HS1); have HS := Aside0.mk HS1; clear HS1; try simp only [Act.put, List.setIfInBounds_toArray, List.set_cons_zero, List.set_cons_succ]) | ((with_reducible refine gL rfl ?_); refine sh_lit HS.out rfl rfl (by go_simp; exact ⟨⟨rfl, rfl⟩, rfl⟩) ?_; clear HS; intro g w1 hg HS1; (simp only [segOf, List.toList_toArray, List.cons_append, List.nil_append] at HS1); have HS := Aside0.mk HS1; clear HS1; try simp only [Act.put, List.setIfInBounds_toArray, List.set_cons_zero, List.set_cons_succ]) | ((with_reducible refine gLd rfl ?_); (first | refine sh_load HS.out rfl rfl rfl 0 rfl ((agT _ (by decide)).trans rfl) rfl ?_); try simp only [Act.put, List.setIfInBounds_toArray, List.set_cons_zero, List.set_cons_succ]) | ((with_reducible refine gLd rfl ?_); (first | refine sh_loads HS.out rfl rfl rfl 0 rfl ((agT _ (by decide)).trans rfl) (szT _ (by decide)) (Nat.le_of_ble_eq_true rfl) ?_); (try simp only [szL, Act.put, List.setIfInBounds_toArray, List.set_cons_zero, List.set_cons_succ, List.getD_cons_zero, List.getD_cons_succ, List.drop_zero, List.drop_succ_cons, List.take_succ_cons, List.take_zero])) | ((with_reducible refine gSt rfl ?_); (first | refine sh_store HS.out rfl rfl rfl rfl 0 rfl (u := (.agg (List.toArray _))) rfl (szT _ (by decide)) rfl (Nat.le_of_ble_eq_true rfl) ?_ | refine sh_store HS.out rfl rfl rfl rfl 0 rfl (u := (.int _ _)) rfl (szT _ (by decide)) rfl (Nat.le_of_ble_eq_true rfl) ?_ | refine sh_store HS.out rfl rfl rfl rfl 0 rfl (u := (.slice _ _ _)) rfl (szT _ (by decide)) rfl (Nat.le_of_ble_eq_true rfl) ?_ | refine sh_store HS.out rfl rfl rfl rfl 0 rfl (u := (.bool _)) rfl (szT _ (by decide)) rfl (Nat.le_of_ble_eq_true rfl) ?_ | refine sh_store HS.out rfl rfl rfl rfl 0 rfl (u := (.pointer _)) rfl (szT _ (by decide)) rfl (Nat.le_of_ble_eq_true rfl) ?_ | refine sh_store HS.out rfl rfl rfl rfl 0 rfl (u := (.string _)) rfl (szT _ (by decide)) rfl (Nat.le_of_ble_eq_true rfl) ?_ | refine sh_store HS.out rfl rfl rfl rfl 0 rfl (u := (.map _)) rfl (szT _ (by decide)) rfl (Nat.le_of_ble_eq_true rfl) ?_ | refine sh_store HS.out rfl rfl rfl rfl 0 rfl (u := (.func _ _ _)) rfl (szT _ (by decide)) rfl (Nat.le_of_ble_eq_true rfl) ?_); clear HS; intro w1 HS1; (simp only [segOf, List.toList_toArray, List.set_cons_zero, List.set_cons_succ, putSeg] at HS1); have HS := Aside0.mk HS1; clear HS1; try simp only [Act.put, List.setIfInBounds_toArray, List.set_cons_zero, List.set_cons_succ]))
    go_ret
    exact ⟨⟨0, rfl, fun _ => rfl, fun h => by cases h⟩, HS.out.below⟩
  | true =>
    have HG := Aside0.mk hg
    obtain ⟨hp, h7⟩ := good_len hg
    clear hg
    go_enter Try.func26, Try.ntmps26
    go_wp2_with (first | (go_at_call 29; (with_reducible refine (of_any _ _ l _ (HR.out.sh HS.out)).mono ?_); rintro e w2 ⟨rfl, hb⟩; rw [HG.out]; simp only [ofRow]; have HS1 := HS.out.quiet hb; clear HS hb; have HS := Aside0.mk HS1; clear HS1) | ((with_reducible refine gA rfl ?_); refine sh_alloc HS.out rfl rfl (zeT _ (by decide)) ?_; clear HS; intro g w1 hg HS1; (simp only [zeF, segOf, List.toList_toArray, List.cons_append, List.nil_append] at HS1); have HS := Aside0.mk HS1; clear HS1; try simp only [Act.put, List.setIfInBounds_toArray, List.set_cons_zero, List.set_cons_succ]) | ((with_reducible refine gB rfl ?_); (first | refine sh_box HS.out rfl rfl (v := (.agg (List.toArray _))) rfl ?_ | refine sh_box HS.out rfl rfl (v := (.int _ _)) rfl ?_ | refine sh_box HS.out rfl rfl (v := (.slice _ _ _)) rfl ?_ | refine sh_box HS.out rfl rfl (v := (.bool _)) rfl ?_ | refine sh_box HS.out rfl rfl (v := (.pointer _)) rfl ?_ | refine sh_box HS.out rfl rfl (v := (.string _)) rfl ?_ | refine sh_box HS.out rfl rfl (v := (.map _)) rfl ?_ | refine sh_box HS.out rfl rfl (v := (.func _ _ _)) rfl ?_); clear HS; intro g w1 hg HS1; (simp only [segOf, List.toList_toArray, List.cons_append, List.nil_append] at HS1); have HS := Aside0.mk HS1; clear HS1; try simp only [Act.put, List.setIfInBounds_toArray, List.set_cons_zero, List.set_cons_succ]) | ((with_reducible refine gL rfl ?_); refine sh_lit HS.out rfl rfl (by go_simp; exact ⟨⟨rfl, rfl⟩, rfl⟩) ?_; clear HS; intro g w1 hg HS1; (simp only [segOf, List.toList_toArray, List.cons_append, List.nil_append] at HS1); have HS := Aside0.mk HS1; clear HS1; try simp only [Act.put, List.setIfInBounds_toArray, List.set_cons_zero, List.set_cons_succ]) | ((with_reducible refine gLd rfl ?_); (first | refine sh_load HS.out rfl rfl rfl 0 rfl ((agT _ (by decide)).trans rfl) rfl ?_); try simp only [Act.put, List.setIfInBounds_toArray, List.set_cons_zero, List.set_cons_succ]) | ((with_reducible refine gLd rfl ?_); (first | refine sh_loads HS.out rfl rfl rfl 0 rfl ((agT _ (by decide)).trans rfl) (szT _ (by decide)) (Nat.le_of_ble_eq_true rfl) ?_); (try simp only [szL, Act.put, List.setIfInBounds_toArray, List.set_cons_zero, List.set_cons_succ, List.getD_cons_zero, List.getD_cons_succ, List.drop_zero, List.drop_succ_cons, List.take_succ_cons, List.take_zero])) | ((with_reducible refine gSt rfl ?_); (first | refine sh_store HS.out rfl rfl rfl rfl 0 rfl (u := (.agg (List.toArray _))) rfl (szT _ (by decide)) rfl (Nat.le_of_ble_eq_true rfl) ?_ | refine sh_store HS.out rfl rfl rfl rfl 0 rfl (u := (.int _ _)) rfl (szT _ (by decide)) rfl (Nat.le_of_ble_eq_true rfl) ?_ | refine sh_store HS.out rfl rfl rfl rfl 0 rfl (u := (.slice _ _ _)) rfl (szT _ (by decide)) rfl (Nat.le_of_ble_eq_true rfl) ?_ | refine sh_store HS.out rfl rfl rfl rfl 0 rfl (u := (.bool _)) rfl (szT _ (by decide)) rfl (Nat.le_of_ble_eq_true rfl) ?_ | refine sh_store HS.out rfl rfl rfl rfl 0 rfl (u := (.pointer _)) rfl (szT _ (by decide)) rfl (Nat.le_of_ble_eq_true rfl) ?_ | refine sh_store HS.out rfl rfl rfl rfl 0 rfl (u := (.string _)) rfl (szT _ (by decide)) rfl (Nat.le_of_ble_eq_true rfl) ?_ | refine sh_store HS.out rfl rfl rfl rfl 0 rfl (u := (.map _)) rfl (szT _ (by decide)) rfl (Nat.le_of_ble_eq_true rfl) ?_ | refine sh_store HS.out rfl rfl rfl rfl 0 rfl (u := (.func _ _ _)) rfl (szT _ (by decide)) rfl (Nat.le_of_ble_eq_true rfl) ?_); clear HS; intro w1 HS1; (simp only [segOf, List.toList_toArray, List.set_cons_zero, List.set_cons_succ, putSeg] at HS1); have HS := Aside0.mk HS1; clear HS1; try simp only [Act.put, List.setIfInBounds_toArray, List.set_cons_zero, List.set_cons_succ]))
    have HS1 := HS.out.nil (intK .u64) 34
    clear HS
    have HS2 := HS1.pick [1] rfl (by decide)
    have HS := Aside0.mk HS2
    clear HS1 HS2
    go_loopw [7, 9, 19] (fun v7 v9 v19 wr => ∃ (k : Nat) (S : Nat → Prop), k ≤ l.length ∧ v19 = .int .i64 k ∧ Aside0 (SH w wr [row (intK .u64) 34 v7 ((l.take k).map (far m)) S])) (fun _ _ v19 _ => l.length - (intOf v19).toNat)
    case atStart => exact ⟨0, _, Nat.zero_le _, rfl, HS⟩
    case round =>
      clear HS
      obtain ⟨k, S, hk, rfl, HS⟩ := hrel
      by_cases hlt : k < l.length
      · obtain ⟨ad, rfl⟩ := HR.out.addr (by omega)
        generalize hx : l.getD k 0 = x
        have HTK := Aside0.mk (show (l.take (k + 1)).map (far m) = (l.take k).map (far m) ++ [far m x] by rw [take_succ_getD 0 hlt, List.map_append, hx]; rfl)
        have HX := Aside0.mk hx
        clear hx
        have HRR := Aside0.mk (HR.out.sh HS.out)
        have HLM := Aside0.mk (show (((l.take k).map (far m)).length + 1) * 8 ≤ 140737488355328 by rw [List.length_map, List.length_take]; omega)
        obtain ⟨fx, hfx⟩ : ∃ fx, far m x = fx := ⟨_, rfl⟩
        have HFX := Aside0.mk hfx
        clear hfx
        go_wp2_with (first | ((with_reducible refine gLd rfl ?_); refine rd_load1 (enc := Value.int .i64) HRR.out rfl rfl (i := k) rfl hlt 0 ((agT _ (by decide)).trans rfl) ?_; intro x hx; obtain rfl := HX.out.symm.trans hx; (try simp only [Act.put, List.setIfInBounds_toArray, List.set_cons_zero, List.set_cons_succ])) | ((with_reducible refine gLk rfl ?_); refine rd_lookup rfl rfl rfl (mp_sh HP.out HS.out) x rfl trivial Try.underlying33 farKeyOK zeroU64 ?_; rw [show (mget m x).getD 0 = fx from HFX.out]; (try simp only [Act.put, List.setIfInBounds_toArray, List.set_cons_zero, List.set_cons_succ])) | ((with_reducible refine gC (b := .append) rfl ?_); refine sh_append HS.out rfl rfl rfl 0 rfl rfl (Rd.one (ints_len .u64) fx (HS.out.blk 1 rfl)) Try.underlying32 infoU64 rfl (by decide) (by decide) HLM.out ?_; clear HS; intro v1 w1 S1 HS1; (simp only [List.set_cons_zero, List.set_cons_succ] at HS1); have HS := Aside0.mk HS1; clear HS1; try simp only [Act.put, List.setIfInBounds_toArray, List.set_cons_zero, List.set_cons_succ]) | ((with_reducible refine gA rfl ?_); refine sh_alloc HS.out rfl rfl (zeT _ (by decide)) ?_; clear HS; intro g w1 hg HS1; (simp only [zeF, segOf, List.toList_toArray, List.cons_append, List.nil_append] at HS1); have HS := Aside0.mk HS1; clear HS1; try simp only [Act.put, List.setIfInBounds_toArray, List.set_cons_zero, List.set_cons_succ]) | ((with_reducible refine gB rfl ?_); (first | refine sh_box HS.out rfl rfl (v := (.agg (List.toArray _))) rfl ?_ | refine sh_box HS.out rfl rfl (v := (.int _ _)) rfl ?_ | refine sh_box HS.out rfl rfl (v := (.slice _ _ _)) rfl ?_ | refine sh_box HS.out rfl rfl (v := (.bool _)) rfl ?_ | refine sh_box HS.out rfl rfl (v := (.pointer _)) rfl ?_ | refine sh_box HS.out rfl rfl (v := (.string _)) rfl ?_ | refine sh_box HS.out rfl rfl (v := (.map _)) rfl ?_ | refine sh_box HS.out rfl rfl (v := (.func _ _ _)) rfl ?_); clear HS; intro g w1 hg HS1; (simp only [segOf, List.toList_toArray, List.cons_append, List.nil_append] at HS1); have HS := Aside0.mk HS1; clear HS1; try simp only [Act.put, List.setIfInBounds_toArray, List.set_cons_zero, List.set_cons_succ]) | ((with_reducible refine gL rfl ?_); refine sh_lit HS.out rfl rfl (by go_simp; exact ⟨⟨rfl, rfl⟩, rfl⟩) ?_; clear HS; intro g w1 hg HS1; (simp only [segOf, List.toList_toArray, List.cons_append, List.nil_append] at HS1); have HS := Aside0.mk HS1; clear HS1; try simp only [Act.put, List.setIfInBounds_toArray, List.set_cons_zero, List.set_cons_succ]) | ((with_reducible refine gLd rfl ?_); (first | refine sh_load HS.out rfl rfl rfl 0 rfl ((agT _ (by decide)).trans rfl) rfl ?_); try simp only [Act.put, List.setIfInBounds_toArray, List.set_cons_zero, List.set_cons_succ]) | ((with_reducible refine gLd rfl ?_); (first | refine sh_loads HS.out rfl rfl rfl 0 rfl ((agT _ (by decide)).trans rfl) (szT _ (by decide)) (Nat.le_of_ble_eq_true rfl) ?_); (try simp only [szL, Act.put, List.setIfInBounds_toArray, List.set_cons_zero, List.set_cons_succ, List.getD_cons_zero, List.getD_cons_succ, List.drop_zero, List.drop_succ_cons, List.take_succ_cons, List.take_zero])) | ((with_reducible refine gSt rfl ?_); (first | refine sh_store HS.out rfl rfl rfl rfl 0 rfl (u := (.agg (List.toArray _))) rfl (szT _ (by decide)) rfl (Nat.le_of_ble_eq_true rfl) ?_ | refine sh_store HS.out rfl rfl rfl rfl 0 rfl (u := (.int _ _)) rfl (szT _ (by decide)) rfl (Nat.le_of_ble_eq_true rfl) ?_ | refine sh_store HS.out rfl rfl rfl rfl 0 rfl (u := (.slice _ _ _)) rfl (szT _ (by decide)) rfl (Nat.le_of_ble_eq_true rfl) ?_ | refine sh_store HS.out rfl rfl rfl rfl 0 rfl (u := (.bool _)) rfl (szT _ (by decide)) rfl (Nat.le_of_ble_eq_true rfl) ?_ | refine sh_store HS.out rfl rfl rfl rfl 0 rfl (u := (.pointer _)) rfl (szT _ (by decide)) rfl (Nat.le_of_ble_eq_true rfl) ?_ | refine sh_store HS.out rfl rfl rfl rfl 0 rfl (u := (.string _)) rfl (szT _ (by decide)) rfl (Nat.le_of_ble_eq_true rfl) ?_ | refine sh_store HS.out rfl rfl rfl rfl 0 rfl (u := (.map _)) rfl (szT _ (by decide)) rfl (Nat.le_of_ble_eq_true rfl) ?_ | refine sh_store HS.out rfl rfl rfl rfl 0 rfl (u := (.func _ _ _)) rfl (szT _ (by decide)) rfl (Nat.le_of_ble_eq_true rfl) ?_); clear HS; intro w1 HS1; (simp only [segOf, List.toList_toArray, List.set_cons_zero, List.set_cons_succ, putSeg] at HS1); have HS := Aside0.mk HS1; clear HS1; try simp only [Act.put, List.setIfInBounds_toArray, List.set_cons_zero, List.set_cons_succ]))
        go_roundw
        case rel => exact ⟨k + 1, _, by omega, by go_num, ⟨by rw [HTK.out, HFX.out]; exact HS.out.pick [0] rfl (by decide)⟩⟩
        case measure => simp [intOf]; omega
      · obtain rfl : k = l.length := by omega
        obtain ⟨p, hpl⟩ : ∃ p, l.length = p + 1 := ⟨l.length - 1, by omega⟩
        have HPL := Aside0.mk hpl
        clear hpl
        obtain ⟨A0, c0, rfl, hcc, _⟩ := row_rd HS.out 0 rfl
        rw [List.take_length] at HS hcc
        obtain ⟨g, cs, rfl, -, hcl, hcs, HS3⟩ := HS.out.rowBlk (k := .u64) 0 rfl (by rw [List.length_map]; omega)
        rw [List.length_map] at hcl hcs
        simp only [List.set_cons_zero] at HS3
        clear HS
        have HS := Aside0.mk HS3
        have HSORT := Aside0.mk (fun (w1 : World) (HS0 : SH w w1 [blk g cs 34]) => sort_any g cs (l.map (far m)) c0 w1 HS0 ⟨by rw [List.length_map]; exact hcl, by rw [List.length_map]; exact hcs⟩ hcc (by rw [List.length_map]; exact h7))
        clear HS3 hcs hcl hcc
        rw [List.take_length]
        rw [List.length_map] at HSORT ⊢
        go_upto_region 11 with (first | (go_at_call 34; (with_reducible refine (HSORT.out _ HS.out).mono ?_); rintro e w2 ⟨cs', ys, rfl, h1, h2, h3, h4, h5⟩; have HS1 := Aside0.mk h5; clear HS h5; have HS := HS1; clear HS1; have HPS := Aside0.mk (And.intro h1 (And.intro h2 (And.intro h3 h4))); clear h1 h2 h3 h4))
        obtain ⟨hy1, hy2, hy3, hy4⟩ := HPS.out
        have hv := hy4.2 (p / 2) (by rw [hy1, List.length_map, HPL.out]; omega)
        obtain ⟨r, hr⟩ : ∃ r, ys.getD (p / 2) 0 = r := ⟨_, rfl⟩
        rw [hr] at hv
        have HV := Aside0.mk hv
        have HF := Aside0.mk (show isMid (l.map (far m)) r from ⟨ys, hy1, hy2, hy3, by rw [List.length_map, HPL.out, ← hr]; rfl⟩)
        clear hv hr hy1 hy2 hy3 hy4
        have hpl := HPL.out
        have hcs2 : p / 2 < p + 1 := by omega
        go_wp2_with (first | ((with_reducible refine gLd rfl ?_); refine sh_loadX HS.out rfl rfl (i := p / 2) rfl 0 rfl ((agT _ (by decide)).trans rfl) HV.out ?_; try simp only [Act.put, List.setIfInBounds_toArray, List.set_cons_zero, List.set_cons_succ]))
        go_ret
        exact ⟨⟨r, rfl, fun h => (by cases h), fun _ => HF.out⟩, HS.out.below⟩
end Go.Proofs.Ytkfopjonhhldnaa.Nod
