import Derived.Test.YtkfopjonhhldnaaNodK
namespace Go.Proofs.Ytkfopjonhhldnaa.Nod
open Go.RowKit Go.Proofs.YtkfopjonhhldnaaW.PrintWords Go.Proofs.Ytkfopjonhhldnaa.Sl
set_option linter.unusedVariables false
set_option linter.unusedSimpArgs false
/-! How far more than half have come, by the document. -/
def bestStep (xs : List Int) (b x : Int) : Int := if xs.length < 2 * xs.countP (fun y => decide (x ≤ y)) then (if b < x then x else b) else b
def bestOf (xs : List Int) : Int := xs.foldl (bestStep xs) 0
theorem countP_take_succ {l : List Int} {k : Nat} {x : Int} (p : Int → Bool) (hk : k < l.length) (hx : l.getD k 0 = x) : (l.take (k + 1)).countP p = (l.take k).countP p + (if p x then 1 else 0) := by
  rw [take_succ_getD 0 hk, List.countP_append, hx, List.countP_singleton]
theorem getD_map_far {l : List Int} {m : FarM} {k : Nat} {x : Int} (hk : k < l.length) (hx : l.getD k 0 = x) : (l.map (far m)).getD k 0 = far m x := by
  rw [List.getD_eq_getElem?_getD, List.getElem?_map, List.getElem?_eq_getElem hk]
  rw [List.getD_eq_getElem?_getD, List.getElem?_eq_getElem hk, Option.getD_some] at hx
  rw [hx]
  rfl
set_option maxHeartbeats 1600000 in
set_option maxRecDepth 100000 in
theorem refMid_any (A : Option Addr) (c gm : Nat) (l : List Int) (m : FarM) (w : World) {N : Nat} (hr : Rd (ints .i64) 1 w A N l) (hmp : (FarI gm m).ok w) :
    Calls Try.prog 27 #[.slice A N c, .map (some gm)] w (fun e w' => e = .returned (.int .u64 (if good l then bestOf (l.map (far m)) else 0)) ∧ Below w.heap.size w w') := by
  obtain rfl := hr.len.1
  have hm := hr.len.2
  have HR := Aside0.mk hr
  have HP := Aside0.mk hmp
  clear hr hmp
  have HS := Aside0.mk (SH.start w)
  cases hg : good l with
  | false =>
    have HG := Aside0.mk hg
    clear hg
    go_enter Try.func27, Try.ntmps27
    go_wp2_with (first | (go_at_call 16; (with_reducible refine (refCheck_any _ _ l _ (HR.out.sh HS.out)).mono ?_); rintro e w2 ⟨rfl, rfl⟩; rw [HG.out]; skip))
    go_ret
    exact ⟨rfl, HS.out.below⟩
  | true =>
    have HG := Aside0.mk hg
    obtain ⟨xs, hxs⟩ : ∃ xs, l.map (far m) = xs := ⟨_, rfl⟩
    have hxl : xs.length = l.length := by rw [← hxs, List.length_map]
    have HXL := Aside0.mk hxl
    have HXG := Aside0.mk (show ∀ k x, k < l.length → l.getD k 0 = x → xs.getD k 0 = far m x from fun k x hk hx => by rw [← hxs]; exact getD_map_far hk hx)
    have h7 := (good_len hg).2
    obtain ⟨res, hres⟩ : ∃ r, bestOf xs = r := ⟨_, rfl⟩
    rw [hxs, hres]
    have HRES := Aside0.mk hres
    clear hg hxs hxl hres
    go_enter Try.func27, Try.ntmps27
    go_wp2_with (first | (go_at_call 16; (with_reducible refine (refCheck_any _ _ l _ (HR.out.sh HS.out)).mono ?_); rintro e w2 ⟨rfl, rfl⟩; rw [HG.out]; skip))
    go_loopw [5, 7, 8, 9, 11, 17] (fun v5 v7 v8 v9 v11 v17 wr => ∃ (k : Nat) (b : Int), k ≤ l.length ∧ v17 = .int .i64 k ∧ v5 = .int .u64 b ∧ Aside0 ((xs.take k).foldl (bestStep xs) 0 = b) ∧ Aside0 (SH w wr [])) (fun _ _ _ _ _ v17 _ => l.length - (intOf v17).toNat)
    case atStart => exact ⟨0, 0, Nat.zero_le _, rfl, rfl, ⟨rfl⟩, HS⟩
    case round =>
      clear HS
      obtain ⟨k, b, hk, rfl, rfl, HB, HS⟩ := hrel
      by_cases hlt : k < l.length
      · obtain ⟨ad, rfl⟩ := HR.out.addr (by omega)
        generalize hx : l.getD k 0 = x
        obtain ⟨fx, hfx⟩ : ∃ fx, far m x = fx := ⟨_, rfl⟩
        have HTK := Aside0.mk (show (xs.take (k + 1)).foldl (bestStep xs) 0 = bestStep xs b fx by
          rw [take_succ_getD 0 (by rw [HXL.out]; exact hlt), List.foldl_append, HB.out, HXG.out k x hlt hx, hfx]
          rfl)
        have HX := Aside0.mk hx
        have HFX := Aside0.mk hfx
        clear hx hfx
        have HRR := Aside0.mk (HR.out.sh HS.out)
        go_wp2_with (first | ((with_reducible refine gLd rfl ?_); refine rd_load1 (enc := Value.int .i64) HRR.out rfl rfl (i := k) rfl hlt 0 ((agT _ (by decide)).trans rfl) ?_; intro x hx; obtain rfl := HX.out.symm.trans hx; (try simp only [Act.put, List.setIfInBounds_toArray, List.set_cons_zero, List.set_cons_succ])) | ((with_reducible refine gLk rfl ?_); refine rd_lookup rfl rfl rfl (mp_sh HP.out HS.out) x rfl trivial Try.underlying33 farKeyOK zeroU64 ?_; rw [show (mget m x).getD 0 = fx from HFX.out]; (try simp only [Act.put, List.setIfInBounds_toArray, List.set_cons_zero, List.set_cons_succ])))
        go_loopw [9, 11, 26] (fun v9 v11 v26 wr => ∃ (j cnt : Nat), j ≤ l.length ∧ cnt ≤ j ∧ v26 = .int .i64 j ∧ v9 = .int .i64 cnt ∧ Aside0 ((xs.take j).countP (fun y => decide (fx ≤ y)) = cnt) ∧ Aside0 (SH w wr [])) (fun _ _ v26 _ => l.length - (intOf v26).toNat)
        case atStart => exact ⟨0, 0, Nat.zero_le _, Nat.le_refl _, rfl, rfl, ⟨rfl⟩, HS⟩
        case round =>
          clear HS HRR
          obtain ⟨j, cnt, hj, hcj, rfl, rfl, HCN, HS⟩ := hrel
          by_cases hjl : j < l.length
          · generalize hy : l.getD j 0 = y
            obtain ⟨fy, hfy⟩ : ∃ fy, far m y = fy := ⟨_, rfl⟩
            have HCT := Aside0.mk (show (xs.take (j + 1)).countP (fun y => decide (fx ≤ y)) = cnt + (if decide (fx ≤ fy) then 1 else 0) by
              rw [countP_take_succ _ (by rw [HXL.out]; exact hjl) (HXG.out j y hjl hy), HCN.out, hfy])
            have HY := Aside0.mk hy
            have HFY := Aside0.mk hfy
            clear hy hfy
            have HRR := Aside0.mk (HR.out.sh HS.out)
            cases hd : decide (fx ≤ fy)
            all_goals
              have hct := HCT.out
              rw [hd] at hct
              have HC2 := Aside0.mk hct
              clear hct
              go_wp2_with (first | ((with_reducible refine gLd rfl ?_); refine rd_load1 (enc := Value.int .i64) HRR.out rfl rfl (i := j) rfl hjl 0 ((agT _ (by decide)).trans rfl) ?_; intro x hx; obtain rfl := HY.out.symm.trans hx; (try simp only [Act.put, List.setIfInBounds_toArray, List.set_cons_zero, List.set_cons_succ])) | ((with_reducible refine gLk rfl ?_); refine rd_lookup rfl rfl rfl (mp_sh HP.out HS.out) y rfl trivial Try.underlying33 farKeyOK zeroU64 ?_; rw [show (mget m y).getD 0 = fy from HFY.out]; (try simp only [Act.put, List.setIfInBounds_toArray, List.set_cons_zero, List.set_cons_succ])))
              go_roundw
              case rel => first | exact ⟨j + 1, cnt, by omega, by omega, by go_num, rfl, ⟨HC2.out⟩, HS⟩ | exact ⟨j + 1, cnt + 1, by omega, by omega, by go_num, by go_num, ⟨HC2.out⟩, HS⟩
              case measure => simp [intOf]; omega
          · obtain rfl : j = l.length := by omega
            have hcn := HCN.out
            rw [← HXL.out, List.take_length] at hcn
            have HST := Aside0.mk (show bestStep xs b fx = if l.length < 2 * cnt then (if b < fx then fx else b) else b by unfold bestStep; rw [hcn, HXL.out])
            clear hcn
            by_cases h2 : l.length < 2 * cnt
            · have f2 : decide ((l.length : Int) < 2 * (cnt : Int)) = true := by rw [decide_eq_true_eq]; omega
              have HS3 := Aside0.mk (show (xs.take (k + 1)).foldl (bestStep xs) 0 = (if b < fx then fx else b) by rw [HTK.out, HST.out, if_pos h2])
              go_wp2
              go_roundw
              case rel => exact ⟨k + 1, _, by omega, by go_num, rfl, HS3, HS⟩
              case measure => simp [intOf]; omega
            · have f2 : decide ((l.length : Int) < 2 * (cnt : Int)) = false := by rw [decide_eq_false_iff_not]; omega
              have HS3 := Aside0.mk (show (xs.take (k + 1)).foldl (bestStep xs) 0 = b by rw [HTK.out, HST.out, if_neg h2])
              go_wp2
              go_roundw
              case rel => exact ⟨k + 1, _, by omega, by go_num, rfl, HS3, HS⟩
              case measure => simp [intOf]; omega
      · obtain rfl : k = l.length := by omega
        have hb := HB.out
        rw [← HXL.out, List.take_length] at hb
        have HF := Aside0.mk (show b = res from hb.symm.trans HRES.out)
        clear hb
        go_wp2
        go_ret
        exact ⟨by rw [← HF.out]; rfl, HS.out.below⟩
end Go.Proofs.Ytkfopjonhhldnaa.Nod
