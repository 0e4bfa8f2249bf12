import Derived.Test.YtkfopjonhhldnaaNodE
namespace Go.Proofs.Ytkfopjonhhldnaa.Nod
open Go.RowKit Go.Proofs.YtkfopjonhhldnaaW.PrintWords Go.Proofs.Ytkfopjonhhldnaa.Sl
set_option linter.unusedVariables false
set_option linter.unusedSimpArgs false
/-! The library's DeleteFunc at the closure of nodes.Others. -/
/-- a list without one -/
def oth (n : Int) (l : List Int) : List Int := l.filter (fun m => !(m == n))
theorem oth_succ {n : Int} {l : List Int} {k : Nat} {x : Int} (hk : k < l.length) (hx : l.getD k 0 = x) : oth n (l.take (k + 1)) = oth n (l.take k) ++ (if x == n then [] else [x]) := by
  rw [take_succ_getD 0 hk, hx, oth, oth, List.filter_append]
  cases h : x == n <;> simp [h]
theorem oth_none {n : Int} : ∀ {l : List Int}, (∀ j, j < l.length → l.getD j 0 ≠ n) → oth n l = l
  | [], _ => rfl
  | x :: l, h => by
    have h0 := h 0 (by simp)
    have ih := oth_none (l := l) (fun j hj => by have := h (j + 1) (by simp; omega); simpa using this)
    have hx : (x == n) = false := by simpa using h0
    rw [oth] at ih ⊢
    rw [List.filter_cons, hx, ih]
    rfl
theorem oth_first {n : Int} {l : List Int} {i : Nat} (hi : i < l.length) (h : l.getD i 0 = n) (hj : ∀ j, j < i → l.getD j 0 ≠ n) : oth n (l.take (i + 1)) = l.take i := by
  rw [oth_succ hi h, if_pos (by simp), List.append_nil]
  refine oth_none fun j hj' => ?_
  rw [List.length_take] at hj'
  have := hj j (by omega)
  rw [List.getD_eq_getElem?_getD, List.getElem?_take, if_pos (by omega), ← List.getD_eq_getElem?_getD]
  exact this
theorem oth_le (n : Int) (l : List Int) : (oth n l).length ≤ l.length := List.length_filter_le _ _
theorem getD_append_l {F : List Int} {x : Int} {t : Nat} (h : t < F.length) : (F ++ [x]).getD t 0 = F.getD t 0 := by
  rw [List.getD_eq_getElem?_getD, List.getElem?_append_left h, ← List.getD_eq_getElem?_getD]
theorem getD_append_r {F : List Int} {x : Int} : (F ++ [x]).getD F.length 0 = x := by
  rw [List.getD_eq_getElem?_getD, List.getElem?_append_right (Nat.le_refl _)]
  simp
theorem infoZ : (Try.prog.info? 3).bind (·.zero) = some (.int .i64 0) := by kernel_rfl
/-- what the cells of a slice that is being cut hold -/
structure Cut (n : Int) (xs : List Int) (L j : Nat) (cs : List Value) : Prop where
  len : cs.length = L
  low : ∀ t, t < (oth n (xs.take j)).length → cs[t]? = some (.int .i64 ((oth n (xs.take j)).getD t 0))
  high : ∀ t, j ≤ t → t < xs.length → cs[t]? = some (.int .i64 (xs.getD t 0))
theorem Cut.skip {n : Int} {xs : List Int} {L j : Nat} {cs : List Value} (h : Cut n xs L j cs) (hj : j < xs.length) (hx : (xs.getD j 0 == n) = true) : Cut n xs L (j + 1) cs ∧ oth n (xs.take (j + 1)) = oth n (xs.take j) := by
  have e := oth_succ (n := n) hj rfl
  rw [if_pos hx, List.append_nil] at e
  exact ⟨⟨h.len, by rw [e]; exact h.low, fun t ht => h.high t (by omega)⟩, e⟩
theorem Cut.put {n : Int} {xs : List Int} {L j : Nat} {cs : List Value} (h : Cut n xs L j cs) (hj : j < xs.length) (hL : xs.length ≤ L) {x : Int} (hxx : xs.getD j 0 = x) (hx : (x == n) = false) :
    Cut n xs L (j + 1) (cs.set (oth n (xs.take j)).length (.int .i64 x)) ∧ (oth n (xs.take (j + 1))).length = (oth n (xs.take j)).length + 1 := by
  have e := oth_succ (n := n) hj hxx
  rw [if_neg (by rw [hx]; simp)] at e
  have hle : (oth n (xs.take j)).length ≤ j := by
    have := oth_le n (xs.take j)
    rw [List.length_take] at this
    omega
  refine ⟨⟨by rw [List.length_set, h.len], fun t ht => ?_, fun t h1 h2 => ?_⟩, by rw [e, List.length_append, List.length_singleton]⟩
  · rw [e] at ht ⊢
    rw [List.length_append, List.length_singleton] at ht
    by_cases htt : t = (oth n (xs.take j)).length
    · subst htt
      rw [getD_append_r, List.getElem?_set, if_pos rfl, if_pos (by rw [h.len]; omega)]
    · rw [getD_append_l (by omega), List.getElem?_set, if_neg (by omega)]
      exact h.low t (by omega)
  · rw [List.getElem?_set, if_neg (by omega)]
    exact h.high t (by omega) h2
set_option maxHeartbeats 800000 in
theorem del_any {w0 : World} (gn g : Nat) (n : Int) (xs : List Int) (cs : List Value) (c : Nat) (w : World) (HS0 : SH w0 w [blk gn [.int .i64 n] 3, blk g cs 3]) (hm : xs.length ≤ 9223372036854775807) (hlen : xs.length ≤ cs.length) (hcc : xs.length ≤ c)
    (hcs : ∀ i, i < xs.length → cs[i]? = some (.int .i64 (xs.getD i 0))) :
    Calls Try.prog 31 #[.slice (some ⟨g, 0, none⟩) xs.length c, .func (.func 33) #[] #[.pointer (some ⟨gn, 0, none⟩)]] w (fun e w' => ∃ cs', e = .returned (.slice (some ⟨g, 0, none⟩) (oth n xs).length c) ∧ (oth n xs).length ≤ cs'.length ∧ (∀ i, i < (oth n xs).length → cs'[i]? = some (.int .i64 ((oth n xs).getD i 0))) ∧ SH w0 w' [blk gn [.int .i64 n] 3, blk g cs' 3]) := by
  have HS := Aside0.mk HS0
  have HR := Aside0.mk (blkRd (HS0.blk 1 rfl) rfl hm hcs)
  have HC := Aside0.mk hcs
  clear HS0 hcs
  have hoth := oth_le n xs
  go_enter Try.func31, Try.ntmps31
  go_upto_region 2 with (first | (go_at_call 36; (with_reducible refine (idx_any (some ⟨g, 0, none⟩) c ⟨gn, 0, none⟩ n xs _ HR.out (Rd.one (ints_len .i64) n (HS.out.blk 0 rfl))).mono ?_); rintro e w' ⟨⟨r, rfl, hr⟩, rfl⟩))
  rcases hr with ⟨rfl, hno⟩ | ⟨i0, rfl, hi0, hfst, hpre⟩
  · go_wp2
    go_ret
    have e := oth_none hno
    exact ⟨cs, by rw [e]; rfl, by rw [e]; exact hlen, by rw [e]; exact HC.out, HS.out⟩
  · have e1 := oth_first hi0 hfst hpre
    have hl1 : (oth n (xs.take (i0 + 1))).length = i0 := by rw [e1, List.length_take]; omega
    have HCUT := Aside0.mk (show Cut n xs cs.length (i0 + 1) cs from ⟨rfl, fun t ht => by
      rw [hl1] at ht
      rw [e1, List.getD_eq_getElem?_getD, List.getElem?_take, if_pos ht, ← List.getD_eq_getElem?_getD]
      exact HC.out t (by omega), fun t _ ht => HC.out t ht⟩)
    clear HC HR
    have hne : ((i0 : Int) == -1) = false := by rw [beq_eq_false_iff_ne]; omega
    go_wp2
    go_loopw [5, 6, 7] (fun v5 v6 v7 wr => ∃ (j : Nat) (cs1 : List Value), (oth n (xs.take j)).length < j ∧ j ≤ xs.length ∧ v5 = .int .i64 (oth n (xs.take j)).length ∧ v6 = .int .i64 j ∧ Aside0 (Cut n xs cs.length j cs1) ∧ Aside0 (SH w0 wr [blk gn [.int .i64 n] 3, blk g cs1 3])) (fun _ v6 _ _ => xs.length - (intOf v6).toNat)
    case atStart => exact ⟨i0 + 1, cs, by rw [hl1]; omega, by omega, by rw [hl1], by go_num, HCUT, HS⟩
    case round =>
      clear HS HCUT
      obtain ⟨j, cs1, hij, hj, rfl, rfl, HCUT, HS⟩ := hrel
      generalize hii : (oth n (xs.take j)).length = i at *
      by_cases hlt : j < xs.length
      · generalize hx : xs.getD j 0 = x
        have hv := HCUT.out.high j (Nat.le_refl _) hlt
        rw [hx] at hv
        have HX := Aside0.mk hx
        clear hx
        have HV := Aside0.mk hv
        clear hv
        cases hb : (x == n) with
        | true =>
          have HB := Aside0.mk hb
          go_wp2_with (first | ((with_reducible refine gLd rfl ?_); refine sh_loadX HS.out rfl rfl (i := j) rfl 1 rfl ((agT _ (by decide)).trans rfl) HV.out ?_; (try simp only [Act.put, List.setIfInBounds_toArray, List.set_cons_zero, List.set_cons_succ])) | (go_at_call 33; (with_reducible refine (clos_any ⟨gn, 0, none⟩ n x _ (Rd.one (ints_len .i64) n (HS.out.blk 0 rfl))).mono ?_); rintro e w' ⟨rfl, rfl⟩; rw [HB.out]))
          go_roundw
          case rel =>
            obtain ⟨h1, h2⟩ := HCUT.out.skip hlt (by rw [HX.out]; exact HB.out)
            exact ⟨j + 1, cs1, by rw [h2, hii]; omega, by omega, by rw [h2, hii], by go_num, ⟨h1⟩, HS⟩
          case measure => simp [intOf]; omega
        | false =>
          have HB := Aside0.mk hb
          go_wp2_with (first | ((with_reducible refine gLd rfl ?_); refine sh_loadX HS.out rfl rfl (i := j) rfl 1 rfl ((agT _ (by decide)).trans rfl) HV.out ?_; (try simp only [Act.put, List.setIfInBounds_toArray, List.set_cons_zero, List.set_cons_succ])) | (go_at_call 33; (with_reducible refine (clos_any ⟨gn, 0, none⟩ n x _ (Rd.one (ints_len .i64) n (HS.out.blk 0 rfl))).mono ?_); rintro e w' ⟨rfl, rfl⟩; rw [HB.out]) | ((with_reducible refine gSt rfl ?_); refine sh_storeX HS.out rfl rfl rfl (i := i) rfl 1 rfl (u := (.int .i64 x)) rfl rfl (szT _ (by decide)) rfl (by have := HCUT.out.len; omega) ?_; clear HS; intro w1 HS1; (simp only [List.set_cons_zero, List.set_cons_succ] at HS1); have HS := Aside0.mk HS1; clear HS1; (try simp only [Act.put, List.setIfInBounds_toArray, List.set_cons_zero, List.set_cons_succ])))
          go_roundw
          case rel =>
            obtain ⟨h1, h2⟩ := HCUT.out.put hlt hlen HX.out HB.out
            rw [hii] at h1 h2
            exact ⟨j + 1, _, by rw [h2]; omega, by omega, by rw [h2]; go_num, by go_num, ⟨h1⟩, HS⟩
          case measure => simp [intOf]; omega
      · obtain rfl : j = xs.length := by omega
        go_wp2_with (first | ((with_reducible refine gC (b := .clear) rfl ?_); refine sh_clear HS.out rfl rfl (i := i) (m := xs.length - i) (c := c - i) rfl 1 rfl (by have := HCUT.out.len; omega) Try.underlying22 infoZ rfl rfl ?_; clear HS; intro w1 HS1; (simp only [List.set_cons_zero, List.set_cons_succ] at HS1); have HS := Aside0.mk HS1; clear HS1; (try simp only [Act.put, List.setIfInBounds_toArray, List.set_cons_zero, List.set_cons_succ])))
        go_ret
        have hfin : (oth n xs).length = i := by rw [← hii, List.take_length]
        have hF := HCUT.out.low
        have hL := HCUT.out.len
        rw [List.take_length, hfin] at hF
        refine ⟨putSeg cs1 i (List.replicate (xs.length - i) (.int .i64 0)), ?_, ?_, ?_, HS.out⟩
        · rw [hfin]; rfl
        · rw [putSeg_eq _ _ _ (by simp; omega)]
          simp; omega
        · intro t ht
          rw [hfin] at ht
          rw [putSeg_eq _ _ _ (by simp; omega), List.append_assoc, List.getElem?_append_left (by rw [List.length_take]; omega), List.getElem?_take, if_pos ht]
          exact hF t ht
end Go.Proofs.Ytkfopjonhhldnaa.Nod
