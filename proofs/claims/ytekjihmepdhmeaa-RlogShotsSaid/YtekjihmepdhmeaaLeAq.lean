/- Lemmas towards the law: what of the text LeA it needs. -/
import Derived.Test.YtekjihmepdhmeaaLec1q
import Derived.Test.YtekjihmepdhmeaaSlXq
import Derived.Deep.DeepCutAuto
import Derived.IntWalk
namespace Go.Proofs.Ytekjihmepdhmeaa.Led
open Go.RowKit Go.Proofs.YtekjihmepdhmeaaW.PrintWords Go.Proofs.Ytekjihmepdhmeaa.Sl
set_option linter.unusedVariables false
set_option linter.unusedSimpArgs false
def cmpI (x y : Int) : Int := if x < y then -1 else if y < x then 1 else 0
theorem cmpI_lt (x y : Int) : decide (cmpI x y < 0) = decide (x < y) := by
  unfold cmpI
  by_cases h : x < y
  · simp [h]
  · by_cases h2 : y < x <;> simp [h, h2]
theorem cmpI_eq (x y : Int) : (cmpI x y == 0) = decide (x = y) := by
  unfold cmpI
  by_cases h : x < y
  · simp [h]; omega
  · by_cases h2 : y < x
    · simp [h, h2]; omega
    · simp [h, h2]; omega
theorem isNaN_int (x : Int) (w : World) : Calls Try.prog 99 #[.int .i64 x] w (fun e w' => e = .returned (.bool false) ∧ Below w.heap.size w w') := by
  have HS := Aside0.mk (SH.start w)
  go_enter Try.func99, Try.ntmps99
  go_wp2
  go_ret
  exact ⟨by first | rfl | simp, HS.out.below⟩
theorem cmp_int (x y : Int) (w : World) : Calls Try.prog 80 #[.int .i64 x, .int .i64 y] w (fun e w' => e = .returned (.int .i64 (cmpI x y)) ∧ Below w.heap.size w w') := by
  have HS := Aside0.mk (SH.start w)
  have key : (decide (x < y) = true ∧ decide (y < x) = false ∧ cmpI x y = -1) ∨ (decide (x < y) = false ∧ decide (y < x) = true ∧ cmpI x y = 1) ∨ (decide (x < y) = false ∧ decide (y < x) = false ∧ cmpI x y = 0) := by
    unfold cmpI
    by_cases h : x < y
    · exact .inl ⟨decide_eq_true h, decide_eq_false (by omega), if_pos h⟩
    · by_cases h2 : y < x
      · exact .inr (.inl ⟨decide_eq_false h, decide_eq_true h2, by rw [if_neg h, if_pos h2]⟩)
      · exact .inr (.inr ⟨decide_eq_false h, decide_eq_false h2, by rw [if_neg h, if_neg h2]⟩)
  generalize cmpI x y = r at key ⊢
  rcases key with ⟨h1, h2, rfl⟩ | ⟨h1, h2, rfl⟩ | ⟨h1, h2, rfl⟩
  all_goals
    go_enter Try.func80, Try.ntmps80
    go_wp2_with (first | (go_at_call 99; (with_reducible refine (isNaN_int _ _).mono ?_); rintro e w2 ⟨rfl, hb⟩;  have HS1 := HS.out.quiet hb; clear HS hb; have HS := Aside0.mk HS1; clear HS1))
    go_ret
    exact ⟨rfl, HS.out.below⟩
theorem isNaN_uint64 (x : Int) (w : World) : Calls Try.prog 100 #[.int .u64 x] w (fun e w' => e = .returned (.bool false) ∧ Below w.heap.size w w') := by
  have HS := Aside0.mk (SH.start w)
  go_enter Try.func100, Try.ntmps100
  go_wp2
  go_ret
  exact ⟨by first | rfl | simp, HS.out.below⟩
theorem cmp_uint64 (x y : Int) (w : World) : Calls Try.prog 82 #[.int .u64 x, .int .u64 y] w (fun e w' => e = .returned (.int .i64 (cmpI x y)) ∧ Below w.heap.size w w') := by
  have HS := Aside0.mk (SH.start w)
  have key : (decide (x < y) = true ∧ decide (y < x) = false ∧ cmpI x y = -1) ∨ (decide (x < y) = false ∧ decide (y < x) = true ∧ cmpI x y = 1) ∨ (decide (x < y) = false ∧ decide (y < x) = false ∧ cmpI x y = 0) := by
    unfold cmpI
    by_cases h : x < y
    · exact .inl ⟨decide_eq_true h, decide_eq_false (by omega), if_pos h⟩
    · by_cases h2 : y < x
      · exact .inr (.inl ⟨decide_eq_false h, decide_eq_true h2, by rw [if_neg h, if_pos h2]⟩)
      · exact .inr (.inr ⟨decide_eq_false h, decide_eq_false h2, by rw [if_neg h, if_neg h2]⟩)
  generalize cmpI x y = r at key ⊢
  rcases key with ⟨h1, h2, rfl⟩ | ⟨h1, h2, rfl⟩ | ⟨h1, h2, rfl⟩
  all_goals
    go_enter Try.func82, Try.ntmps82
    go_wp2_with (first | (go_at_call 100; (with_reducible refine (isNaN_uint64 _ _).mono ?_); rintro e w2 ⟨rfl, hb⟩;  have HS1 := HS.out.quiet hb; clear HS hb; have HS := Aside0.mk HS1; clear HS1))
    go_ret
    exact ⟨rfl, HS.out.below⟩
theorem cmpOr_any (A : Option Addr) (c : Nat) (x y : Int) (w : World) {N : Nat} (hr : Rd (ints .i64) 1 w A N [x, y]) : Calls Try.prog 81 #[.slice A N c] w (fun e w' => e = .returned (.int .i64 (if x = 0 then y else x)) ∧ Below w.heap.size w w') := by
  have hm := hr.len.2
  have HN := Aside0.mk (show N = 2 from hr.len.1.symm)
  obtain ⟨ad, rfl⟩ := hr.addr (by have := HN.out; omega)
  have HR := Aside0.mk hr
  clear hr
  have HS := Aside0.mk (SH.start w)
  generalize hq : (if x = 0 then y else x) = r
  have HQ := Aside0.mk hq
  clear hq
  go_enter Try.func81, Try.ntmps81
  go_wp2
  go_loopw [8] (fun v8 wr => ∃ k : Nat, k ≤ N ∧ v8 = .int .i64 k ∧ Aside0 (0 < k → x = 0) ∧ Aside0 (1 < k → y = 0) ∧ Aside0 (SH w wr [])) (fun v8 _ => N - (intOf v8).toNat)
  case atStart => exact ⟨0, Nat.zero_le _, rfl, ⟨fun h => by omega⟩, ⟨fun h => by omega⟩, HS⟩
  case round =>
    clear HS
    obtain ⟨k, hk, rfl, HX, HY, HS⟩ := hrel
    by_cases hlt : k < N
    · have HG := Aside0.mk (show [x, y].getD k 0 = if k = 0 then x else y by
        by_cases h0 : k = 0
        · subst h0; rfl
        · have hk1 : k = 1 := by have := HN.out; omega
          subst hk1; rfl)
      obtain ⟨z, hz⟩ : ∃ z, (if k = 0 then x else y) = z := ⟨_, rfl⟩
      have HZ := Aside0.mk (HG.out.trans hz)
      have HZ2 := Aside0.mk hz
      have HR1 := Aside0.mk (HR.out.sh HS.out)
      clear HG hz
      by_cases hz0 : z = 0
      · have hzb : (z == 0) = true := beq_iff_eq.2 hz0
        have HZ0 := Aside0.mk hz0
        clear hz0
        go_wp2_with (first | ((with_reducible refine gLd rfl ?_); refine rd_load1 (enc := Value.int .i64) HR1.out rfl rfl (i := k) rfl hlt 0 ((agT _ (by decide)).trans rfl) ?_; intro x hx; obtain rfl := HZ.out.symm.trans hx; (try simp only [aP, aN, aT, aZ, aS])))
        go_roundw
        case rel =>
          refine ⟨k + 1, by omega, by go_num, ⟨fun _ => ?_⟩, ⟨fun h => ?_⟩, HS⟩
          · by_cases h0 : k = 0
            · rw [← HZ0.out, ← HZ2.out, if_pos h0]
            · exact HX.out (by omega)
          · have hk1 : k = 1 := by have := HN.out; omega
            subst hk1
            rw [← HZ0.out, ← HZ2.out]; rfl
        case measure => simp [intOf]; omega
      · have hzb : (z == 0) = false := beq_eq_false_iff_ne.2 hz0
        have HZ0 := Aside0.mk hz0
        clear hz0
        go_wp2_with (first | ((with_reducible refine gLd rfl ?_); refine rd_load1 (enc := Value.int .i64) HR1.out rfl rfl (i := k) rfl hlt 0 ((agT _ (by decide)).trans rfl) ?_; intro x hx; obtain rfl := HZ.out.symm.trans hx; (try simp only [aP, aN, aT, aZ, aS])))
        go_ret
        refine ⟨?_, HS.out.below⟩
        refine congrArg (fun b => Ending.returned (Value.int .i64 b)) ?_
        rw [← HQ.out]
        by_cases h0 : k = 0
        · have : x = z := by rw [← HZ2.out, if_pos h0]
          rw [if_neg (this ▸ HZ0.out)]
          exact this.symm
        · have : y = z := by rw [← HZ2.out, if_neg h0]
          rw [if_pos (HX.out (by omega))]
          exact this.symm
    · obtain rfl : k = N := by omega
      go_wp2
      go_ret
      exact ⟨by rw [← HQ.out, if_pos (HX.out (by have := HN.out; omega)), HY.out (by have := HN.out; omega)]; rfl, HS.out.below⟩
theorem atHeld_any (h : Held) (t : Int) (w : World) : Calls Try.prog 98 #[.agg #[.int .i64 h.token, .int .i64 h.node, .int .u64 h.boot, .int .u64 h.serial, .int .u64 h.stamp], .int .i64 t] w (fun e w' => e = .returned (.int .i64 (cmpI h.token t)) ∧ Below w.heap.size w w') := by
  have HS := Aside0.mk (SH.start w)
  go_enter Try.func98, Try.ntmps98
  go_wp2_with (first | (go_at_call 80; (with_reducible refine (cmp_int _ _ _).mono ?_); rintro e w2 ⟨rfl, hb⟩;  have HS1 := HS.out.quiet hb; clear HS hb; have HS := Aside0.mk HS1; clear HS1) | ((first | ((first | ((with_reducible refine gA rfl ?_); refine sh_alloc HS.out rfl rfl (zeT _ (by decide)) ?_) | ((with_reducible refine gB rfl ?_); refine bx HS.out rfl rfl ?_; first | refine bv (v := .agg (List.toArray _)) rfl ?_ | refine bv (v := .int _ _) rfl ?_ | refine bv (v := .slice _ _ _) rfl ?_ | refine bv (v := .bool _) rfl ?_ | refine bv (v := .pointer _) rfl ?_) | ((with_reducible refine gL rfl ?_); refine sh_lit HS.out rfl rfl (by go_simp; exact ⟨⟨rfl, rfl⟩, rfl⟩) ?_)); clear HS; intro g w1 hg HS1; (simp only [Held.enc, Last.enc, zeF, segOf, aL, aC, aE] at HS1); have HS := Aside0.mk HS1; clear HS1) | ((with_reducible refine gLd rfl ?_); refine ld2 HS.out rfl rfl rfl (by repeat (first | exact AtI.here | apply AtI.there)) ?_; (first | refine LdK.one ((agT _ (by decide)).trans rfl) rfl ?_ | (refine LdK.agg ((agT _ (by decide)).trans rfl) (szT _ (by decide)) (lb rfl) ?_; try simp only [szL, aP, aN, aT, aZ, aS, aD, aF, aJ, aK, aM, aO]))) | ((with_reducible refine gSt rfl ?_); refine st2 HS.out rfl rfl rfl rfl (by repeat (first | exact AtI.here | apply AtI.there)) ?_; (first | refine sv (u := .agg (List.toArray _)) rfl ?_ | refine sv (u := .int _ _) rfl ?_ | refine sv (u := .slice _ _ _) rfl ?_ | refine sv (u := .bool _) rfl ?_ | refine sv (u := .pointer _) rfl ?_); refine sw (szT _ (by decide)) rfl (lb rfl) ?_; clear HS; intro w1 HS1; (simp only [Held.enc, Last.enc, segOf, aL, aZ, aS, putSeg] at HS1); have HS := Aside0.mk HS1; clear HS1)); try simp only [aP, aN, aT, aZ, aS]))
  go_ret
  exact ⟨rfl, HS.out.below⟩
/-- where it stands, or would stand -/
def posHeld (l : List Held) (t : Int) : Nat := (l.takeWhile (fun h => decide (h.token < t))).length
def isHeld (l : List Held) (t : Int) : Bool := decide (posHeld l t < l.length) && decide ((l.getD (posHeld l t) default).token = t)
def srtHeld (l : List Held) : Prop := ∀ p q, p < q → q < l.length → (l.getD p default).token < (l.getD q default).token
theorem posHeld_eq (l : List Held) (t : Int) (k : Nat) (hk : k ≤ l.length) (h1 : ∀ p, p < k → (l.getD p default).token < t) (h2 : ∀ p, k ≤ p → p < l.length → t ≤ (l.getD p default).token) : posHeld l t = k := by
  unfold posHeld
  have e : l = l.take k ++ l.drop k := (List.take_append_drop k l).symm
  have ha : ∀ x ∈ l.take k, decide (x.token < t) = true := fun x hx => by
    obtain ⟨i, hi⟩ := List.getElem?_of_mem hx
    rw [List.getElem?_take] at hi
    split at hi
    · rename_i hlt
      have := h1 i hlt
      rw [List.getD_eq_getElem?_getD, hi] at this
      exact decide_eq_true this
    · cases hi
  rw [e, List.takeWhile_append_of_pos ha, List.length_append, List.length_take, Nat.min_eq_left hk]
  have hb : (l.drop k).takeWhile (fun h => decide (h.token < t)) = [] := by
    rcases Nat.lt_or_ge k l.length with hlt | hge
    · rw [List.drop_eq_getElem_cons hlt, List.takeWhile_cons]
      have := h2 k (Nat.le_refl _) hlt
      rw [List.getD_eq_getElem?_getD, List.getElem?_eq_getElem hlt, Option.getD_some] at this
      rw [if_neg (by simpa using this)]
    · rw [List.drop_eq_nil_of_le hge]; rfl
  rw [hb]
  simp
set_option maxHeartbeats 1600000 in
theorem bsHeld_any (A : Option Addr) (c n : Nat) (l : List Held) (t : Int) (w : World) (hr : Rd Held.enc 5 w A n l) (hn : n ≤ 1000000) (hs : srtHeld l) :
    Calls Try.prog 97 #[.slice A n c, .int .i64 t, .func (.func 98) #[] #[]] w (fun e w' => e = .returned (.tuple #[.int .i64 (posHeld l t), .bool (isHeld l t)]) ∧ Below w.heap.size w w') := by
  have HL := Aside0.mk hr.len.1
  have HR := Aside0.mk hr
  have HST := Aside0.mk hs
  clear hr hs
  have HS := Aside0.mk (SH.start w)
  go_enter Try.func97, Try.ntmps97
  go_wp2
  go_loopw [9, 10] (fun v9 v10 wr => ∃ i j : Nat, i ≤ j ∧ j ≤ n ∧ v9 = .int .i64 i ∧ v10 = .int .i64 j ∧ Aside0 (∀ p, p < i → (l.getD p default).token < t) ∧ Aside0 (∀ p, j ≤ p → p < n → t ≤ (l.getD p default).token) ∧ Aside0 (SH w wr [])) (fun v9 v10 _ => (intOf v10).toNat - (intOf v9).toNat)
  case atStart => exact ⟨0, n, Nat.zero_le _, Nat.le_refl _, rfl, rfl, ⟨fun p h => by omega⟩, ⟨fun p h1 h2 => by omega⟩, HS⟩
  case round =>
    clear HS
    obtain ⟨i, j, hij, hjn, rfl, rfl, HI, HJ, HS⟩ := hrel
    by_cases hlt : i < j
    · have hm1 : i ≤ (i + j) / 2 := by omega
      have hm2 : (i + j) / 2 < j := by omega
      have hmn : (i + j) / 2 < n := by omega
      obtain ⟨ad, rfl⟩ := HR.out.addr (by omega)
      obtain ⟨x, hx⟩ : ∃ x, l.getD ((i + j) / 2) default = x := ⟨_, rfl⟩
      have HX := Aside0.mk hx
      have HR1 := Aside0.mk (HR.out.sh HS.out)
      clear hx
      obtain ⟨b, hb⟩ : ∃ b, cmpI x.token t = b := ⟨_, rfl⟩
      have HB := Aside0.mk hb
      clear hb
      by_cases hb0 : b < 0
      · have HB0 := Aside0.mk (show x.token < t by have := cmpI_lt x.token t; rw [HB.out, decide_eq_true hb0] at this; exact of_decide_eq_true this.symm)
        go_wp2_with (first | (go_at_call 98; (with_reducible refine (atHeld_any _ _ _).mono ?_); rintro e w2 ⟨rfl, hb⟩; rw [HB.out]; have HS1 := HS.out.quiet hb; clear HS hb; have HS := Aside0.mk HS1; clear HS1) | ((with_reducible refine gLd rfl ?_); refine rd_load HR1.out rfl rfl (i := (i + j) / 2) rfl hmn default Held.len ((agT _ (by decide)).trans rfl) (szT _ (by decide)) ?_; intro x hx; obtain rfl := HX.out.symm.trans hx; (try simp only [Held.enc, Last.enc, aP, aN, aT, aZ, aS])))
        go_roundw
        case rel =>
          refine ⟨(i + j) / 2 + 1, j, by omega, hjn, by go_num, rfl, ⟨fun p hp => ?_⟩, HJ, HS⟩
          by_cases hpm : p = (i + j) / 2
          · subst hpm
            rw [HX.out]; exact HB0.out
          · have := HST.out p ((i + j) / 2) (by omega) (by rw [HL.out]; exact hmn)
            rw [HX.out] at this
            have := HB0.out
            omega
        case measure => simp [intOf]; omega
      · have HB0 := Aside0.mk (show ¬ x.token < t by have := cmpI_lt x.token t; rw [HB.out, decide_eq_false hb0] at this; exact of_decide_eq_false this.symm)
        go_wp2_with (first | (go_at_call 98; (with_reducible refine (atHeld_any _ _ _).mono ?_); rintro e w2 ⟨rfl, hb⟩; rw [HB.out]; have HS1 := HS.out.quiet hb; clear HS hb; have HS := Aside0.mk HS1; clear HS1) | ((with_reducible refine gLd rfl ?_); refine rd_load HR1.out rfl rfl (i := (i + j) / 2) rfl hmn default Held.len ((agT _ (by decide)).trans rfl) (szT _ (by decide)) ?_; intro x hx; obtain rfl := HX.out.symm.trans hx; (try simp only [Held.enc, Last.enc, aP, aN, aT, aZ, aS])))
        go_roundw
        case rel =>
          refine ⟨i, (i + j) / 2, by omega, by omega, rfl, rfl, HI, ⟨fun p h1 h2 => ?_⟩, HS⟩
          by_cases hpm : p = (i + j) / 2
          · subst hpm
            rw [HX.out]; have := HB0.out; omega
          · have := HST.out ((i + j) / 2) p (by omega) (by rw [HL.out]; exact h2)
            rw [HX.out] at this
            have := HB0.out
            omega
        case measure => simp [intOf]; omega
    · obtain rfl : i = j := by omega
      have HP := Aside0.mk (posHeld_eq l t i (by rw [HL.out]; exact hjn) HI.out (fun p h1 h2 => HJ.out p h1 (by rw [← HL.out]; exact h2)))
      by_cases hin : i < n
      · obtain ⟨ad, rfl⟩ := HR.out.addr (by omega)
        obtain ⟨x, hx⟩ : ∃ x, l.getD i default = x := ⟨_, rfl⟩
        have HX := Aside0.mk hx
        have HR1 := Aside0.mk (HR.out.sh HS.out)
        clear hx
        obtain ⟨b, hb⟩ : ∃ b, cmpI x.token t = b := ⟨_, rfl⟩
        have HB := Aside0.mk hb
        clear hb
        go_wp2_with (first | (go_at_call 98; (with_reducible refine (atHeld_any _ _ _).mono ?_); rintro e w2 ⟨rfl, hb⟩; rw [HB.out]; have HS1 := HS.out.quiet hb; clear HS hb; have HS := Aside0.mk HS1; clear HS1) | ((with_reducible refine gLd rfl ?_); refine rd_load HR1.out rfl rfl (i := i) rfl hin default Held.len ((agT _ (by decide)).trans rfl) (szT _ (by decide)) ?_; intro x hx; obtain rfl := HX.out.symm.trans hx; (try simp only [Held.enc, Last.enc, aP, aN, aT, aZ, aS])))
        go_ret2
        refine ⟨?_, HS.out.below⟩
        unfold isHeld
        rw [HP.out, HX.out, HL.out, decide_eq_true hin]
        have := cmpI_eq x.token t
        rw [HB.out] at this
        simp [this]
      · go_wp2
        go_ret2
        refine ⟨?_, HS.out.below⟩
        unfold isHeld
        rw [HP.out, HL.out, decide_eq_false hin]
        rfl
theorem atLast_any (h : Last) (t : Int) (w : World) : Calls Try.prog 79 #[.agg #[.int .i64 h.node, .int .u64 h.boot, .int .u64 h.seq, .int .i64 h.ans.code, .int .i64 h.ans.token, .int .u64 h.ans.serial], .int .i64 t] w (fun e w' => e = .returned (.int .i64 (cmpI h.node t)) ∧ Below w.heap.size w w') := by
  have HS := Aside0.mk (SH.start w)
  go_enter Try.func79, Try.ntmps79
  go_wp2_with (first | (go_at_call 80; (with_reducible refine (cmp_int _ _ _).mono ?_); rintro e w2 ⟨rfl, hb⟩;  have HS1 := HS.out.quiet hb; clear HS hb; have HS := Aside0.mk HS1; clear HS1) | ((first | ((first | ((with_reducible refine gA rfl ?_); refine sh_alloc HS.out rfl rfl (zeT _ (by decide)) ?_) | ((with_reducible refine gB rfl ?_); refine bx HS.out rfl rfl ?_; first | refine bv (v := .agg (List.toArray _)) rfl ?_ | refine bv (v := .int _ _) rfl ?_ | refine bv (v := .slice _ _ _) rfl ?_ | refine bv (v := .bool _) rfl ?_ | refine bv (v := .pointer _) rfl ?_) | ((with_reducible refine gL rfl ?_); refine sh_lit HS.out rfl rfl (by go_simp; exact ⟨⟨rfl, rfl⟩, rfl⟩) ?_)); clear HS; intro g w1 hg HS1; (simp only [Held.enc, Last.enc, zeF, segOf, aL, aC, aE] at HS1); have HS := Aside0.mk HS1; clear HS1) | ((with_reducible refine gLd rfl ?_); refine ld2 HS.out rfl rfl rfl (by repeat (first | exact AtI.here | apply AtI.there)) ?_; (first | refine LdK.one ((agT _ (by decide)).trans rfl) rfl ?_ | (refine LdK.agg ((agT _ (by decide)).trans rfl) (szT _ (by decide)) (lb rfl) ?_; try simp only [szL, aP, aN, aT, aZ, aS, aD, aF, aJ, aK, aM, aO]))) | ((with_reducible refine gSt rfl ?_); refine st2 HS.out rfl rfl rfl rfl (by repeat (first | exact AtI.here | apply AtI.there)) ?_; (first | refine sv (u := .agg (List.toArray _)) rfl ?_ | refine sv (u := .int _ _) rfl ?_ | refine sv (u := .slice _ _ _) rfl ?_ | refine sv (u := .bool _) rfl ?_ | refine sv (u := .pointer _) rfl ?_); refine sw (szT _ (by decide)) rfl (lb rfl) ?_; clear HS; intro w1 HS1; (simp only [Held.enc, Last.enc, segOf, aL, aZ, aS, putSeg] at HS1); have HS := Aside0.mk HS1; clear HS1)); try simp only [aP, aN, aT, aZ, aS]))
  go_ret
  exact ⟨rfl, HS.out.below⟩
/-- where it stands, or would stand -/
def posLast (l : List Last) (t : Int) : Nat := (l.takeWhile (fun h => decide (h.node < t))).length
def isLast (l : List Last) (t : Int) : Bool := decide (posLast l t < l.length) && decide ((l.getD (posLast l t) default).node = t)
def srtLast (l : List Last) : Prop := ∀ p q, p < q → q < l.length → (l.getD p default).node < (l.getD q default).node
theorem posLast_eq (l : List Last) (t : Int) (k : Nat) (hk : k ≤ l.length) (h1 : ∀ p, p < k → (l.getD p default).node < t) (h2 : ∀ p, k ≤ p → p < l.length → t ≤ (l.getD p default).node) : posLast l t = k := by
  unfold posLast
  have e : l = l.take k ++ l.drop k := (List.take_append_drop k l).symm
  have ha : ∀ x ∈ l.take k, decide (x.node < t) = true := fun x hx => by
    obtain ⟨i, hi⟩ := List.getElem?_of_mem hx
    rw [List.getElem?_take] at hi
    split at hi
    · rename_i hlt
      have := h1 i hlt
      rw [List.getD_eq_getElem?_getD, hi] at this
      exact decide_eq_true this
    · cases hi
  rw [e, List.takeWhile_append_of_pos ha, List.length_append, List.length_take, Nat.min_eq_left hk]
  have hb : (l.drop k).takeWhile (fun h => decide (h.node < t)) = [] := by
    rcases Nat.lt_or_ge k l.length with hlt | hge
    · rw [List.drop_eq_getElem_cons hlt, List.takeWhile_cons]
      have := h2 k (Nat.le_refl _) hlt
      rw [List.getD_eq_getElem?_getD, List.getElem?_eq_getElem hlt, Option.getD_some] at this
      rw [if_neg (by simpa using this)]
    · rw [List.drop_eq_nil_of_le hge]; rfl
  rw [hb]
  simp
set_option maxHeartbeats 1600000 in
theorem bsLast_any (A : Option Addr) (c n : Nat) (l : List Last) (t : Int) (w : World) (hr : Rd Last.enc 6 w A n l) (hn : n ≤ 1000000) (hs : srtLast l) :
    Calls Try.prog 78 #[.slice A n c, .int .i64 t, .func (.func 79) #[] #[]] w (fun e w' => e = .returned (.tuple #[.int .i64 (posLast l t), .bool (isLast l t)]) ∧ Below w.heap.size w w') := by
  have HL := Aside0.mk hr.len.1
  have HR := Aside0.mk hr
  have HST := Aside0.mk hs
  clear hr hs
  have HS := Aside0.mk (SH.start w)
  go_enter Try.func78, Try.ntmps78
  go_wp2
  go_loopw [9, 10] (fun v9 v10 wr => ∃ i j : Nat, i ≤ j ∧ j ≤ n ∧ v9 = .int .i64 i ∧ v10 = .int .i64 j ∧ Aside0 (∀ p, p < i → (l.getD p default).node < t) ∧ Aside0 (∀ p, j ≤ p → p < n → t ≤ (l.getD p default).node) ∧ Aside0 (SH w wr [])) (fun v9 v10 _ => (intOf v10).toNat - (intOf v9).toNat)
  case atStart => exact ⟨0, n, Nat.zero_le _, Nat.le_refl _, rfl, rfl, ⟨fun p h => by omega⟩, ⟨fun p h1 h2 => by omega⟩, HS⟩
  case round =>
    clear HS
    obtain ⟨i, j, hij, hjn, rfl, rfl, HI, HJ, HS⟩ := hrel
    by_cases hlt : i < j
    · have hm1 : i ≤ (i + j) / 2 := by omega
      have hm2 : (i + j) / 2 < j := by omega
      have hmn : (i + j) / 2 < n := by omega
      obtain ⟨ad, rfl⟩ := HR.out.addr (by omega)
      obtain ⟨x, hx⟩ : ∃ x, l.getD ((i + j) / 2) default = x := ⟨_, rfl⟩
      have HX := Aside0.mk hx
      have HR1 := Aside0.mk (HR.out.sh HS.out)
      clear hx
      obtain ⟨b, hb⟩ : ∃ b, cmpI x.node t = b := ⟨_, rfl⟩
      have HB := Aside0.mk hb
      clear hb
      by_cases hb0 : b < 0
      · have HB0 := Aside0.mk (show x.node < t by have := cmpI_lt x.node t; rw [HB.out, decide_eq_true hb0] at this; exact of_decide_eq_true this.symm)
        go_wp2_with (first | (go_at_call 79; (with_reducible refine (atLast_any _ _ _).mono ?_); rintro e w2 ⟨rfl, hb⟩; rw [HB.out]; have HS1 := HS.out.quiet hb; clear HS hb; have HS := Aside0.mk HS1; clear HS1) | ((with_reducible refine gLd rfl ?_); refine rd_load HR1.out rfl rfl (i := (i + j) / 2) rfl hmn default Last.len ((agT _ (by decide)).trans rfl) (szT _ (by decide)) ?_; intro x hx; obtain rfl := HX.out.symm.trans hx; (try simp only [Held.enc, Last.enc, aP, aN, aT, aZ, aS])))
        go_roundw
        case rel =>
          refine ⟨(i + j) / 2 + 1, j, by omega, hjn, by go_num, rfl, ⟨fun p hp => ?_⟩, HJ, HS⟩
          by_cases hpm : p = (i + j) / 2
          · subst hpm
            rw [HX.out]; exact HB0.out
          · have := HST.out p ((i + j) / 2) (by omega) (by rw [HL.out]; exact hmn)
            rw [HX.out] at this
            have := HB0.out
            omega
        case measure => simp [intOf]; omega
      · have HB0 := Aside0.mk (show ¬ x.node < t by have := cmpI_lt x.node t; rw [HB.out, decide_eq_false hb0] at this; exact of_decide_eq_false this.symm)
        go_wp2_with (first | (go_at_call 79; (with_reducible refine (atLast_any _ _ _).mono ?_); rintro e w2 ⟨rfl, hb⟩; rw [HB.out]; have HS1 := HS.out.quiet hb; clear HS hb; have HS := Aside0.mk HS1; clear HS1) | ((with_reducible refine gLd rfl ?_); refine rd_load HR1.out rfl rfl (i := (i + j) / 2) rfl hmn default Last.len ((agT _ (by decide)).trans rfl) (szT _ (by decide)) ?_; intro x hx; obtain rfl := HX.out.symm.trans hx; (try simp only [Held.enc, Last.enc, aP, aN, aT, aZ, aS])))
        go_roundw
        case rel =>
          refine ⟨i, (i + j) / 2, by omega, by omega, rfl, rfl, HI, ⟨fun p h1 h2 => ?_⟩, HS⟩
          by_cases hpm : p = (i + j) / 2
          · subst hpm
            rw [HX.out]; have := HB0.out; omega
          · have := HST.out ((i + j) / 2) p (by omega) (by rw [HL.out]; exact h2)
            rw [HX.out] at this
            have := HB0.out
            omega
        case measure => simp [intOf]; omega
    · obtain rfl : i = j := by omega
      have HP := Aside0.mk (posLast_eq l t i (by rw [HL.out]; exact hjn) HI.out (fun p h1 h2 => HJ.out p h1 (by rw [← HL.out]; exact h2)))
      by_cases hin : i < n
      · obtain ⟨ad, rfl⟩ := HR.out.addr (by omega)
        obtain ⟨x, hx⟩ : ∃ x, l.getD i default = x := ⟨_, rfl⟩
        have HX := Aside0.mk hx
        have HR1 := Aside0.mk (HR.out.sh HS.out)
        clear hx
        obtain ⟨b, hb⟩ : ∃ b, cmpI x.node t = b := ⟨_, rfl⟩
        have HB := Aside0.mk hb
        clear hb
        go_wp2_with (first | (go_at_call 79; (with_reducible refine (atLast_any _ _ _).mono ?_); rintro e w2 ⟨rfl, hb⟩; rw [HB.out]; have HS1 := HS.out.quiet hb; clear HS hb; have HS := Aside0.mk HS1; clear HS1) | ((with_reducible refine gLd rfl ?_); refine rd_load HR1.out rfl rfl (i := i) rfl hin default Last.len ((agT _ (by decide)).trans rfl) (szT _ (by decide)) ?_; intro x hx; obtain rfl := HX.out.symm.trans hx; (try simp only [Held.enc, Last.enc, aP, aN, aT, aZ, aS])))
        go_ret2
        refine ⟨?_, HS.out.below⟩
        unfold isLast
        rw [HP.out, HX.out, HL.out, decide_eq_true hin]
        have := cmpI_eq x.node t
        rw [HB.out] at this
        simp [this]
      · go_wp2
        go_ret2
        refine ⟨?_, HS.out.below⟩
        unfold isLast
        rw [HP.out, HL.out, decide_eq_false hin]
        rfl
theorem at_any (A : Option Addr) (c n : Nat) (l : List Held) (t : Int) (w : World) (hr : Rd Held.enc 5 w A n l) (hn : n ≤ 1000000) (hs : srtHeld l) :
    Calls Try.prog 76 #[.slice A n c, .int .i64 t] w (fun e w' => e = .returned (.tuple #[.int .i64 (posHeld l t), .bool (isHeld l t)]) ∧ Below w.heap.size w w') := by
  have HR := Aside0.mk hr
  have HST := Aside0.mk hs
  clear hr hs
  have HS := Aside0.mk (SH.start w)
  go_enter Try.func76, Try.ntmps76
  go_wp2_with (first | (go_at_call 97; (with_reducible refine (bsHeld_any _ _ _ l _ _ (HR.out.sh HS.out) hn HST.out).mono ?_); rintro e w2 ⟨rfl, hb⟩;  have HS1 := HS.out.quiet hb; clear HS hb; have HS := Aside0.mk HS1; clear HS1))
  go_ret2
  exact ⟨rfl, HS.out.below⟩
end Go.Proofs.Ytekjihmepdhmeaa.Led
