/- Lemmas towards the law: what of the text Jue6 it needs. -/
import Derived.Test.YtkggchahhpmpbaaJue5q
namespace Go.Proofs.Ytkggchahhpmpbaa.Jue
open Go.RowKit Go.Proofs.YtkggchahhpmpbaaW.PrintWords Go.Proofs.Ytkggchahhpmpbaa.Sl
set_option linter.unusedVariables false
set_option linter.unusedSimpArgs false
theorem rd_take {α : Type} {enc : α → List Value} {sz : Nat} {w : World} {A : Option Addr} {n : Nat} {xs : List α} (h : Rd enc sz w A n xs) {m : Nat} (hm : m ≤ n) : Rd enc sz w A m (xs.take m) := by
  refine ⟨by rw [List.length_take, h.len.1]; omega, by have := h.len.2; omega, fun h0 => ?_⟩
  obtain ⟨a1, ha1, hr⟩ := h.2.2 (by omega)
  refine ⟨a1, ha1, fun j q hj => hr j q ?_⟩
  rw [List.getElem?_take] at hj
  split at hj
  · exact hj
  · cases hj
theorem any_succ {α : Type} (p : α → Bool) {l : List α} {k : Nat} {d x : α} (hk : k < l.length) (hx : l.getD k d = x) : (l.take (k + 1)).any p = ((l.take k).any p || p x) := by
  rw [List.take_succ_eq_append_getElem hk, List.any_append]
  rw [List.getD_eq_getElem?_getD, List.getElem?_eq_getElem hk, Option.getD_some] at hx
  rw [hx]
  simp
theorem many_succ {l : List Cn} {k : Nat} {d x : Cn} (n : Int) (hk : k < l.length) (hx : l.getD k d = x) : manyOf (l.take (k + 1)) n = manyOf (l.take k) n + (if x.1 == n then 1 else 0) := by
  unfold manyOf
  rw [List.take_succ_eq_append_getElem hk, List.countP_append]
  rw [List.getD_eq_getElem?_getD, List.getElem?_eq_getElem hk, Option.getD_some] at hx
  rw [hx, List.countP_singleton]
def isC (s : Seen) (c : Cn) : Bool := (c.1 == s.node) && (c.2 == s.token)
def otherC (s : Seen) (c : Cn) : Bool := (c.1 != s.node) && (c.2 == s.token)
/-- the document's way of saying it -/
theorem errS_eq (lim : Int) (L : List Cn) (s : Seen) : errS lim L s =
    if badS lim s then 1 else if (s.kind == 1) && L.any (isC s) then 3 else if (s.kind == 1) && L.any (otherC s) then 220 else if (s.kind == 1) && decide (8 ≤ manyOf L s.node) then 6 else if (s.kind == 2) && !(L.any (isC s)) then 4 else 0 := by
  have hin : (s.node, s.token) ∈ L ↔ L.any (isC s) = true := by
    rw [List.any_eq_true]
    constructor
    · intro h; exact ⟨_, h, by simp [isC]⟩
    · rintro ⟨⟨a, b⟩, h, h2⟩
      simp only [isC, Bool.and_eq_true, beq_iff_eq] at h2
      rw [← h2.1, ← h2.2]; exact h
  unfold errS
  cases hb : badS lim s with
  | true => rfl
  | false =>
    have hk : s.kind = 1 ∨ s.kind = 2 ∨ s.kind = 3 := by
      unfold badS at hb
      simp only [Bool.or_eq_false_iff, decide_eq_false_iff_not] at hb
      omega
    simp only [Bool.false_eq_true, if_false, hin]
    rcases hk with h | h | h
    · rw [h]
      simp only [show ((1 : Int) = 3) = False by simp, show ((1 : Int) = 2) = False by simp, if_false]
      by_cases hi : L.any (isC s) = true
      · simp [hi]
      · have hi' : L.any (isC s) = false := by simpa using hi
        have ho : L.any (fun c => c.2 == s.token) = L.any (otherC s) := by
          rw [Bool.eq_iff_iff, List.any_eq_true, List.any_eq_true]
          constructor
          · rintro ⟨c, hc, h2⟩
            refine ⟨c, hc, ?_⟩
            have := List.any_eq_false.1 hi' c hc
            simp only [isC, otherC, Bool.and_eq_true, bne_iff_ne] at this ⊢
            exact ⟨fun e => this ⟨by simpa using e, h2⟩, h2⟩
          · rintro ⟨c, hc, h2⟩
            simp only [otherC, Bool.and_eq_true] at h2
            exact ⟨c, hc, h2.2⟩
        rw [ho, hi']
        cases L.any (otherC s) <;> simp
    · rw [h]
      simp
      cases L.any (isC s) <;> simp
    · rw [h]
      simp
def goodA (lim : Int) (s : Seen) : Bool := decide (1 ≤ lim) && decide (1 ≤ s.node) && decide (s.node ≤ 7)
theorem badS_eq (lim : Int) (s : Seen) : (!badS lim s) = (goodA lim s && (if s.kind == 1 || s.kind == 2 then decide (1 ≤ s.token) && decide (s.token ≤ lim) else (s.kind == 3) && (s.token == 0))) := by
  rw [Bool.eq_iff_iff]
  unfold badS goodA
  by_cases h1 : s.kind = 1
  · simp [h1]; omega
  · by_cases h2 : s.kind = 2
    · simp [h2]; omega
    · by_cases h3 : s.kind = 3
      · simp [h3]; omega
      · simp [h1, h2, h3]; omega
set_option maxHeartbeats 12800000 in
set_option maxRecDepth 100000 in
theorem refWrong_any (A : Option Addr) (N c : Nat) (lim : Int) (l : List Seen) (k : Nat) (w : World) (hr : Rd Seen.enc 3 w A N l) (hN : N ≤ 1000) (hNc : N ≤ c) (hk : k < N) :
    Calls Try.prog 25 #[.int .i64 lim, .slice A N c, .int .i64 k] w (fun e w' => e = .returned (.int .i64 (errS lim (openS (l.take k)) (l.getD k default))) ∧ Below w.heap.size w w') := by
  obtain rfl := hr.len.1
  have hm := hr.len.2
  have HR := Aside0.mk hr
  obtain ⟨ad, rfl⟩ := hr.addr (by omega)
  have HT := Aside0.mk (rd_take hr (m := k) (by omega))
  clear hr
  have HS := Aside0.mk (SH.start w)
  obtain ⟨s, hs⟩ : ∃ s, l.getD k default = s := ⟨_, rfl⟩
  have HX := Aside0.mk hs
  rw [hs]
  clear hs
  obtain ⟨L, hL⟩ : ∃ L, openS (l.take k) = L := ⟨_, rfl⟩
  have hLl := openS_len l k (by omega)
  rw [hL] at hLl ⊢
  have HLE := Aside0.mk hL
  clear hL
  have HRR := Aside0.mk (HR.out.sh HS.out)
  go_enter Try.func25, Try.ntmps25
  go_upto_region 2 with (first | ((with_reducible refine gLd rfl ?_); refine rd_load HRR.out rfl rfl (i := k) rfl hk default Seen.len ((agT _ (by decide)).trans rfl) (szT _ (by decide)) ?_; intro x hx; obtain rfl := HX.out.symm.trans hx; (try simp only [Seen.enc, cnEnc, aP, aN, aT, aZ, aS])) | ((first | ((first | ((with_reducible refine gA rfl ?_); refine sh_alloc HS.out rfl rfl (zeT _ (by decide)) ?_) | ((with_reducible refine gB rfl ?_); refine bx HS.out rfl rfl ?_; first | refine bv (v := .agg (List.toArray _)) rfl ?_ | refine bv (v := .int _ _) rfl ?_ | refine bv (v := .slice _ _ _) rfl ?_ | refine bv (v := .bool _) rfl ?_ | refine bv (v := .pointer _) rfl ?_ | refine bv (v := .string _) rfl ?_ | refine bv (v := .map _) rfl ?_ | refine bv (v := .func _ _ _) rfl ?_) | ((with_reducible refine gL rfl ?_); refine sh_lit HS.out rfl rfl (by go_simp; exact ⟨⟨rfl, rfl⟩, rfl⟩) ?_)); clear HS; intro g w1 hg HS1; (simp only [Seen.enc, cnEnc, zeF, segOf, aL, aC, aE] at HS1); have HS := Aside0.mk HS1; clear HS1) | ((with_reducible refine gLd rfl ?_); refine ld2 HS.out rfl rfl rfl (by repeat (first | exact AtI.here | apply AtI.there)) ?_; (first | refine LdK.one ((agT _ (by decide)).trans rfl) rfl ?_ | (refine LdK.agg ((agT _ (by decide)).trans rfl) (szT _ (by decide)) (lb rfl) ?_; try simp only [szL, aP, aN, aT, aZ, aS, aD, aF, aJ, aK, aM, aO]))) | ((with_reducible refine gSt rfl ?_); refine st2 HS.out rfl rfl rfl rfl (by repeat (first | exact AtI.here | apply AtI.there)) ?_; (first | refine sv (u := .agg (List.toArray _)) rfl ?_ | refine sv (u := .int _ _) rfl ?_ | refine sv (u := .slice _ _ _) rfl ?_ | refine sv (u := .bool _) rfl ?_ | refine sv (u := .pointer _) rfl ?_ | refine sv (u := .string _) rfl ?_ | refine sv (u := .map _) rfl ?_ | refine sv (u := .func _ _ _) rfl ?_); refine sw (szT _ (by decide)) rfl (lb rfl) ?_; clear HS; intro w1 HS1; (simp only [Seen.enc, cnEnc, segOf, aL, aZ, aS, putSeg] at HS1); have HS := Aside0.mk HS1; clear HS1)); try simp only [aP, aN, aT, aZ, aS]))
  obtain ⟨gs, hgs⟩ : ∃ gs, gs = g := ⟨_, rfl⟩
  subst hgs
  go_cut [8] (fun v8 wx => v8 = .bool (goodA lim s) ∧ Aside0 (SH w wx [blk gs [.int .i64 s.kind, .int .i64 s.node, .int .i64 s.token] 28]))
  case first =>
    go_wp2_with (first | ((with_reducible refine gGd rfl ?_); refine gsplit rfl rfl ?_ ?_ <;> (intro h; (fail_if_success guard_hyp h : true = true); (fail_if_success guard_hyp h : false = false); (fail_if_success guard_hyp h : true = false); (fail_if_success guard_hyp h : false = true); rewrite [h]; (try simp only [decide_eq_true_eq, decide_eq_false_iff_not, Bool.not_eq_true', Bool.not_eq_false', Int.not_lt, Int.not_le] at h);  (try first | contradiction | go_big_false); (try with_reducible refine WP.mk ?_))) | ((first | ((first | ((with_reducible refine gA rfl ?_); refine sh_alloc HS.out rfl rfl (zeT _ (by decide)) ?_) | ((with_reducible refine gB rfl ?_); refine bx HS.out rfl rfl ?_; first | refine bv (v := .agg (List.toArray _)) rfl ?_ | refine bv (v := .int _ _) rfl ?_ | refine bv (v := .slice _ _ _) rfl ?_ | refine bv (v := .bool _) rfl ?_ | refine bv (v := .pointer _) rfl ?_ | refine bv (v := .string _) rfl ?_ | refine bv (v := .map _) rfl ?_ | refine bv (v := .func _ _ _) rfl ?_) | ((with_reducible refine gL rfl ?_); refine sh_lit HS.out rfl rfl (by go_simp; exact ⟨⟨rfl, rfl⟩, rfl⟩) ?_)); clear HS; intro g w1 hg HS1; (simp only [Seen.enc, cnEnc, zeF, segOf, aL, aC, aE] at HS1); have HS := Aside0.mk HS1; clear HS1) | ((with_reducible refine gLd rfl ?_); refine ld2 HS.out rfl rfl rfl (by repeat (first | exact AtI.here | apply AtI.there)) ?_; (first | refine LdK.one ((agT _ (by decide)).trans rfl) rfl ?_ | (refine LdK.agg ((agT _ (by decide)).trans rfl) (szT _ (by decide)) (lb rfl) ?_; try simp only [szL, aP, aN, aT, aZ, aS, aD, aF, aJ, aK, aM, aO]))) | ((with_reducible refine gSt rfl ?_); refine st2 HS.out rfl rfl rfl rfl (by repeat (first | exact AtI.here | apply AtI.there)) ?_; (first | refine sv (u := .agg (List.toArray _)) rfl ?_ | refine sv (u := .int _ _) rfl ?_ | refine sv (u := .slice _ _ _) rfl ?_ | refine sv (u := .bool _) rfl ?_ | refine sv (u := .pointer _) rfl ?_ | refine sv (u := .string _) rfl ?_ | refine sv (u := .map _) rfl ?_ | refine sv (u := .func _ _ _) rfl ?_); refine sw (szT _ (by decide)) rfl (lb rfl) ?_; clear HS; intro w1 HS1; (simp only [Seen.enc, cnEnc, segOf, aL, aZ, aS, putSeg] at HS1); have HS := Aside0.mk HS1; clear HS1)); try simp only [aP, aN, aT, aZ, aS]))
    all_goals
      go_meet
      case rel =>
        refine ⟨congrArg Value.bool ?_, HS⟩
        clear HS HRR HR HT HX HLE
        (repeat (rename ∀ (_ : Act) (_ : World), _ => hK9; clear hK9))
        unfold goodA
        first | (simp_all; done) | (simp_all; omega) | grind
  case rest =>
  clear HS
  obtain ⟨rfl, HS⟩ := hcut
  have HEQ := Aside0.mk (errS_eq lim L s)
  obtain ⟨ga, hga⟩ : ∃ ga, goodA lim s = ga := ⟨_, rfl⟩
  have hB := badS_eq lim s
  rw [hga] at hB ⊢
  clear hga
  cases hb1 : (s.kind == 1)
  rotate_left
  · have hb2 : (s.kind == 2) = false := by rw [beq_eq_false_iff_ne]; rw [beq_iff_eq] at hb1; omega
    cases t1 : decide (1 ≤ s.token)
    · cases ga
      all_goals
        rw [hb1, hb2, t1] at hB
        have HE := Aside0.mk (show errS lim L s = 1 by have h := HEQ.out; rw [show badS lim s = true by simpa using hB] at h; exact h)
        clear hB
        go_wp2_with (first | ((first | ((first | ((with_reducible refine gA rfl ?_); refine sh_alloc HS.out rfl rfl (zeT _ (by decide)) ?_) | ((with_reducible refine gB rfl ?_); refine bx HS.out rfl rfl ?_; first | refine bv (v := .agg (List.toArray _)) rfl ?_ | refine bv (v := .int _ _) rfl ?_ | refine bv (v := .slice _ _ _) rfl ?_ | refine bv (v := .bool _) rfl ?_ | refine bv (v := .pointer _) rfl ?_ | refine bv (v := .string _) rfl ?_ | refine bv (v := .map _) rfl ?_ | refine bv (v := .func _ _ _) rfl ?_) | ((with_reducible refine gL rfl ?_); refine sh_lit HS.out rfl rfl (by go_simp; exact ⟨⟨rfl, rfl⟩, rfl⟩) ?_)); clear HS; intro g w1 hg HS1; (simp only [Seen.enc, cnEnc, zeF, segOf, aL, aC, aE] at HS1); have HS := Aside0.mk HS1; clear HS1) | ((with_reducible refine gLd rfl ?_); refine ld2 HS.out rfl rfl rfl (by repeat (first | exact AtI.here | apply AtI.there)) ?_; (first | refine LdK.one ((agT _ (by decide)).trans rfl) rfl ?_ | (refine LdK.agg ((agT _ (by decide)).trans rfl) (szT _ (by decide)) (lb rfl) ?_; try simp only [szL, aP, aN, aT, aZ, aS, aD, aF, aJ, aK, aM, aO]))) | ((with_reducible refine gSt rfl ?_); refine st2 HS.out rfl rfl rfl rfl (by repeat (first | exact AtI.here | apply AtI.there)) ?_; (first | refine sv (u := .agg (List.toArray _)) rfl ?_ | refine sv (u := .int _ _) rfl ?_ | refine sv (u := .slice _ _ _) rfl ?_ | refine sv (u := .bool _) rfl ?_ | refine sv (u := .pointer _) rfl ?_ | refine sv (u := .string _) rfl ?_ | refine sv (u := .map _) rfl ?_ | refine sv (u := .func _ _ _) rfl ?_); refine sw (szT _ (by decide)) rfl (lb rfl) ?_; clear HS; intro w1 HS1; (simp only [Seen.enc, cnEnc, segOf, aL, aZ, aS, putSeg] at HS1); have HS := Aside0.mk HS1; clear HS1)); try simp only [aP, aN, aT, aZ, aS]))
        go_ret
        exact ⟨by rw [HE.out]; rfl, HS.out.below⟩
    · cases t2 : decide (s.token ≤ lim)
      · cases ga
        all_goals
          rw [hb1, hb2, t1, t2] at hB
          have HE := Aside0.mk (show errS lim L s = 1 by have h := HEQ.out; rw [show badS lim s = true by simpa using hB] at h; exact h)
          clear hB
          go_wp2_with (first | ((first | ((first | ((with_reducible refine gA rfl ?_); refine sh_alloc HS.out rfl rfl (zeT _ (by decide)) ?_) | ((with_reducible refine gB rfl ?_); refine bx HS.out rfl rfl ?_; first | refine bv (v := .agg (List.toArray _)) rfl ?_ | refine bv (v := .int _ _) rfl ?_ | refine bv (v := .slice _ _ _) rfl ?_ | refine bv (v := .bool _) rfl ?_ | refine bv (v := .pointer _) rfl ?_ | refine bv (v := .string _) rfl ?_ | refine bv (v := .map _) rfl ?_ | refine bv (v := .func _ _ _) rfl ?_) | ((with_reducible refine gL rfl ?_); refine sh_lit HS.out rfl rfl (by go_simp; exact ⟨⟨rfl, rfl⟩, rfl⟩) ?_)); clear HS; intro g w1 hg HS1; (simp only [Seen.enc, cnEnc, zeF, segOf, aL, aC, aE] at HS1); have HS := Aside0.mk HS1; clear HS1) | ((with_reducible refine gLd rfl ?_); refine ld2 HS.out rfl rfl rfl (by repeat (first | exact AtI.here | apply AtI.there)) ?_; (first | refine LdK.one ((agT _ (by decide)).trans rfl) rfl ?_ | (refine LdK.agg ((agT _ (by decide)).trans rfl) (szT _ (by decide)) (lb rfl) ?_; try simp only [szL, aP, aN, aT, aZ, aS, aD, aF, aJ, aK, aM, aO]))) | ((with_reducible refine gSt rfl ?_); refine st2 HS.out rfl rfl rfl rfl (by repeat (first | exact AtI.here | apply AtI.there)) ?_; (first | refine sv (u := .agg (List.toArray _)) rfl ?_ | refine sv (u := .int _ _) rfl ?_ | refine sv (u := .slice _ _ _) rfl ?_ | refine sv (u := .bool _) rfl ?_ | refine sv (u := .pointer _) rfl ?_ | refine sv (u := .string _) rfl ?_ | refine sv (u := .map _) rfl ?_ | refine sv (u := .func _ _ _) rfl ?_); refine sw (szT _ (by decide)) rfl (lb rfl) ?_; clear HS; intro w1 HS1; (simp only [Seen.enc, cnEnc, segOf, aL, aZ, aS, putSeg] at HS1); have HS := Aside0.mk HS1; clear HS1)); try simp only [aP, aN, aT, aZ, aS]))
          go_ret
          exact ⟨by rw [HE.out]; rfl, HS.out.below⟩
      · cases ga
        · rw [hb1, hb2, t1, t2] at hB
          have HE := Aside0.mk (show errS lim L s = 1 by have h := HEQ.out; rw [show badS lim s = true by simpa using hB] at h; exact h)
          clear hB
          go_wp2_with (first | ((first | ((first | ((with_reducible refine gA rfl ?_); refine sh_alloc HS.out rfl rfl (zeT _ (by decide)) ?_) | ((with_reducible refine gB rfl ?_); refine bx HS.out rfl rfl ?_; first | refine bv (v := .agg (List.toArray _)) rfl ?_ | refine bv (v := .int _ _) rfl ?_ | refine bv (v := .slice _ _ _) rfl ?_ | refine bv (v := .bool _) rfl ?_ | refine bv (v := .pointer _) rfl ?_ | refine bv (v := .string _) rfl ?_ | refine bv (v := .map _) rfl ?_ | refine bv (v := .func _ _ _) rfl ?_) | ((with_reducible refine gL rfl ?_); refine sh_lit HS.out rfl rfl (by go_simp; exact ⟨⟨rfl, rfl⟩, rfl⟩) ?_)); clear HS; intro g w1 hg HS1; (simp only [Seen.enc, cnEnc, zeF, segOf, aL, aC, aE] at HS1); have HS := Aside0.mk HS1; clear HS1) | ((with_reducible refine gLd rfl ?_); refine ld2 HS.out rfl rfl rfl (by repeat (first | exact AtI.here | apply AtI.there)) ?_; (first | refine LdK.one ((agT _ (by decide)).trans rfl) rfl ?_ | (refine LdK.agg ((agT _ (by decide)).trans rfl) (szT _ (by decide)) (lb rfl) ?_; try simp only [szL, aP, aN, aT, aZ, aS, aD, aF, aJ, aK, aM, aO]))) | ((with_reducible refine gSt rfl ?_); refine st2 HS.out rfl rfl rfl rfl (by repeat (first | exact AtI.here | apply AtI.there)) ?_; (first | refine sv (u := .agg (List.toArray _)) rfl ?_ | refine sv (u := .int _ _) rfl ?_ | refine sv (u := .slice _ _ _) rfl ?_ | refine sv (u := .bool _) rfl ?_ | refine sv (u := .pointer _) rfl ?_ | refine sv (u := .string _) rfl ?_ | refine sv (u := .map _) rfl ?_ | refine sv (u := .func _ _ _) rfl ?_); refine sw (szT _ (by decide)) rfl (lb rfl) ?_; clear HS; intro w1 HS1; (simp only [Seen.enc, cnEnc, segOf, aL, aZ, aS, putSeg] at HS1); have HS := Aside0.mk HS1; clear HS1)); try simp only [aP, aN, aT, aZ, aS]))
          go_ret
          exact ⟨by rw [HE.out]; rfl, HS.out.below⟩
        · rw [hb1, hb2, t1, t2] at hB
          rw [show badS lim s = false by simpa using hB, hb1, hb2] at HEQ
          clear hB
          go_upto_region 16 with (first | (go_at_call 40; (with_reducible refine (refOpen_any (some ad) k c (l.take k) _ (HT.out.sh HS.out) (by omega)).mono ?_); rintro e w2 ⟨v, S, rfl, HS1⟩; rw [HLE.out] at HS1; obtain ⟨A1, c1, rfl, hc1, _⟩ := row_rd HS1 0 rfl; have HS2 := HS.out.call HS1; clear HS HS1; simp only [aC, aE] at HS2; have HS := Aside0.mk HS2; clear HS2) | ((first | ((first | ((with_reducible refine gA rfl ?_); refine sh_alloc HS.out rfl rfl (zeT _ (by decide)) ?_) | ((with_reducible refine gB rfl ?_); refine bx HS.out rfl rfl ?_; first | refine bv (v := .agg (List.toArray _)) rfl ?_ | refine bv (v := .int _ _) rfl ?_ | refine bv (v := .slice _ _ _) rfl ?_ | refine bv (v := .bool _) rfl ?_ | refine bv (v := .pointer _) rfl ?_ | refine bv (v := .string _) rfl ?_ | refine bv (v := .map _) rfl ?_ | refine bv (v := .func _ _ _) rfl ?_) | ((with_reducible refine gL rfl ?_); refine sh_lit HS.out rfl rfl (by go_simp; exact ⟨⟨rfl, rfl⟩, rfl⟩) ?_)); clear HS; intro g w1 hg HS1; (simp only [Seen.enc, cnEnc, zeF, segOf, aL, aC, aE] at HS1); have HS := Aside0.mk HS1; clear HS1) | ((with_reducible refine gLd rfl ?_); refine ld2 HS.out rfl rfl rfl (by repeat (first | exact AtI.here | apply AtI.there)) ?_; (first | refine LdK.one ((agT _ (by decide)).trans rfl) rfl ?_ | (refine LdK.agg ((agT _ (by decide)).trans rfl) (szT _ (by decide)) (lb rfl) ?_; try simp only [szL, aP, aN, aT, aZ, aS, aD, aF, aJ, aK, aM, aO]))) | ((with_reducible refine gSt rfl ?_); refine st2 HS.out rfl rfl rfl rfl (by repeat (first | exact AtI.here | apply AtI.there)) ?_; (first | refine sv (u := .agg (List.toArray _)) rfl ?_ | refine sv (u := .int _ _) rfl ?_ | refine sv (u := .slice _ _ _) rfl ?_ | refine sv (u := .bool _) rfl ?_ | refine sv (u := .pointer _) rfl ?_ | refine sv (u := .string _) rfl ?_ | refine sv (u := .map _) rfl ?_ | refine sv (u := .func _ _ _) rfl ?_); refine sw (szT _ (by decide)) rfl (lb rfl) ?_; clear HS; intro w1 HS1; (simp only [Seen.enc, cnEnc, segOf, aL, aZ, aS, putSeg] at HS1); have HS := Aside0.mk HS1; clear HS1)); try simp only [aP, aN, aT, aZ, aS]))
          go_loopw [9, 10, 11, 62] (fun v9 v10 v11 v62 wr => ∃ j : Nat, j ≤ L.length ∧ v62 = .int .i64 j ∧ v9 = .bool ((L.take j).any (isC s)) ∧ v10 = .bool ((L.take j).any (otherC s)) ∧ v11 = .int .i64 (manyOf (L.take j) s.node : Int) ∧ Aside0 (SH w wr [blk gs [.int .i64 s.kind, .int .i64 s.node, .int .i64 s.token] 28, row cnK 56 (.slice A1 L.length c1) L S])) (fun _ _ _ v62 _ => L.length - (intOf v62).toNat)
          case atStart => exact ⟨0, Nat.zero_le _, rfl, rfl, rfl, rfl, HS⟩
          case round =>
            clear HS
            obtain ⟨j, hj, rfl, rfl, rfl, rfl, HS⟩ := hrel
            by_cases hjl : j < L.length
            · have hrd := row_rds (hl := cnLen) (h1 := cnOne) 1 rfl _ HS.out
              obtain ⟨ad1, rfl⟩ := hrd.addr (by omega)
              obtain ⟨y, hy⟩ : ∃ y, L.getD j default = y := ⟨_, rfl⟩
              have HY := Aside0.mk hy
              have HRL := Aside0.mk hrd
              have HF1 := Aside0.mk (any_succ (isC s) hjl hy)
              have HF2 := Aside0.mk (any_succ (otherC s) hjl hy)
              have HF3 := Aside0.mk (many_succ s.node hjl hy)
              have hmj : manyOf (L.take j) s.node ≤ j := Nat.le_trans List.countP_le_length (by rw [List.length_take]; omega)
              clear hy hrd
              obtain ⟨mn, hmn⟩ : ∃ mn : Nat, manyOf (L.take j) s.node = mn := ⟨_, rfl⟩
              obtain ⟨bi, hbi⟩ : ∃ b, (L.take j).any (isC s) = b := ⟨_, rfl⟩
              obtain ⟨bo, hbo⟩ : ∃ b, (L.take j).any (otherC s) = b := ⟨_, rfl⟩
              rw [hmn] at hmj HF3 ⊢
              rw [hbi] at HF1 ⊢
              rw [hbo] at HF2 ⊢
              clear hmn hbi hbo
              have hqw : IntKind.i64.wrap ((mn : Int) + 1) = (mn : Int) + 1 := IntWalk.i64_in _ (by omega)
              cases e1 : (y.1 == s.node) <;> cases bi <;> cases bo
              all_goals
                have e1' := congrArg (!·) e1
                simp only [Bool.not_false, Bool.not_true] at e1'
                rw [← bne] at e1'
                have HI := Aside0.mk (show isC s y = _ by unfold isC; rw [e1])
                have HO := Aside0.mk (show otherC s y = _ by unfold otherC; rw [e1'])
                have HE1 := Aside0.mk e1
                go_wp2_with (first | ((with_reducible refine gLd rfl ?_); refine rd_load HRL.out rfl rfl (i := j) rfl hjl default cnLen ((agT _ (by decide)).trans rfl) (szT _ (by decide)) ?_; intro x hx; obtain rfl := HY.out.symm.trans hx; (try simp only [Seen.enc, cnEnc, aP, aN, aT, aZ, aS])) | ((first | ((first | ((with_reducible refine gA rfl ?_); refine sh_alloc HS.out rfl rfl (zeT _ (by decide)) ?_) | ((with_reducible refine gB rfl ?_); refine bx HS.out rfl rfl ?_; first | refine bv (v := .agg (List.toArray _)) rfl ?_ | refine bv (v := .int _ _) rfl ?_ | refine bv (v := .slice _ _ _) rfl ?_ | refine bv (v := .bool _) rfl ?_ | refine bv (v := .pointer _) rfl ?_ | refine bv (v := .string _) rfl ?_ | refine bv (v := .map _) rfl ?_ | refine bv (v := .func _ _ _) rfl ?_) | ((with_reducible refine gL rfl ?_); refine sh_lit HS.out rfl rfl (by go_simp; exact ⟨⟨rfl, rfl⟩, rfl⟩) ?_)); clear HS; intro g w1 hg HS1; (simp only [Seen.enc, cnEnc, zeF, segOf, aL, aC, aE] at HS1); have HS := Aside0.mk HS1; clear HS1) | ((with_reducible refine gLd rfl ?_); refine ld2 HS.out rfl rfl rfl (by repeat (first | exact AtI.here | apply AtI.there)) ?_; (first | refine LdK.one ((agT _ (by decide)).trans rfl) rfl ?_ | (refine LdK.agg ((agT _ (by decide)).trans rfl) (szT _ (by decide)) (lb rfl) ?_; try simp only [szL, aP, aN, aT, aZ, aS, aD, aF, aJ, aK, aM, aO]))) | ((with_reducible refine gSt rfl ?_); refine st2 HS.out rfl rfl rfl rfl (by repeat (first | exact AtI.here | apply AtI.there)) ?_; (first | refine sv (u := .agg (List.toArray _)) rfl ?_ | refine sv (u := .int _ _) rfl ?_ | refine sv (u := .slice _ _ _) rfl ?_ | refine sv (u := .bool _) rfl ?_ | refine sv (u := .pointer _) rfl ?_ | refine sv (u := .string _) rfl ?_ | refine sv (u := .map _) rfl ?_ | refine sv (u := .func _ _ _) rfl ?_); refine sw (szT _ (by decide)) rfl (lb rfl) ?_; clear HS; intro w1 HS1; (simp only [Seen.enc, cnEnc, segOf, aL, aZ, aS, putSeg] at HS1); have HS := Aside0.mk HS1; clear HS1)); try simp only [aP, aN, aT, aZ, aS]))
                go_roundw
                case rel =>
                  refine ⟨j + 1, by omega, by go_num, ?_, ?_, ?_, ⟨HS.out.pick [0, 1] rfl (by decide)⟩⟩
                  · rw [HF1.out, HI.out]; rfl
                  · rw [HF2.out, HO.out]; rfl
                  · rw [HF3.out, HE1.out]
                    first | rfl | (simp) | (go_num)
                case measure => simp [intOf]; omega
            · obtain rfl : j = L.length := by omega
              rw [List.take_length]
              have hml : manyOf L s.node ≤ L.length := List.countP_le_length
              obtain ⟨mn, hmn⟩ : ∃ mn : Nat, manyOf L s.node = mn := ⟨_, rfl⟩
              obtain ⟨bi, hbi⟩ : ∃ b, L.any (isC s) = b := ⟨_, rfl⟩
              obtain ⟨bo, hbo⟩ : ∃ b, L.any (otherC s) = b := ⟨_, rfl⟩
              rw [hmn] at HEQ hml ⊢
              rw [hbi] at HEQ ⊢
              rw [hbo] at HEQ ⊢
              clear hmn hbi hbo
              obtain ⟨m8, hm8⟩ : ∃ b, decide (8 ≤ mn) = b := ⟨_, rfl⟩
              rw [hm8] at HEQ
              have hm8' : decide ((8 : Int) ≤ (mn : Int)) = m8 := by rw [← hm8]; congr 1; simp; omega
              clear hm8
              cases bi <;> cases bo <;> cases m8
              all_goals
                have hm9 := hm8'
                try simp only [decide_eq_true_eq, decide_eq_false_iff_not] at hm9
                go_wp2_with (first | ((first | ((first | ((with_reducible refine gA rfl ?_); refine sh_alloc HS.out rfl rfl (zeT _ (by decide)) ?_) | ((with_reducible refine gB rfl ?_); refine bx HS.out rfl rfl ?_; first | refine bv (v := .agg (List.toArray _)) rfl ?_ | refine bv (v := .int _ _) rfl ?_ | refine bv (v := .slice _ _ _) rfl ?_ | refine bv (v := .bool _) rfl ?_ | refine bv (v := .pointer _) rfl ?_ | refine bv (v := .string _) rfl ?_ | refine bv (v := .map _) rfl ?_ | refine bv (v := .func _ _ _) rfl ?_) | ((with_reducible refine gL rfl ?_); refine sh_lit HS.out rfl rfl (by go_simp; exact ⟨⟨rfl, rfl⟩, rfl⟩) ?_)); clear HS; intro g w1 hg HS1; (simp only [Seen.enc, cnEnc, zeF, segOf, aL, aC, aE] at HS1); have HS := Aside0.mk HS1; clear HS1) | ((with_reducible refine gLd rfl ?_); refine ld2 HS.out rfl rfl rfl (by repeat (first | exact AtI.here | apply AtI.there)) ?_; (first | refine LdK.one ((agT _ (by decide)).trans rfl) rfl ?_ | (refine LdK.agg ((agT _ (by decide)).trans rfl) (szT _ (by decide)) (lb rfl) ?_; try simp only [szL, aP, aN, aT, aZ, aS, aD, aF, aJ, aK, aM, aO]))) | ((with_reducible refine gSt rfl ?_); refine st2 HS.out rfl rfl rfl rfl (by repeat (first | exact AtI.here | apply AtI.there)) ?_; (first | refine sv (u := .agg (List.toArray _)) rfl ?_ | refine sv (u := .int _ _) rfl ?_ | refine sv (u := .slice _ _ _) rfl ?_ | refine sv (u := .bool _) rfl ?_ | refine sv (u := .pointer _) rfl ?_ | refine sv (u := .string _) rfl ?_ | refine sv (u := .map _) rfl ?_ | refine sv (u := .func _ _ _) rfl ?_); refine sw (szT _ (by decide)) rfl (lb rfl) ?_; clear HS; intro w1 HS1; (simp only [Seen.enc, cnEnc, segOf, aL, aZ, aS, putSeg] at HS1); have HS := Aside0.mk HS1; clear HS1)); try simp only [aP, aN, aT, aZ, aS]))
                go_ret
                exact ⟨by rw [HEQ.out]; rfl, HS.out.below⟩
  · cases hb2 : (s.kind == 2)
    rotate_left
    · skip
      cases t1 : decide (1 ≤ s.token)
      · cases ga
        all_goals
          rw [hb1, hb2, t1] at hB
          have HE := Aside0.mk (show errS lim L s = 1 by have h := HEQ.out; rw [show badS lim s = true by simpa using hB] at h; exact h)
          clear hB
          go_wp2_with (first | ((first | ((first | ((with_reducible refine gA rfl ?_); refine sh_alloc HS.out rfl rfl (zeT _ (by decide)) ?_) | ((with_reducible refine gB rfl ?_); refine bx HS.out rfl rfl ?_; first | refine bv (v := .agg (List.toArray _)) rfl ?_ | refine bv (v := .int _ _) rfl ?_ | refine bv (v := .slice _ _ _) rfl ?_ | refine bv (v := .bool _) rfl ?_ | refine bv (v := .pointer _) rfl ?_ | refine bv (v := .string _) rfl ?_ | refine bv (v := .map _) rfl ?_ | refine bv (v := .func _ _ _) rfl ?_) | ((with_reducible refine gL rfl ?_); refine sh_lit HS.out rfl rfl (by go_simp; exact ⟨⟨rfl, rfl⟩, rfl⟩) ?_)); clear HS; intro g w1 hg HS1; (simp only [Seen.enc, cnEnc, zeF, segOf, aL, aC, aE] at HS1); have HS := Aside0.mk HS1; clear HS1) | ((with_reducible refine gLd rfl ?_); refine ld2 HS.out rfl rfl rfl (by repeat (first | exact AtI.here | apply AtI.there)) ?_; (first | refine LdK.one ((agT _ (by decide)).trans rfl) rfl ?_ | (refine LdK.agg ((agT _ (by decide)).trans rfl) (szT _ (by decide)) (lb rfl) ?_; try simp only [szL, aP, aN, aT, aZ, aS, aD, aF, aJ, aK, aM, aO]))) | ((with_reducible refine gSt rfl ?_); refine st2 HS.out rfl rfl rfl rfl (by repeat (first | exact AtI.here | apply AtI.there)) ?_; (first | refine sv (u := .agg (List.toArray _)) rfl ?_ | refine sv (u := .int _ _) rfl ?_ | refine sv (u := .slice _ _ _) rfl ?_ | refine sv (u := .bool _) rfl ?_ | refine sv (u := .pointer _) rfl ?_ | refine sv (u := .string _) rfl ?_ | refine sv (u := .map _) rfl ?_ | refine sv (u := .func _ _ _) rfl ?_); refine sw (szT _ (by decide)) rfl (lb rfl) ?_; clear HS; intro w1 HS1; (simp only [Seen.enc, cnEnc, segOf, aL, aZ, aS, putSeg] at HS1); have HS := Aside0.mk HS1; clear HS1)); try simp only [aP, aN, aT, aZ, aS]))
          go_ret
          exact ⟨by rw [HE.out]; rfl, HS.out.below⟩
      · cases t2 : decide (s.token ≤ lim)
        · cases ga
          all_goals
            rw [hb1, hb2, t1, t2] at hB
            have HE := Aside0.mk (show errS lim L s = 1 by have h := HEQ.out; rw [show badS lim s = true by simpa using hB] at h; exact h)
            clear hB
            go_wp2_with (first | ((first | ((first | ((with_reducible refine gA rfl ?_); refine sh_alloc HS.out rfl rfl (zeT _ (by decide)) ?_) | ((with_reducible refine gB rfl ?_); refine bx HS.out rfl rfl ?_; first | refine bv (v := .agg (List.toArray _)) rfl ?_ | refine bv (v := .int _ _) rfl ?_ | refine bv (v := .slice _ _ _) rfl ?_ | refine bv (v := .bool _) rfl ?_ | refine bv (v := .pointer _) rfl ?_ | refine bv (v := .string _) rfl ?_ | refine bv (v := .map _) rfl ?_ | refine bv (v := .func _ _ _) rfl ?_) | ((with_reducible refine gL rfl ?_); refine sh_lit HS.out rfl rfl (by go_simp; exact ⟨⟨rfl, rfl⟩, rfl⟩) ?_)); clear HS; intro g w1 hg HS1; (simp only [Seen.enc, cnEnc, zeF, segOf, aL, aC, aE] at HS1); have HS := Aside0.mk HS1; clear HS1) | ((with_reducible refine gLd rfl ?_); refine ld2 HS.out rfl rfl rfl (by repeat (first | exact AtI.here | apply AtI.there)) ?_; (first | refine LdK.one ((agT _ (by decide)).trans rfl) rfl ?_ | (refine LdK.agg ((agT _ (by decide)).trans rfl) (szT _ (by decide)) (lb rfl) ?_; try simp only [szL, aP, aN, aT, aZ, aS, aD, aF, aJ, aK, aM, aO]))) | ((with_reducible refine gSt rfl ?_); refine st2 HS.out rfl rfl rfl rfl (by repeat (first | exact AtI.here | apply AtI.there)) ?_; (first | refine sv (u := .agg (List.toArray _)) rfl ?_ | refine sv (u := .int _ _) rfl ?_ | refine sv (u := .slice _ _ _) rfl ?_ | refine sv (u := .bool _) rfl ?_ | refine sv (u := .pointer _) rfl ?_ | refine sv (u := .string _) rfl ?_ | refine sv (u := .map _) rfl ?_ | refine sv (u := .func _ _ _) rfl ?_); refine sw (szT _ (by decide)) rfl (lb rfl) ?_; clear HS; intro w1 HS1; (simp only [Seen.enc, cnEnc, segOf, aL, aZ, aS, putSeg] at HS1); have HS := Aside0.mk HS1; clear HS1)); try simp only [aP, aN, aT, aZ, aS]))
            go_ret
            exact ⟨by rw [HE.out]; rfl, HS.out.below⟩
        · cases ga
          · rw [hb1, hb2, t1, t2] at hB
            have HE := Aside0.mk (show errS lim L s = 1 by have h := HEQ.out; rw [show badS lim s = true by simpa using hB] at h; exact h)
            clear hB
            go_wp2_with (first | ((first | ((first | ((with_reducible refine gA rfl ?_); refine sh_alloc HS.out rfl rfl (zeT _ (by decide)) ?_) | ((with_reducible refine gB rfl ?_); refine bx HS.out rfl rfl ?_; first | refine bv (v := .agg (List.toArray _)) rfl ?_ | refine bv (v := .int _ _) rfl ?_ | refine bv (v := .slice _ _ _) rfl ?_ | refine bv (v := .bool _) rfl ?_ | refine bv (v := .pointer _) rfl ?_ | refine bv (v := .string _) rfl ?_ | refine bv (v := .map _) rfl ?_ | refine bv (v := .func _ _ _) rfl ?_) | ((with_reducible refine gL rfl ?_); refine sh_lit HS.out rfl rfl (by go_simp; exact ⟨⟨rfl, rfl⟩, rfl⟩) ?_)); clear HS; intro g w1 hg HS1; (simp only [Seen.enc, cnEnc, zeF, segOf, aL, aC, aE] at HS1); have HS := Aside0.mk HS1; clear HS1) | ((with_reducible refine gLd rfl ?_); refine ld2 HS.out rfl rfl rfl (by repeat (first | exact AtI.here | apply AtI.there)) ?_; (first | refine LdK.one ((agT _ (by decide)).trans rfl) rfl ?_ | (refine LdK.agg ((agT _ (by decide)).trans rfl) (szT _ (by decide)) (lb rfl) ?_; try simp only [szL, aP, aN, aT, aZ, aS, aD, aF, aJ, aK, aM, aO]))) | ((with_reducible refine gSt rfl ?_); refine st2 HS.out rfl rfl rfl rfl (by repeat (first | exact AtI.here | apply AtI.there)) ?_; (first | refine sv (u := .agg (List.toArray _)) rfl ?_ | refine sv (u := .int _ _) rfl ?_ | refine sv (u := .slice _ _ _) rfl ?_ | refine sv (u := .bool _) rfl ?_ | refine sv (u := .pointer _) rfl ?_ | refine sv (u := .string _) rfl ?_ | refine sv (u := .map _) rfl ?_ | refine sv (u := .func _ _ _) rfl ?_); refine sw (szT _ (by decide)) rfl (lb rfl) ?_; clear HS; intro w1 HS1; (simp only [Seen.enc, cnEnc, segOf, aL, aZ, aS, putSeg] at HS1); have HS := Aside0.mk HS1; clear HS1)); try simp only [aP, aN, aT, aZ, aS]))
            go_ret
            exact ⟨by rw [HE.out]; rfl, HS.out.below⟩
          · rw [hb1, hb2, t1, t2] at hB
            rw [show badS lim s = false by simpa using hB, hb1, hb2] at HEQ
            clear hB
            go_upto_region 16 with (first | (go_at_call 40; (with_reducible refine (refOpen_any (some ad) k c (l.take k) _ (HT.out.sh HS.out) (by omega)).mono ?_); rintro e w2 ⟨v, S, rfl, HS1⟩; rw [HLE.out] at HS1; obtain ⟨A1, c1, rfl, hc1, _⟩ := row_rd HS1 0 rfl; have HS2 := HS.out.call HS1; clear HS HS1; simp only [aC, aE] at HS2; have HS := Aside0.mk HS2; clear HS2) | ((first | ((first | ((with_reducible refine gA rfl ?_); refine sh_alloc HS.out rfl rfl (zeT _ (by decide)) ?_) | ((with_reducible refine gB rfl ?_); refine bx HS.out rfl rfl ?_; first | refine bv (v := .agg (List.toArray _)) rfl ?_ | refine bv (v := .int _ _) rfl ?_ | refine bv (v := .slice _ _ _) rfl ?_ | refine bv (v := .bool _) rfl ?_ | refine bv (v := .pointer _) rfl ?_ | refine bv (v := .string _) rfl ?_ | refine bv (v := .map _) rfl ?_ | refine bv (v := .func _ _ _) rfl ?_) | ((with_reducible refine gL rfl ?_); refine sh_lit HS.out rfl rfl (by go_simp; exact ⟨⟨rfl, rfl⟩, rfl⟩) ?_)); clear HS; intro g w1 hg HS1; (simp only [Seen.enc, cnEnc, zeF, segOf, aL, aC, aE] at HS1); have HS := Aside0.mk HS1; clear HS1) | ((with_reducible refine gLd rfl ?_); refine ld2 HS.out rfl rfl rfl (by repeat (first | exact AtI.here | apply AtI.there)) ?_; (first | refine LdK.one ((agT _ (by decide)).trans rfl) rfl ?_ | (refine LdK.agg ((agT _ (by decide)).trans rfl) (szT _ (by decide)) (lb rfl) ?_; try simp only [szL, aP, aN, aT, aZ, aS, aD, aF, aJ, aK, aM, aO]))) | ((with_reducible refine gSt rfl ?_); refine st2 HS.out rfl rfl rfl rfl (by repeat (first | exact AtI.here | apply AtI.there)) ?_; (first | refine sv (u := .agg (List.toArray _)) rfl ?_ | refine sv (u := .int _ _) rfl ?_ | refine sv (u := .slice _ _ _) rfl ?_ | refine sv (u := .bool _) rfl ?_ | refine sv (u := .pointer _) rfl ?_ | refine sv (u := .string _) rfl ?_ | refine sv (u := .map _) rfl ?_ | refine sv (u := .func _ _ _) rfl ?_); refine sw (szT _ (by decide)) rfl (lb rfl) ?_; clear HS; intro w1 HS1; (simp only [Seen.enc, cnEnc, segOf, aL, aZ, aS, putSeg] at HS1); have HS := Aside0.mk HS1; clear HS1)); try simp only [aP, aN, aT, aZ, aS]))
            go_loopw [9, 10, 11, 62] (fun v9 v10 v11 v62 wr => ∃ j : Nat, j ≤ L.length ∧ v62 = .int .i64 j ∧ v9 = .bool ((L.take j).any (isC s)) ∧ v10 = .bool ((L.take j).any (otherC s)) ∧ v11 = .int .i64 (manyOf (L.take j) s.node : Int) ∧ Aside0 (SH w wr [blk gs [.int .i64 s.kind, .int .i64 s.node, .int .i64 s.token] 28, row cnK 56 (.slice A1 L.length c1) L S])) (fun _ _ _ v62 _ => L.length - (intOf v62).toNat)
            case atStart => exact ⟨0, Nat.zero_le _, rfl, rfl, rfl, rfl, HS⟩
            case round =>
              clear HS
              obtain ⟨j, hj, rfl, rfl, rfl, rfl, HS⟩ := hrel
              by_cases hjl : j < L.length
              · have hrd := row_rds (hl := cnLen) (h1 := cnOne) 1 rfl _ HS.out
                obtain ⟨ad1, rfl⟩ := hrd.addr (by omega)
                obtain ⟨y, hy⟩ : ∃ y, L.getD j default = y := ⟨_, rfl⟩
                have HY := Aside0.mk hy
                have HRL := Aside0.mk hrd
                have HF1 := Aside0.mk (any_succ (isC s) hjl hy)
                have HF2 := Aside0.mk (any_succ (otherC s) hjl hy)
                have HF3 := Aside0.mk (many_succ s.node hjl hy)
                have hmj : manyOf (L.take j) s.node ≤ j := Nat.le_trans List.countP_le_length (by rw [List.length_take]; omega)
                clear hy hrd
                obtain ⟨mn, hmn⟩ : ∃ mn : Nat, manyOf (L.take j) s.node = mn := ⟨_, rfl⟩
                obtain ⟨bi, hbi⟩ : ∃ b, (L.take j).any (isC s) = b := ⟨_, rfl⟩
                obtain ⟨bo, hbo⟩ : ∃ b, (L.take j).any (otherC s) = b := ⟨_, rfl⟩
                rw [hmn] at hmj HF3 ⊢
                rw [hbi] at HF1 ⊢
                rw [hbo] at HF2 ⊢
                clear hmn hbi hbo
                have hqw : IntKind.i64.wrap ((mn : Int) + 1) = (mn : Int) + 1 := IntWalk.i64_in _ (by omega)
                cases e1 : (y.1 == s.node) <;> cases bi <;> cases bo
                all_goals
                  have e1' := congrArg (!·) e1
                  simp only [Bool.not_false, Bool.not_true] at e1'
                  rw [← bne] at e1'
                  have HI := Aside0.mk (show isC s y = _ by unfold isC; rw [e1])
                  have HO := Aside0.mk (show otherC s y = _ by unfold otherC; rw [e1'])
                  have HE1 := Aside0.mk e1
                  go_wp2_with (first | ((with_reducible refine gLd rfl ?_); refine rd_load HRL.out rfl rfl (i := j) rfl hjl default cnLen ((agT _ (by decide)).trans rfl) (szT _ (by decide)) ?_; intro x hx; obtain rfl := HY.out.symm.trans hx; (try simp only [Seen.enc, cnEnc, aP, aN, aT, aZ, aS])) | ((first | ((first | ((with_reducible refine gA rfl ?_); refine sh_alloc HS.out rfl rfl (zeT _ (by decide)) ?_) | ((with_reducible refine gB rfl ?_); refine bx HS.out rfl rfl ?_; first | refine bv (v := .agg (List.toArray _)) rfl ?_ | refine bv (v := .int _ _) rfl ?_ | refine bv (v := .slice _ _ _) rfl ?_ | refine bv (v := .bool _) rfl ?_ | refine bv (v := .pointer _) rfl ?_ | refine bv (v := .string _) rfl ?_ | refine bv (v := .map _) rfl ?_ | refine bv (v := .func _ _ _) rfl ?_) | ((with_reducible refine gL rfl ?_); refine sh_lit HS.out rfl rfl (by go_simp; exact ⟨⟨rfl, rfl⟩, rfl⟩) ?_)); clear HS; intro g w1 hg HS1; (simp only [Seen.enc, cnEnc, zeF, segOf, aL, aC, aE] at HS1); have HS := Aside0.mk HS1; clear HS1) | ((with_reducible refine gLd rfl ?_); refine ld2 HS.out rfl rfl rfl (by repeat (first | exact AtI.here | apply AtI.there)) ?_; (first | refine LdK.one ((agT _ (by decide)).trans rfl) rfl ?_ | (refine LdK.agg ((agT _ (by decide)).trans rfl) (szT _ (by decide)) (lb rfl) ?_; try simp only [szL, aP, aN, aT, aZ, aS, aD, aF, aJ, aK, aM, aO]))) | ((with_reducible refine gSt rfl ?_); refine st2 HS.out rfl rfl rfl rfl (by repeat (first | exact AtI.here | apply AtI.there)) ?_; (first | refine sv (u := .agg (List.toArray _)) rfl ?_ | refine sv (u := .int _ _) rfl ?_ | refine sv (u := .slice _ _ _) rfl ?_ | refine sv (u := .bool _) rfl ?_ | refine sv (u := .pointer _) rfl ?_ | refine sv (u := .string _) rfl ?_ | refine sv (u := .map _) rfl ?_ | refine sv (u := .func _ _ _) rfl ?_); refine sw (szT _ (by decide)) rfl (lb rfl) ?_; clear HS; intro w1 HS1; (simp only [Seen.enc, cnEnc, segOf, aL, aZ, aS, putSeg] at HS1); have HS := Aside0.mk HS1; clear HS1)); try simp only [aP, aN, aT, aZ, aS]))
                  go_roundw
                  case rel =>
                    refine ⟨j + 1, by omega, by go_num, ?_, ?_, ?_, ⟨HS.out.pick [0, 1] rfl (by decide)⟩⟩
                    · rw [HF1.out, HI.out]; rfl
                    · rw [HF2.out, HO.out]; rfl
                    · rw [HF3.out, HE1.out]
                      first | rfl | (simp) | (go_num)
                  case measure => simp [intOf]; omega
              · obtain rfl : j = L.length := by omega
                rw [List.take_length]
                have hml : manyOf L s.node ≤ L.length := List.countP_le_length
                obtain ⟨mn, hmn⟩ : ∃ mn : Nat, manyOf L s.node = mn := ⟨_, rfl⟩
                obtain ⟨bi, hbi⟩ : ∃ b, L.any (isC s) = b := ⟨_, rfl⟩
                obtain ⟨bo, hbo⟩ : ∃ b, L.any (otherC s) = b := ⟨_, rfl⟩
                rw [hmn] at HEQ hml ⊢
                rw [hbi] at HEQ ⊢
                rw [hbo] at HEQ ⊢
                clear hmn hbi hbo
                obtain ⟨m8, hm8⟩ : ∃ b, decide (8 ≤ mn) = b := ⟨_, rfl⟩
                rw [hm8] at HEQ
                have hm8' : decide ((8 : Int) ≤ (mn : Int)) = m8 := by rw [← hm8]; congr 1; simp; omega
                clear hm8
                cases bi
                all_goals
                  have hm9 := hm8'
                  try simp only [decide_eq_true_eq, decide_eq_false_iff_not] at hm9
                  go_wp2_with (first | ((first | ((first | ((with_reducible refine gA rfl ?_); refine sh_alloc HS.out rfl rfl (zeT _ (by decide)) ?_) | ((with_reducible refine gB rfl ?_); refine bx HS.out rfl rfl ?_; first | refine bv (v := .agg (List.toArray _)) rfl ?_ | refine bv (v := .int _ _) rfl ?_ | refine bv (v := .slice _ _ _) rfl ?_ | refine bv (v := .bool _) rfl ?_ | refine bv (v := .pointer _) rfl ?_ | refine bv (v := .string _) rfl ?_ | refine bv (v := .map _) rfl ?_ | refine bv (v := .func _ _ _) rfl ?_) | ((with_reducible refine gL rfl ?_); refine sh_lit HS.out rfl rfl (by go_simp; exact ⟨⟨rfl, rfl⟩, rfl⟩) ?_)); clear HS; intro g w1 hg HS1; (simp only [Seen.enc, cnEnc, zeF, segOf, aL, aC, aE] at HS1); have HS := Aside0.mk HS1; clear HS1) | ((with_reducible refine gLd rfl ?_); refine ld2 HS.out rfl rfl rfl (by repeat (first | exact AtI.here | apply AtI.there)) ?_; (first | refine LdK.one ((agT _ (by decide)).trans rfl) rfl ?_ | (refine LdK.agg ((agT _ (by decide)).trans rfl) (szT _ (by decide)) (lb rfl) ?_; try simp only [szL, aP, aN, aT, aZ, aS, aD, aF, aJ, aK, aM, aO]))) | ((with_reducible refine gSt rfl ?_); refine st2 HS.out rfl rfl rfl rfl (by repeat (first | exact AtI.here | apply AtI.there)) ?_; (first | refine sv (u := .agg (List.toArray _)) rfl ?_ | refine sv (u := .int _ _) rfl ?_ | refine sv (u := .slice _ _ _) rfl ?_ | refine sv (u := .bool _) rfl ?_ | refine sv (u := .pointer _) rfl ?_ | refine sv (u := .string _) rfl ?_ | refine sv (u := .map _) rfl ?_ | refine sv (u := .func _ _ _) rfl ?_); refine sw (szT _ (by decide)) rfl (lb rfl) ?_; clear HS; intro w1 HS1; (simp only [Seen.enc, cnEnc, segOf, aL, aZ, aS, putSeg] at HS1); have HS := Aside0.mk HS1; clear HS1)); try simp only [aP, aN, aT, aZ, aS]))
                  go_ret
                  exact ⟨by rw [HEQ.out]; rfl, HS.out.below⟩
    · cases hb3 : (s.kind == 3)
      · cases ga
        all_goals
          rw [hb1, hb2, hb3] at hB
          have HE := Aside0.mk (show errS lim L s = 1 by have h := HEQ.out; rw [show badS lim s = true by simpa using hB] at h; exact h)
          clear hB
          go_wp2_with (first | ((first | ((first | ((with_reducible refine gA rfl ?_); refine sh_alloc HS.out rfl rfl (zeT _ (by decide)) ?_) | ((with_reducible refine gB rfl ?_); refine bx HS.out rfl rfl ?_; first | refine bv (v := .agg (List.toArray _)) rfl ?_ | refine bv (v := .int _ _) rfl ?_ | refine bv (v := .slice _ _ _) rfl ?_ | refine bv (v := .bool _) rfl ?_ | refine bv (v := .pointer _) rfl ?_ | refine bv (v := .string _) rfl ?_ | refine bv (v := .map _) rfl ?_ | refine bv (v := .func _ _ _) rfl ?_) | ((with_reducible refine gL rfl ?_); refine sh_lit HS.out rfl rfl (by go_simp; exact ⟨⟨rfl, rfl⟩, rfl⟩) ?_)); clear HS; intro g w1 hg HS1; (simp only [Seen.enc, cnEnc, zeF, segOf, aL, aC, aE] at HS1); have HS := Aside0.mk HS1; clear HS1) | ((with_reducible refine gLd rfl ?_); refine ld2 HS.out rfl rfl rfl (by repeat (first | exact AtI.here | apply AtI.there)) ?_; (first | refine LdK.one ((agT _ (by decide)).trans rfl) rfl ?_ | (refine LdK.agg ((agT _ (by decide)).trans rfl) (szT _ (by decide)) (lb rfl) ?_; try simp only [szL, aP, aN, aT, aZ, aS, aD, aF, aJ, aK, aM, aO]))) | ((with_reducible refine gSt rfl ?_); refine st2 HS.out rfl rfl rfl rfl (by repeat (first | exact AtI.here | apply AtI.there)) ?_; (first | refine sv (u := .agg (List.toArray _)) rfl ?_ | refine sv (u := .int _ _) rfl ?_ | refine sv (u := .slice _ _ _) rfl ?_ | refine sv (u := .bool _) rfl ?_ | refine sv (u := .pointer _) rfl ?_ | refine sv (u := .string _) rfl ?_ | refine sv (u := .map _) rfl ?_ | refine sv (u := .func _ _ _) rfl ?_); refine sw (szT _ (by decide)) rfl (lb rfl) ?_; clear HS; intro w1 HS1; (simp only [Seen.enc, cnEnc, segOf, aL, aZ, aS, putSeg] at HS1); have HS := Aside0.mk HS1; clear HS1)); try simp only [aP, aN, aT, aZ, aS]))
          go_ret
          exact ⟨by rw [HE.out]; rfl, HS.out.below⟩
      · cases t0 : (s.token == 0)
        · cases ga
          all_goals
            rw [hb1, hb2, hb3, t0] at hB
            have HE := Aside0.mk (show errS lim L s = 1 by have h := HEQ.out; rw [show badS lim s = true by simpa using hB] at h; exact h)
            clear hB
            go_wp2_with (first | ((first | ((first | ((with_reducible refine gA rfl ?_); refine sh_alloc HS.out rfl rfl (zeT _ (by decide)) ?_) | ((with_reducible refine gB rfl ?_); refine bx HS.out rfl rfl ?_; first | refine bv (v := .agg (List.toArray _)) rfl ?_ | refine bv (v := .int _ _) rfl ?_ | refine bv (v := .slice _ _ _) rfl ?_ | refine bv (v := .bool _) rfl ?_ | refine bv (v := .pointer _) rfl ?_ | refine bv (v := .string _) rfl ?_ | refine bv (v := .map _) rfl ?_ | refine bv (v := .func _ _ _) rfl ?_) | ((with_reducible refine gL rfl ?_); refine sh_lit HS.out rfl rfl (by go_simp; exact ⟨⟨rfl, rfl⟩, rfl⟩) ?_)); clear HS; intro g w1 hg HS1; (simp only [Seen.enc, cnEnc, zeF, segOf, aL, aC, aE] at HS1); have HS := Aside0.mk HS1; clear HS1) | ((with_reducible refine gLd rfl ?_); refine ld2 HS.out rfl rfl rfl (by repeat (first | exact AtI.here | apply AtI.there)) ?_; (first | refine LdK.one ((agT _ (by decide)).trans rfl) rfl ?_ | (refine LdK.agg ((agT _ (by decide)).trans rfl) (szT _ (by decide)) (lb rfl) ?_; try simp only [szL, aP, aN, aT, aZ, aS, aD, aF, aJ, aK, aM, aO]))) | ((with_reducible refine gSt rfl ?_); refine st2 HS.out rfl rfl rfl rfl (by repeat (first | exact AtI.here | apply AtI.there)) ?_; (first | refine sv (u := .agg (List.toArray _)) rfl ?_ | refine sv (u := .int _ _) rfl ?_ | refine sv (u := .slice _ _ _) rfl ?_ | refine sv (u := .bool _) rfl ?_ | refine sv (u := .pointer _) rfl ?_ | refine sv (u := .string _) rfl ?_ | refine sv (u := .map _) rfl ?_ | refine sv (u := .func _ _ _) rfl ?_); refine sw (szT _ (by decide)) rfl (lb rfl) ?_; clear HS; intro w1 HS1; (simp only [Seen.enc, cnEnc, segOf, aL, aZ, aS, putSeg] at HS1); have HS := Aside0.mk HS1; clear HS1)); try simp only [aP, aN, aT, aZ, aS]))
            go_ret
            exact ⟨by rw [HE.out]; rfl, HS.out.below⟩
        · cases ga
          · rw [hb1, hb2, hb3, t0] at hB
            have HE := Aside0.mk (show errS lim L s = 1 by have h := HEQ.out; rw [show badS lim s = true by simpa using hB] at h; exact h)
            clear hB
            go_wp2_with (first | ((first | ((first | ((with_reducible refine gA rfl ?_); refine sh_alloc HS.out rfl rfl (zeT _ (by decide)) ?_) | ((with_reducible refine gB rfl ?_); refine bx HS.out rfl rfl ?_; first | refine bv (v := .agg (List.toArray _)) rfl ?_ | refine bv (v := .int _ _) rfl ?_ | refine bv (v := .slice _ _ _) rfl ?_ | refine bv (v := .bool _) rfl ?_ | refine bv (v := .pointer _) rfl ?_ | refine bv (v := .string _) rfl ?_ | refine bv (v := .map _) rfl ?_ | refine bv (v := .func _ _ _) rfl ?_) | ((with_reducible refine gL rfl ?_); refine sh_lit HS.out rfl rfl (by go_simp; exact ⟨⟨rfl, rfl⟩, rfl⟩) ?_)); clear HS; intro g w1 hg HS1; (simp only [Seen.enc, cnEnc, zeF, segOf, aL, aC, aE] at HS1); have HS := Aside0.mk HS1; clear HS1) | ((with_reducible refine gLd rfl ?_); refine ld2 HS.out rfl rfl rfl (by repeat (first | exact AtI.here | apply AtI.there)) ?_; (first | refine LdK.one ((agT _ (by decide)).trans rfl) rfl ?_ | (refine LdK.agg ((agT _ (by decide)).trans rfl) (szT _ (by decide)) (lb rfl) ?_; try simp only [szL, aP, aN, aT, aZ, aS, aD, aF, aJ, aK, aM, aO]))) | ((with_reducible refine gSt rfl ?_); refine st2 HS.out rfl rfl rfl rfl (by repeat (first | exact AtI.here | apply AtI.there)) ?_; (first | refine sv (u := .agg (List.toArray _)) rfl ?_ | refine sv (u := .int _ _) rfl ?_ | refine sv (u := .slice _ _ _) rfl ?_ | refine sv (u := .bool _) rfl ?_ | refine sv (u := .pointer _) rfl ?_ | refine sv (u := .string _) rfl ?_ | refine sv (u := .map _) rfl ?_ | refine sv (u := .func _ _ _) rfl ?_); refine sw (szT _ (by decide)) rfl (lb rfl) ?_; clear HS; intro w1 HS1; (simp only [Seen.enc, cnEnc, segOf, aL, aZ, aS, putSeg] at HS1); have HS := Aside0.mk HS1; clear HS1)); try simp only [aP, aN, aT, aZ, aS]))
            go_ret
            exact ⟨by rw [HE.out]; rfl, HS.out.below⟩
          · rw [hb1, hb2, hb3, t0] at hB
            rw [show badS lim s = false by simpa using hB, hb1, hb2] at HEQ
            clear hB
            go_upto_region 16 with (first | (go_at_call 40; (with_reducible refine (refOpen_any (some ad) k c (l.take k) _ (HT.out.sh HS.out) (by omega)).mono ?_); rintro e w2 ⟨v, S, rfl, HS1⟩; rw [HLE.out] at HS1; obtain ⟨A1, c1, rfl, hc1, _⟩ := row_rd HS1 0 rfl; have HS2 := HS.out.call HS1; clear HS HS1; simp only [aC, aE] at HS2; have HS := Aside0.mk HS2; clear HS2) | ((first | ((first | ((with_reducible refine gA rfl ?_); refine sh_alloc HS.out rfl rfl (zeT _ (by decide)) ?_) | ((with_reducible refine gB rfl ?_); refine bx HS.out rfl rfl ?_; first | refine bv (v := .agg (List.toArray _)) rfl ?_ | refine bv (v := .int _ _) rfl ?_ | refine bv (v := .slice _ _ _) rfl ?_ | refine bv (v := .bool _) rfl ?_ | refine bv (v := .pointer _) rfl ?_ | refine bv (v := .string _) rfl ?_ | refine bv (v := .map _) rfl ?_ | refine bv (v := .func _ _ _) rfl ?_) | ((with_reducible refine gL rfl ?_); refine sh_lit HS.out rfl rfl (by go_simp; exact ⟨⟨rfl, rfl⟩, rfl⟩) ?_)); clear HS; intro g w1 hg HS1; (simp only [Seen.enc, cnEnc, zeF, segOf, aL, aC, aE] at HS1); have HS := Aside0.mk HS1; clear HS1) | ((with_reducible refine gLd rfl ?_); refine ld2 HS.out rfl rfl rfl (by repeat (first | exact AtI.here | apply AtI.there)) ?_; (first | refine LdK.one ((agT _ (by decide)).trans rfl) rfl ?_ | (refine LdK.agg ((agT _ (by decide)).trans rfl) (szT _ (by decide)) (lb rfl) ?_; try simp only [szL, aP, aN, aT, aZ, aS, aD, aF, aJ, aK, aM, aO]))) | ((with_reducible refine gSt rfl ?_); refine st2 HS.out rfl rfl rfl rfl (by repeat (first | exact AtI.here | apply AtI.there)) ?_; (first | refine sv (u := .agg (List.toArray _)) rfl ?_ | refine sv (u := .int _ _) rfl ?_ | refine sv (u := .slice _ _ _) rfl ?_ | refine sv (u := .bool _) rfl ?_ | refine sv (u := .pointer _) rfl ?_ | refine sv (u := .string _) rfl ?_ | refine sv (u := .map _) rfl ?_ | refine sv (u := .func _ _ _) rfl ?_); refine sw (szT _ (by decide)) rfl (lb rfl) ?_; clear HS; intro w1 HS1; (simp only [Seen.enc, cnEnc, segOf, aL, aZ, aS, putSeg] at HS1); have HS := Aside0.mk HS1; clear HS1)); try simp only [aP, aN, aT, aZ, aS]))
            go_loopw [9, 10, 11, 62] (fun v9 v10 v11 v62 wr => ∃ j : Nat, j ≤ L.length ∧ v62 = .int .i64 j ∧ v9 = .bool ((L.take j).any (isC s)) ∧ v10 = .bool ((L.take j).any (otherC s)) ∧ v11 = .int .i64 (manyOf (L.take j) s.node : Int) ∧ Aside0 (SH w wr [blk gs [.int .i64 s.kind, .int .i64 s.node, .int .i64 s.token] 28, row cnK 56 (.slice A1 L.length c1) L S])) (fun _ _ _ v62 _ => L.length - (intOf v62).toNat)
            case atStart => exact ⟨0, Nat.zero_le _, rfl, rfl, rfl, rfl, HS⟩
            case round =>
              clear HS
              obtain ⟨j, hj, rfl, rfl, rfl, rfl, HS⟩ := hrel
              by_cases hjl : j < L.length
              · have hrd := row_rds (hl := cnLen) (h1 := cnOne) 1 rfl _ HS.out
                obtain ⟨ad1, rfl⟩ := hrd.addr (by omega)
                obtain ⟨y, hy⟩ : ∃ y, L.getD j default = y := ⟨_, rfl⟩
                have HY := Aside0.mk hy
                have HRL := Aside0.mk hrd
                have HF1 := Aside0.mk (any_succ (isC s) hjl hy)
                have HF2 := Aside0.mk (any_succ (otherC s) hjl hy)
                have HF3 := Aside0.mk (many_succ s.node hjl hy)
                have hmj : manyOf (L.take j) s.node ≤ j := Nat.le_trans List.countP_le_length (by rw [List.length_take]; omega)
                clear hy hrd
                obtain ⟨mn, hmn⟩ : ∃ mn : Nat, manyOf (L.take j) s.node = mn := ⟨_, rfl⟩
                obtain ⟨bi, hbi⟩ : ∃ b, (L.take j).any (isC s) = b := ⟨_, rfl⟩
                obtain ⟨bo, hbo⟩ : ∃ b, (L.take j).any (otherC s) = b := ⟨_, rfl⟩
                rw [hmn] at hmj HF3 ⊢
                rw [hbi] at HF1 ⊢
                rw [hbo] at HF2 ⊢
                clear hmn hbi hbo
                have hqw : IntKind.i64.wrap ((mn : Int) + 1) = (mn : Int) + 1 := IntWalk.i64_in _ (by omega)
                cases e1 : (y.1 == s.node) <;> cases bi <;> cases bo
                all_goals
                  have e1' := congrArg (!·) e1
                  simp only [Bool.not_false, Bool.not_true] at e1'
                  rw [← bne] at e1'
                  have HI := Aside0.mk (show isC s y = _ by unfold isC; rw [e1])
                  have HO := Aside0.mk (show otherC s y = _ by unfold otherC; rw [e1'])
                  have HE1 := Aside0.mk e1
                  go_wp2_with (first | ((with_reducible refine gLd rfl ?_); refine rd_load HRL.out rfl rfl (i := j) rfl hjl default cnLen ((agT _ (by decide)).trans rfl) (szT _ (by decide)) ?_; intro x hx; obtain rfl := HY.out.symm.trans hx; (try simp only [Seen.enc, cnEnc, aP, aN, aT, aZ, aS])) | ((first | ((first | ((with_reducible refine gA rfl ?_); refine sh_alloc HS.out rfl rfl (zeT _ (by decide)) ?_) | ((with_reducible refine gB rfl ?_); refine bx HS.out rfl rfl ?_; first | refine bv (v := .agg (List.toArray _)) rfl ?_ | refine bv (v := .int _ _) rfl ?_ | refine bv (v := .slice _ _ _) rfl ?_ | refine bv (v := .bool _) rfl ?_ | refine bv (v := .pointer _) rfl ?_ | refine bv (v := .string _) rfl ?_ | refine bv (v := .map _) rfl ?_ | refine bv (v := .func _ _ _) rfl ?_) | ((with_reducible refine gL rfl ?_); refine sh_lit HS.out rfl rfl (by go_simp; exact ⟨⟨rfl, rfl⟩, rfl⟩) ?_)); clear HS; intro g w1 hg HS1; (simp only [Seen.enc, cnEnc, zeF, segOf, aL, aC, aE] at HS1); have HS := Aside0.mk HS1; clear HS1) | ((with_reducible refine gLd rfl ?_); refine ld2 HS.out rfl rfl rfl (by repeat (first | exact AtI.here | apply AtI.there)) ?_; (first | refine LdK.one ((agT _ (by decide)).trans rfl) rfl ?_ | (refine LdK.agg ((agT _ (by decide)).trans rfl) (szT _ (by decide)) (lb rfl) ?_; try simp only [szL, aP, aN, aT, aZ, aS, aD, aF, aJ, aK, aM, aO]))) | ((with_reducible refine gSt rfl ?_); refine st2 HS.out rfl rfl rfl rfl (by repeat (first | exact AtI.here | apply AtI.there)) ?_; (first | refine sv (u := .agg (List.toArray _)) rfl ?_ | refine sv (u := .int _ _) rfl ?_ | refine sv (u := .slice _ _ _) rfl ?_ | refine sv (u := .bool _) rfl ?_ | refine sv (u := .pointer _) rfl ?_ | refine sv (u := .string _) rfl ?_ | refine sv (u := .map _) rfl ?_ | refine sv (u := .func _ _ _) rfl ?_); refine sw (szT _ (by decide)) rfl (lb rfl) ?_; clear HS; intro w1 HS1; (simp only [Seen.enc, cnEnc, segOf, aL, aZ, aS, putSeg] at HS1); have HS := Aside0.mk HS1; clear HS1)); try simp only [aP, aN, aT, aZ, aS]))
                  go_roundw
                  case rel =>
                    refine ⟨j + 1, by omega, by go_num, ?_, ?_, ?_, ⟨HS.out.pick [0, 1] rfl (by decide)⟩⟩
                    · rw [HF1.out, HI.out]; rfl
                    · rw [HF2.out, HO.out]; rfl
                    · rw [HF3.out, HE1.out]
                      first | rfl | (simp) | (go_num)
                  case measure => simp [intOf]; omega
              · obtain rfl : j = L.length := by omega
                rw [List.take_length]
                have hml : manyOf L s.node ≤ L.length := List.countP_le_length
                obtain ⟨mn, hmn⟩ : ∃ mn : Nat, manyOf L s.node = mn := ⟨_, rfl⟩
                obtain ⟨bi, hbi⟩ : ∃ b, L.any (isC s) = b := ⟨_, rfl⟩
                obtain ⟨bo, hbo⟩ : ∃ b, L.any (otherC s) = b := ⟨_, rfl⟩
                rw [hmn] at HEQ hml ⊢
                rw [hbi] at HEQ ⊢
                rw [hbo] at HEQ ⊢
                clear hmn hbi hbo
                obtain ⟨m8, hm8⟩ : ∃ b, decide (8 ≤ mn) = b := ⟨_, rfl⟩
                rw [hm8] at HEQ
                have hm8' : decide ((8 : Int) ≤ (mn : Int)) = m8 := by rw [← hm8]; congr 1; simp; omega
                clear hm8
                skip
                all_goals
                  have hm9 := hm8'
                  try simp only [decide_eq_true_eq, decide_eq_false_iff_not] at hm9
                  go_wp2_with (first | ((first | ((first | ((with_reducible refine gA rfl ?_); refine sh_alloc HS.out rfl rfl (zeT _ (by decide)) ?_) | ((with_reducible refine gB rfl ?_); refine bx HS.out rfl rfl ?_; first | refine bv (v := .agg (List.toArray _)) rfl ?_ | refine bv (v := .int _ _) rfl ?_ | refine bv (v := .slice _ _ _) rfl ?_ | refine bv (v := .bool _) rfl ?_ | refine bv (v := .pointer _) rfl ?_ | refine bv (v := .string _) rfl ?_ | refine bv (v := .map _) rfl ?_ | refine bv (v := .func _ _ _) rfl ?_) | ((with_reducible refine gL rfl ?_); refine sh_lit HS.out rfl rfl (by go_simp; exact ⟨⟨rfl, rfl⟩, rfl⟩) ?_)); clear HS; intro g w1 hg HS1; (simp only [Seen.enc, cnEnc, zeF, segOf, aL, aC, aE] at HS1); have HS := Aside0.mk HS1; clear HS1) | ((with_reducible refine gLd rfl ?_); refine ld2 HS.out rfl rfl rfl (by repeat (first | exact AtI.here | apply AtI.there)) ?_; (first | refine LdK.one ((agT _ (by decide)).trans rfl) rfl ?_ | (refine LdK.agg ((agT _ (by decide)).trans rfl) (szT _ (by decide)) (lb rfl) ?_; try simp only [szL, aP, aN, aT, aZ, aS, aD, aF, aJ, aK, aM, aO]))) | ((with_reducible refine gSt rfl ?_); refine st2 HS.out rfl rfl rfl rfl (by repeat (first | exact AtI.here | apply AtI.there)) ?_; (first | refine sv (u := .agg (List.toArray _)) rfl ?_ | refine sv (u := .int _ _) rfl ?_ | refine sv (u := .slice _ _ _) rfl ?_ | refine sv (u := .bool _) rfl ?_ | refine sv (u := .pointer _) rfl ?_ | refine sv (u := .string _) rfl ?_ | refine sv (u := .map _) rfl ?_ | refine sv (u := .func _ _ _) rfl ?_); refine sw (szT _ (by decide)) rfl (lb rfl) ?_; clear HS; intro w1 HS1; (simp only [Seen.enc, cnEnc, segOf, aL, aZ, aS, putSeg] at HS1); have HS := Aside0.mk HS1; clear HS1)); try simp only [aP, aN, aT, aZ, aS]))
                  go_ret
                  exact ⟨by rw [HEQ.out]; rfl, HS.out.below⟩
end Go.Proofs.Ytkggchahhpmpbaa.Jue
