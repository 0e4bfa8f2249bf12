import Derived.Test.YtekjihmepdhmeaaLec3j
/- Lemmas towards the law: what of the text Lec4 it needs. -/
namespace Go.Proofs.Ytekjihmepdhmeaa.Led
open Go.RowKit Go.Proofs.YtekjihmepdhmeaaW.PrintWords Go.Proofs.Ytekjihmepdhmeaa.Sl
set_option linter.unusedVariables false
set_option linter.unusedSimpArgs false
set_option maxHeartbeats 400000 in
set_option maxRecDepth 100000 in
theorem refAnswer_any (lim nxt : Int) (v2 v3 : Value) (x : Ans) (w : World) (hs : 0 ≤ x.serial) :
    Calls Try.prog 104 #[.agg #[.int .i64 lim, .int .u64 nxt, v2, v3], .agg #[.int .i64 x.code, .int .i64 x.token, .int .u64 x.serial]] w (fun e w' => e = .returned (.bool (okAns lim nxt x)) ∧ Below w.heap.size w w') := by
  generalize hb : okAns lim nxt x = b
  have HB := Aside0.mk hb
  clear hb
  have HS := Aside0.mk (SH.start w)
  go_enter Try.func104, Try.ntmps104
  go_wp2_with (first | ((with_reducible refine gGd rfl ?_); refine gsplit rfl rfl ?_ ?_ <;> (intro h; (fail_if_success guard_hyp h : true = true); (fail_if_success guard_hyp h : false = false); (fail_if_success guard_hyp h : true = false); (fail_if_success guard_hyp h : false = true); rewrite [h]; (try simp only [decide_eq_true_eq, decide_eq_false_iff_not, Bool.not_eq_true', Bool.not_eq_false', Int.not_lt, Int.not_le] at h);  (try first | contradiction | go_big_false); (try with_reducible refine WP.mk ?_))) | ((first | ((first | ((with_reducible refine gA rfl ?_); refine sh_alloc HS.out rfl rfl (zeT _ (by decide)) ?_) | ((with_reducible refine gB rfl ?_); refine bx HS.out rfl rfl ?_; first | refine bv (v := .agg (List.toArray _)) rfl ?_ | refine bv (v := .int _ _) rfl ?_ | refine bv (v := .slice _ _ _) rfl ?_ | refine bv (v := .bool _) rfl ?_ | refine bv (v := .pointer _) rfl ?_) | ((with_reducible refine gL rfl ?_); refine sh_lit HS.out rfl rfl (by go_simp; exact ⟨⟨rfl, rfl⟩, rfl⟩) ?_)); clear HS; intro g w1 hg HS1; (simp only [Held.enc, Last.enc, zeF, segOf, aL, aC, aE] at HS1); have HS := Aside0.mk HS1; clear HS1) | ((with_reducible refine gLd rfl ?_); refine ld2 HS.out rfl rfl rfl (by repeat (first | exact AtI.here | apply AtI.there)) ?_; (first | refine LdK.one ((agT _ (by decide)).trans rfl) rfl ?_ | (refine LdK.agg ((agT _ (by decide)).trans rfl) (szT _ (by decide)) (lb rfl) ?_; try simp only [szL, aP, aN, aT, aZ, aS, aD, aF, aJ, aK, aM, aO]))) | ((with_reducible refine gSt rfl ?_); refine st2 HS.out rfl rfl rfl rfl (by repeat (first | exact AtI.here | apply AtI.there)) ?_; (first | refine sv (u := .agg (List.toArray _)) rfl ?_ | refine sv (u := .int _ _) rfl ?_ | refine sv (u := .slice _ _ _) rfl ?_ | refine sv (u := .bool _) rfl ?_ | refine sv (u := .pointer _) rfl ?_); refine sw (szT _ (by decide)) rfl (lb rfl) ?_; clear HS; intro w1 HS1; (simp only [Held.enc, Last.enc, segOf, aL, aZ, aS, putSeg] at HS1); have HS := Aside0.mk HS1; clear HS1)); try simp only [aP, aN, aT, aZ, aS]))
  all_goals
    go_ret
    refine ⟨?_, HS.out.below⟩
    rw [← HB.out]
    refine congrArg (fun b => Ending.returned (Value.bool b)) ?_
    clear HS HB
    (repeat (rename ∀ (_ : Act) (_ : World), _ => hK9; clear hK9))
    unfold okAns
    grind
theorem hAll_no {lim nxt : Int} {l : List Held} {k : Nat} (hk : k < l.length) (h : hOk lim nxt l k = false) : hAll lim nxt l l.length = false := by
  unfold hAll
  rw [decide_eq_false_iff_not]
  intro hn
  rw [hn k hk] at h
  cases h
theorem hOk_dup {lim nxt : Int} {l : List Held} {j k : Nat} (hk : k < l.length) (hjk : j < k) (h : (l.getD j default).serial = (l.getD k default).serial) : hOk lim nxt l k = false := by
  unfold hOk
  have : (l.take k).any (fun g => g.serial == (l.getD k default).serial) = true := by
    rw [List.any_eq_true]
    refine ⟨l.getD j default, ?_, beq_iff_eq.2 h⟩
    have hj : j < l.length := by omega
    rw [List.getD_eq_getElem?_getD, List.getElem?_eq_getElem hj, Option.getD_some, List.mem_take_iff_getElem]
    exact ⟨j, by omega, rfl⟩
  rw [this]
  simp
theorem hOk_yes {lim nxt : Int} {l : List Held} {k : Nat} (h0 : hOk0 lim nxt l k = true) (h : ∀ i, i < k → (l.getD i default).serial ≠ (l.getD k default).serial) : hOk lim nxt l k = true := by
  unfold hOk
  rw [h0, Bool.true_and, Bool.not_eq_true', List.any_eq_false]
  intro g hg
  obtain ⟨i, hi, rfl⟩ := List.mem_take_iff_getElem.1 hg
  have := h i (by omega)
  have hi' : i < l.length := by omega
  have e := List.getD_eq_getElem?_getD (l := l) (i := i) (a := default)
  rw [List.getElem?_eq_getElem hi', Option.getD_some] at e
  rw [e] at this
  exact fun e => this (beq_iff_eq.1 e)
theorem hAll_more {lim nxt : Int} {l : List Held} {k : Nat} (h : hAll lim nxt l k = true) (h1 : hOk lim nxt l k = true) : hAll lim nxt l (k + 1) = true := by
  unfold hAll at *
  rw [all_succ, h, h1]
  rfl
theorem lAll_more {lim nxt : Int} {m : List Last} {k : Nat} (h : lAll lim nxt m k = true) (h1 : lOk lim nxt m k = true) : lAll lim nxt m (k + 1) = true := by
  unfold lAll at *
  rw [all_succ, h, h1]
  rfl
theorem lAll_no {lim nxt : Int} {m : List Last} {k : Nat} (hk : k < m.length) (h : lOk lim nxt m k = false) : lAll lim nxt m m.length = false := by
  unfold lAll
  rw [decide_eq_false_iff_not]
  intro hn
  rw [hn k hk] at h
  cases h
theorem hOk_no {lim nxt : Int} {l : List Held} {k : Nat} (h : hOk0 lim nxt l k = false) : hOk lim nxt l k = false := by
  unfold hOk
  rw [h]
  rfl
set_option maxHeartbeats 12800000 in
set_option maxRecDepth 100000 in
theorem refCk_any (A B : Option Addr) (c c' : Nat) (lim nxt : Int) (l : List Held) (m : List Last) (w : World) {N M : Nat} (hr : Rd Held.enc 5 w A N l) (hr' : Rd Last.enc 6 w B M m) (hc : N ≤ c)
    (hs : ∀ x ∈ m, 0 ≤ x.ans.serial) :
    Calls Try.prog 85 #[.agg #[.int .i64 lim, .int .u64 nxt, .slice A N c, .slice B M c']] w (fun e w' => e = .returned (.int .i64 (if isLed lim nxt l m then 0 else 50)) ∧ Below w.heap.size w w') := by
  obtain rfl := hr.len.1
  obtain rfl := hr'.len.1
  have hm := hr.len.2
  have hm' := hr'.len.2
  have HR := Aside0.mk hr
  have HR' := Aside0.mk hr'
  have HSER := Aside0.mk hs
  clear hr hr' hs
  generalize hck : (if isLed lim nxt l m then (0 : Int) else 50) = ck
  rw [show isLed lim nxt l m = (good0 lim nxt l.length && hAll lim nxt l l.length && lAll lim nxt m m.length) from rfl] at hck
  have HCK := Aside0.mk hck
  clear hck
  have HS := Aside0.mk (SH.start w)
  go_enter Try.func85, Try.ntmps85
  go_wp2_with (first | ((first | ((first | ((with_reducible refine gA rfl ?_); refine sh_alloc HS.out rfl rfl (zeT _ (by decide)) ?_) | ((with_reducible refine gB rfl ?_); refine bx HS.out rfl rfl ?_; first | refine bv (v := .agg (List.toArray _)) rfl ?_ | refine bv (v := .int _ _) rfl ?_ | refine bv (v := .slice _ _ _) rfl ?_ | refine bv (v := .bool _) rfl ?_ | refine bv (v := .pointer _) rfl ?_) | ((with_reducible refine gL rfl ?_); refine sh_lit HS.out rfl rfl (by go_simp; exact ⟨⟨rfl, rfl⟩, rfl⟩) ?_)); clear HS; intro g w1 hg HS1; (simp only [Held.enc, Last.enc, zeF, segOf, aL, aC, aE] at HS1); have HS := Aside0.mk HS1; clear HS1) | ((with_reducible refine gLd rfl ?_); refine ld2 HS.out rfl rfl rfl (by repeat (first | exact AtI.here | apply AtI.there)) ?_; (first | refine LdK.one ((agT _ (by decide)).trans rfl) rfl ?_ | (refine LdK.agg ((agT _ (by decide)).trans rfl) (szT _ (by decide)) (lb rfl) ?_; try simp only [szL, aP, aN, aT, aZ, aS, aD, aF, aJ, aK, aM, aO]))) | ((with_reducible refine gSt rfl ?_); refine st2 HS.out rfl rfl rfl rfl (by repeat (first | exact AtI.here | apply AtI.there)) ?_; (first | refine sv (u := .agg (List.toArray _)) rfl ?_ | refine sv (u := .int _ _) rfl ?_ | refine sv (u := .slice _ _ _) rfl ?_ | refine sv (u := .bool _) rfl ?_ | refine sv (u := .pointer _) rfl ?_); refine sw (szT _ (by decide)) rfl (lb rfl) ?_; clear HS; intro w1 HS1; (simp only [Held.enc, Last.enc, segOf, aL, aZ, aS, putSeg] at HS1); have HS := Aside0.mk HS1; clear HS1)); try simp only [aP, aN, aT, aZ, aS]) | ((with_reducible refine gGd rfl ?_); refine gsplit rfl rfl ?_ ?_ <;> (intro h; (fail_if_success guard_hyp h : true = true); (fail_if_success guard_hyp h : false = false); (fail_if_success guard_hyp h : true = false); (fail_if_success guard_hyp h : false = true); rewrite [h]; (try simp only [decide_eq_true_eq, decide_eq_false_iff_not, Bool.not_eq_true', Bool.not_eq_false', Int.not_lt, Int.not_le] at h);  (try first | contradiction | go_big_false); (try with_reducible refine WP.mk ?_))))
  iterate 4
    (go_ret
     refine ⟨?_, HS.out.below⟩
     have hg : good0 lim nxt l.length = false := by
       (repeat (rename ∀ (_ : Act) (_ : World), _ => hK9; clear hK9))
       clear HS HCK HR HR'
       unfold good0
       grind
     rw [← HCK.out, hg]; rfl)
  have hg : good0 lim nxt l.length = true := by
    (repeat (rename ∀ (_ : Act) (_ : World), _ => hK9; clear hK9))
    clear HS HCK HR HR'
    unfold good0
    grind
  rw [hg, Bool.true_and] at HCK
  clear hg
  obtain ⟨gl, hgl⟩ : ∃ gl, gl = g := ⟨_, rfl⟩
  subst hgl
  go_loopw [3, 4, 6, 31] (fun v3 v4 v6 v31 wr => ∃ (k : Nat), k ≤ l.length ∧ v31 = .int .i64 k ∧ Aside0 (hAll lim nxt l k = true) ∧ Aside0 (SH w wr [blk gl [.int .i64 lim, .int .u64 nxt, .slice A l.length c, .slice B m.length c'] 27])) (fun _ _ _ v31 _ => l.length - (intOf v31).toNat)
  case atStart => exact ⟨0, Nat.zero_le _, rfl, ⟨by simp [hAll]⟩, HS⟩
  case round =>
    clear HS
    obtain ⟨k, hk, rfl, HF, HS⟩ := hrel
    by_cases hlt : k < l.length
    · have HR1 := HR.out.sh HS.out
      obtain ⟨ad, rfl⟩ := HR1.addr (by omega)
      have HRR := Aside0.mk HR1
      clear HR1
      generalize hxx : l.getD k default = x0
      have HX0 := Aside0.mk hxx
      have HXX := Aside0.mk hxx
      clear hxx
      go_upto_region 6 with (first | ((with_reducible refine gLd rfl ?_); refine rd_load HRR.out rfl rfl (i := k) rfl hlt default Held.len ((agT _ (by decide)).trans rfl) (szT _ (by decide)) ?_; intro x hx; obtain rfl := HX0.out.symm.trans hx; (try simp only [Held.enc, Last.enc, aP, aN, aT, aZ, aS])) | ((first | ((first | ((with_reducible refine gA rfl ?_); refine sh_alloc HS.out rfl rfl (zeT _ (by decide)) ?_) | ((with_reducible refine gB rfl ?_); refine bx HS.out rfl rfl ?_; first | refine bv (v := .agg (List.toArray _)) rfl ?_ | refine bv (v := .int _ _) rfl ?_ | refine bv (v := .slice _ _ _) rfl ?_ | refine bv (v := .bool _) rfl ?_ | refine bv (v := .pointer _) rfl ?_) | ((with_reducible refine gL rfl ?_); refine sh_lit HS.out rfl rfl (by go_simp; exact ⟨⟨rfl, rfl⟩, rfl⟩) ?_)); clear HS; intro g w1 hg HS1; (simp only [Held.enc, Last.enc, zeF, segOf, aL, aC, aE] at HS1); have HS := Aside0.mk HS1; clear HS1) | ((with_reducible refine gLd rfl ?_); refine ld2 HS.out rfl rfl rfl (by repeat (first | exact AtI.here | apply AtI.there)) ?_; (first | refine LdK.one ((agT _ (by decide)).trans rfl) rfl ?_ | (refine LdK.agg ((agT _ (by decide)).trans rfl) (szT _ (by decide)) (lb rfl) ?_; try simp only [szL, aP, aN, aT, aZ, aS, aD, aF, aJ, aK, aM, aO]))) | ((with_reducible refine gSt rfl ?_); refine st2 HS.out rfl rfl rfl rfl (by repeat (first | exact AtI.here | apply AtI.there)) ?_; (first | refine sv (u := .agg (List.toArray _)) rfl ?_ | refine sv (u := .int _ _) rfl ?_ | refine sv (u := .slice _ _ _) rfl ?_ | refine sv (u := .bool _) rfl ?_ | refine sv (u := .pointer _) rfl ?_); refine sw (szT _ (by decide)) rfl (lb rfl) ?_; clear HS; intro w1 HS1; (simp only [Held.enc, Last.enc, segOf, aL, aZ, aS, putSeg] at HS1); have HS := Aside0.mk HS1; clear HS1)); try simp only [aP, aN, aT, aZ, aS]))
      obtain ⟨gh, hgh⟩ : ∃ gh, gh = g := ⟨_, rfl⟩
      subst hgh
      have hwk : 0 < k → IntKind.i64.wrap ((k : Int) - 1) = ((k - 1 : Nat) : Int) := fun h => by
        simp [IntKind.wrap, IntKind.bits, IntKind.signed]
        omega
      have hlt1 : k - 1 < l.length := by omega
      have HRQ := Aside0.mk (HR.out.rds [blk gl [.int .i64 lim, .int .u64 nxt, .slice (some ad) l.length c, .slice B m.length c'] 27, blk gh [.int .i64 x0.token, .int .i64 x0.node, .int .u64 x0.boot, .int .u64 x0.serial, .int .u64 x0.stamp] 72])
      generalize hyy : l.getD (k - 1) default = y0
      have HY0 := Aside0.mk hyy
      clear hyy
      ((with_reducible refine wp_region_sh mixed (by kernel_rfl) HS.out ?_); (repeat' (first | go_big_quiet_skip | ((with_reducible refine qMv rfl ?_); go_big_quiet_step (fail)) | ((with_reducible refine qAs rfl ?_); go_big_quiet_step (fail)) | ((with_reducible refine qPk rfl ?_); go_big_quiet_step (fail)) | ((with_reducible refine qGd rfl ?_); refine qsplit rfl rfl ?_ ?_ <;> (intro h; (fail_if_success guard_hyp h : true = true); (fail_if_success guard_hyp h : false = false); (fail_if_success guard_hyp h : true = false); (fail_if_success guard_hyp h : false = true); rewrite [h]; (try simp only [decide_eq_true_eq, decide_eq_false_iff_not, Bool.not_eq_true', Bool.not_eq_false', Int.not_lt, Int.not_le] at h);  (try first | contradiction | go_big_false); (try with_reducible refine WQ.mk ?_))) | ((with_reducible refine qBi (op := .sub) rfl ?_); refine q_val rfl (v := (.int .i64 ((k - 1 : Nat) : Int))) (fun w hs => by (repeat (rename ∀ (_ : Act) (_ : World), _ => hK9; clear hK9)); go_simp; rw [hwk (by omega)]) ?_; try simp only [aP, aN, aT, aZ, aS]) | ((with_reducible refine qLd rfl ?_); refine q_rdf HRQ.out rfl rfl (i := (k - 1)) 0 rfl hlt1 default ((agT _ (by decide)).trans rfl) (fun x => .int .i64 x.token) (fun _ => rfl) ?_; intro x hx; obtain rfl := HY0.out.symm.trans hx; (try simp only [aP, aN, aT, aZ, aS])) | ((with_reducible refine qLd rfl ?_); (first | refine q_load rfl rfl rfl 0 rfl ((agT _ (by decide)).trans rfl) rfl ?_ | refine q_load rfl rfl rfl 1 rfl ((agT _ (by decide)).trans rfl) rfl ?_); try simp only [aP, aN, aT, aZ, aS]) | ((with_reducible refine qLd rfl ?_); (first | refine q_loads rfl rfl rfl 0 rfl ((agT _ (by decide)).trans rfl) (szT _ (by decide)) (lb rfl) ?_ | refine q_loads rfl rfl rfl 1 rfl ((agT _ (by decide)).trans rfl) (szT _ (by decide)) (lb rfl) ?_); (try simp only [szL, aP, aN, aT, aZ, aS, aD, aF, aJ, aK, aM, aO])) | ((with_reducible refine qAny ?_); refine q_val rfl (fun w hs => by (repeat (rename ∀ (_ : Act) (_ : World), _ => hK9; clear hK9)); go_simp; rfl) ?_; try simp only [aP, aN, aT, aZ, aS]))); all_goals (refine wpQuiet_nil ?_; clear HS; intro w1 HS1; have HS := Aside0.mk HS1; clear HS1))
      all_goals
        first
        | (have hno : hOk0 lim nxt l k = false := by
             (repeat (rename ∀ (_ : Act) (_ : World), _ => hK9; clear hK9))
             clear HS HSER HCK HRR HRQ HR HR' HF HXX
             have hx := HX0.out
             have hy := HY0.out
             unfold hOk0
             rw [hx, hy]
             grind
           go_wp2_with (fail)
           go_ret
           refine ⟨?_, HS.out.below⟩
           rw [← HCK.out, hAll_no hlt (hOk_no hno)]
           rfl
           done)
        | (by_cases hsn : nxt ≤ x0.serial
           · have hsn' : decide (nxt ≤ x0.serial) = true := decide_eq_true hsn
             have hno : hOk0 lim nxt l k = false := by
               (repeat (rename ∀ (_ : Act) (_ : World), _ => hK9; clear hK9))
               clear HS HSER HCK HRR HRQ HR HR' HF HXX
               have hx := HX0.out
               have hy := HY0.out
               unfold hOk0
               rw [hx, hy]
               grind
             go_wp2_with (fail)
             go_ret
             refine ⟨?_, HS.out.below⟩
             rw [← HCK.out, hAll_no hlt (hOk_no hno)]
             rfl
           · have hsn' : decide (nxt ≤ x0.serial) = false := decide_eq_false hsn
             have hno : hOk0 lim nxt l k = true := by
               (repeat (rename ∀ (_ : Act) (_ : World), _ => hK9; clear hK9))
               clear HS HSER HCK HRR HRQ HR HR' HF HXX
               have hx := HX0.out
               have hy := HY0.out
               unfold hOk0
               rw [hx, hy]
               grind
             clear HRR HX0 HY0
             go_wp2_with (first | ((first | ((first | ((with_reducible refine gA rfl ?_); refine sh_alloc HS.out rfl rfl (zeT _ (by decide)) ?_) | ((with_reducible refine gB rfl ?_); refine bx HS.out rfl rfl ?_; first | refine bv (v := .agg (List.toArray _)) rfl ?_ | refine bv (v := .int _ _) rfl ?_ | refine bv (v := .slice _ _ _) rfl ?_ | refine bv (v := .bool _) rfl ?_ | refine bv (v := .pointer _) rfl ?_) | ((with_reducible refine gL rfl ?_); refine sh_lit HS.out rfl rfl (by go_simp; exact ⟨⟨rfl, rfl⟩, rfl⟩) ?_)); clear HS; intro g w1 hg HS1; (simp only [Held.enc, Last.enc, zeF, segOf, aL, aC, aE] at HS1); have HS := Aside0.mk HS1; clear HS1) | ((with_reducible refine gLd rfl ?_); refine ld2 HS.out rfl rfl rfl (by repeat (first | exact AtI.here | apply AtI.there)) ?_; (first | refine LdK.one ((agT _ (by decide)).trans rfl) rfl ?_ | (refine LdK.agg ((agT _ (by decide)).trans rfl) (szT _ (by decide)) (lb rfl) ?_; try simp only [szL, aP, aN, aT, aZ, aS, aD, aF, aJ, aK, aM, aO]))) | ((with_reducible refine gSt rfl ?_); refine st2 HS.out rfl rfl rfl rfl (by repeat (first | exact AtI.here | apply AtI.there)) ?_; (first | refine sv (u := .agg (List.toArray _)) rfl ?_ | refine sv (u := .int _ _) rfl ?_ | refine sv (u := .slice _ _ _) rfl ?_ | refine sv (u := .bool _) rfl ?_ | refine sv (u := .pointer _) rfl ?_); refine sw (szT _ (by decide)) rfl (lb rfl) ?_; clear HS; intro w1 HS1; (simp only [Held.enc, Last.enc, segOf, aL, aZ, aS, putSeg] at HS1); have HS := Aside0.mk HS1; clear HS1)); try simp only [aP, aN, aT, aZ, aS]))
             go_loopw [6, 99] (fun v6 v99 wr => ∃ (j : Nat), j ≤ k ∧ v99 = .int .i64 j ∧ Aside0 (∀ i, i < j → (l.getD i default).serial ≠ (l.getD k default).serial) ∧ Aside0 (SH w wr [blk gl [.int .i64 lim, .int .u64 nxt, .slice (some ad) l.length c, .slice B m.length c'] 27, blk gh [.int .i64 x0.token, .int .i64 x0.node, .int .u64 x0.boot, .int .u64 x0.serial, .int .u64 x0.stamp] 72])) (fun _ v99 _ => k - (intOf v99).toNat)
             case atStart => exact ⟨0, Nat.zero_le _, rfl, ⟨fun i h => absurd h (Nat.not_lt_zero i)⟩, HS⟩
             case round =>
               clear HS
               obtain ⟨j, hj, rfl, HN, HS⟩ := hrel
               by_cases hjk : j < k
               · (try (exfalso; omega))
                 all_goals
                   have HRR := Aside0.mk (HR.out.sh HS.out)
                   generalize hzz : l.getD j default = z0
                   have HZ0 := Aside0.mk hzz
                   clear hzz
                   by_cases hse : z0.serial = x0.serial
                   · have hse' : decide (z0.serial = x0.serial) = true := decide_eq_true hse
                     go_wp2_with (first | ((with_reducible refine gLd rfl ?_); refine rd_load HRR.out rfl rfl (i := j) rfl (Nat.lt_trans hjk hlt) default Held.len ((agT _ (by decide)).trans rfl) (szT _ (by decide)) ?_; intro x hx; obtain rfl := HZ0.out.symm.trans hx; (try simp only [Held.enc, Last.enc, aP, aN, aT, aZ, aS])) | ((first | ((first | ((with_reducible refine gA rfl ?_); refine sh_alloc HS.out rfl rfl (zeT _ (by decide)) ?_) | ((with_reducible refine gB rfl ?_); refine bx HS.out rfl rfl ?_; first | refine bv (v := .agg (List.toArray _)) rfl ?_ | refine bv (v := .int _ _) rfl ?_ | refine bv (v := .slice _ _ _) rfl ?_ | refine bv (v := .bool _) rfl ?_ | refine bv (v := .pointer _) rfl ?_) | ((with_reducible refine gL rfl ?_); refine sh_lit HS.out rfl rfl (by go_simp; exact ⟨⟨rfl, rfl⟩, rfl⟩) ?_)); clear HS; intro g w1 hg HS1; (simp only [Held.enc, Last.enc, zeF, segOf, aL, aC, aE] at HS1); have HS := Aside0.mk HS1; clear HS1) | ((with_reducible refine gLd rfl ?_); refine ld2 HS.out rfl rfl rfl (by repeat (first | exact AtI.here | apply AtI.there)) ?_; (first | refine LdK.one ((agT _ (by decide)).trans rfl) rfl ?_ | (refine LdK.agg ((agT _ (by decide)).trans rfl) (szT _ (by decide)) (lb rfl) ?_; try simp only [szL, aP, aN, aT, aZ, aS, aD, aF, aJ, aK, aM, aO]))) | ((with_reducible refine gSt rfl ?_); refine st2 HS.out rfl rfl rfl rfl (by repeat (first | exact AtI.here | apply AtI.there)) ?_; (first | refine sv (u := .agg (List.toArray _)) rfl ?_ | refine sv (u := .int _ _) rfl ?_ | refine sv (u := .slice _ _ _) rfl ?_ | refine sv (u := .bool _) rfl ?_ | refine sv (u := .pointer _) rfl ?_); refine sw (szT _ (by decide)) rfl (lb rfl) ?_; clear HS; intro w1 HS1; (simp only [Held.enc, Last.enc, segOf, aL, aZ, aS, putSeg] at HS1); have HS := Aside0.mk HS1; clear HS1)); try simp only [aP, aN, aT, aZ, aS]))
                     go_ret
                     refine ⟨?_, HS.out.below⟩
                     rw [← HCK.out, hAll_no hlt (hOk_dup hlt hjk (by rw [HZ0.out, HXX.out]; exact hse))]
                     rfl
                   · have hse' : decide (z0.serial = x0.serial) = false := decide_eq_false hse
                     go_wp2_with (first | ((with_reducible refine gLd rfl ?_); refine rd_load HRR.out rfl rfl (i := j) rfl (Nat.lt_trans hjk hlt) default Held.len ((agT _ (by decide)).trans rfl) (szT _ (by decide)) ?_; intro x hx; obtain rfl := HZ0.out.symm.trans hx; (try simp only [Held.enc, Last.enc, aP, aN, aT, aZ, aS])) | ((first | ((first | ((with_reducible refine gA rfl ?_); refine sh_alloc HS.out rfl rfl (zeT _ (by decide)) ?_) | ((with_reducible refine gB rfl ?_); refine bx HS.out rfl rfl ?_; first | refine bv (v := .agg (List.toArray _)) rfl ?_ | refine bv (v := .int _ _) rfl ?_ | refine bv (v := .slice _ _ _) rfl ?_ | refine bv (v := .bool _) rfl ?_ | refine bv (v := .pointer _) rfl ?_) | ((with_reducible refine gL rfl ?_); refine sh_lit HS.out rfl rfl (by go_simp; exact ⟨⟨rfl, rfl⟩, rfl⟩) ?_)); clear HS; intro g w1 hg HS1; (simp only [Held.enc, Last.enc, zeF, segOf, aL, aC, aE] at HS1); have HS := Aside0.mk HS1; clear HS1) | ((with_reducible refine gLd rfl ?_); refine ld2 HS.out rfl rfl rfl (by repeat (first | exact AtI.here | apply AtI.there)) ?_; (first | refine LdK.one ((agT _ (by decide)).trans rfl) rfl ?_ | (refine LdK.agg ((agT _ (by decide)).trans rfl) (szT _ (by decide)) (lb rfl) ?_; try simp only [szL, aP, aN, aT, aZ, aS, aD, aF, aJ, aK, aM, aO]))) | ((with_reducible refine gSt rfl ?_); refine st2 HS.out rfl rfl rfl rfl (by repeat (first | exact AtI.here | apply AtI.there)) ?_; (first | refine sv (u := .agg (List.toArray _)) rfl ?_ | refine sv (u := .int _ _) rfl ?_ | refine sv (u := .slice _ _ _) rfl ?_ | refine sv (u := .bool _) rfl ?_ | refine sv (u := .pointer _) rfl ?_); refine sw (szT _ (by decide)) rfl (lb rfl) ?_; clear HS; intro w1 HS1; (simp only [Held.enc, Last.enc, segOf, aL, aZ, aS, putSeg] at HS1); have HS := Aside0.mk HS1; clear HS1)); try simp only [aP, aN, aT, aZ, aS]))
                     have HS1 := HS.out.pick [0, 1] rfl (by decide)
                     clear HS
                     have HS := Aside0.mk HS1
                     clear HS1
                     go_roundw
                     case rel =>
                       refine ⟨j + 1, by omega, by go_num, ⟨fun i hi => ?_⟩, HS⟩
                       by_cases hij : i < j
                       · exact HN.out i hij
                       · obtain rfl : i = j := by omega
                         rw [HZ0.out, HXX.out]
                         exact hse
                     case measure => simp [intOf]; omega
               · obtain rfl : j = k := by omega
                 go_wp2_with (first | ((first | ((first | ((with_reducible refine gA rfl ?_); refine sh_alloc HS.out rfl rfl (zeT _ (by decide)) ?_) | ((with_reducible refine gB rfl ?_); refine bx HS.out rfl rfl ?_; first | refine bv (v := .agg (List.toArray _)) rfl ?_ | refine bv (v := .int _ _) rfl ?_ | refine bv (v := .slice _ _ _) rfl ?_ | refine bv (v := .bool _) rfl ?_ | refine bv (v := .pointer _) rfl ?_) | ((with_reducible refine gL rfl ?_); refine sh_lit HS.out rfl rfl (by go_simp; exact ⟨⟨rfl, rfl⟩, rfl⟩) ?_)); clear HS; intro g w1 hg HS1; (simp only [Held.enc, Last.enc, zeF, segOf, aL, aC, aE] at HS1); have HS := Aside0.mk HS1; clear HS1) | ((with_reducible refine gLd rfl ?_); refine ld2 HS.out rfl rfl rfl (by repeat (first | exact AtI.here | apply AtI.there)) ?_; (first | refine LdK.one ((agT _ (by decide)).trans rfl) rfl ?_ | (refine LdK.agg ((agT _ (by decide)).trans rfl) (szT _ (by decide)) (lb rfl) ?_; try simp only [szL, aP, aN, aT, aZ, aS, aD, aF, aJ, aK, aM, aO]))) | ((with_reducible refine gSt rfl ?_); refine st2 HS.out rfl rfl rfl rfl (by repeat (first | exact AtI.here | apply AtI.there)) ?_; (first | refine sv (u := .agg (List.toArray _)) rfl ?_ | refine sv (u := .int _ _) rfl ?_ | refine sv (u := .slice _ _ _) rfl ?_ | refine sv (u := .bool _) rfl ?_ | refine sv (u := .pointer _) rfl ?_); refine sw (szT _ (by decide)) rfl (lb rfl) ?_; clear HS; intro w1 HS1; (simp only [Held.enc, Last.enc, segOf, aL, aZ, aS, putSeg] at HS1); have HS := Aside0.mk HS1; clear HS1)); try simp only [aP, aN, aT, aZ, aS]))
                 have HS1 := HS.out.pick [0] rfl (by decide)
                 clear HS
                 have HS := Aside0.mk HS1
                 clear HS1
                 go_roundw
                 case rel => exact ⟨j + 1, by omega, by go_num, ⟨hAll_more HF.out (hOk_yes hno HN.out)⟩, HS⟩
                 case measure => simp [intOf]; omega)
    · obtain rfl : k = l.length := by omega
      clear hlt
      go_wp2_with (first | ((first | ((first | ((with_reducible refine gA rfl ?_); refine sh_alloc HS.out rfl rfl (zeT _ (by decide)) ?_) | ((with_reducible refine gB rfl ?_); refine bx HS.out rfl rfl ?_; first | refine bv (v := .agg (List.toArray _)) rfl ?_ | refine bv (v := .int _ _) rfl ?_ | refine bv (v := .slice _ _ _) rfl ?_ | refine bv (v := .bool _) rfl ?_ | refine bv (v := .pointer _) rfl ?_) | ((with_reducible refine gL rfl ?_); refine sh_lit HS.out rfl rfl (by go_simp; exact ⟨⟨rfl, rfl⟩, rfl⟩) ?_)); clear HS; intro g w1 hg HS1; (simp only [Held.enc, Last.enc, zeF, segOf, aL, aC, aE] at HS1); have HS := Aside0.mk HS1; clear HS1) | ((with_reducible refine gLd rfl ?_); refine ld2 HS.out rfl rfl rfl (by repeat (first | exact AtI.here | apply AtI.there)) ?_; (first | refine LdK.one ((agT _ (by decide)).trans rfl) rfl ?_ | (refine LdK.agg ((agT _ (by decide)).trans rfl) (szT _ (by decide)) (lb rfl) ?_; try simp only [szL, aP, aN, aT, aZ, aS, aD, aF, aJ, aK, aM, aO]))) | ((with_reducible refine gSt rfl ?_); refine st2 HS.out rfl rfl rfl rfl (by repeat (first | exact AtI.here | apply AtI.there)) ?_; (first | refine sv (u := .agg (List.toArray _)) rfl ?_ | refine sv (u := .int _ _) rfl ?_ | refine sv (u := .slice _ _ _) rfl ?_ | refine sv (u := .bool _) rfl ?_ | refine sv (u := .pointer _) rfl ?_); refine sw (szT _ (by decide)) rfl (lb rfl) ?_; clear HS; intro w1 HS1; (simp only [Held.enc, Last.enc, segOf, aL, aZ, aS, putSeg] at HS1); have HS := Aside0.mk HS1; clear HS1)); try simp only [aP, aN, aT, aZ, aS]))
      go_loopw [7, 8, 113] (fun v7 v8 v113 wr => ∃ (k : Nat), k ≤ m.length ∧ v113 = .int .i64 k ∧ Aside0 (lAll lim nxt m k = true) ∧ Aside0 (SH w wr [blk gl [.int .i64 lim, .int .u64 nxt, .slice A l.length c, .slice B m.length c'] 27])) (fun _ _ v113 _ => m.length - (intOf v113).toNat)
      case atStart => exact ⟨0, Nat.zero_le _, rfl, ⟨by simp [lAll]⟩, HS⟩
      case round =>
        clear HS
        obtain ⟨k, hk, rfl, HF2, HS⟩ := hrel
        by_cases hlt : k < m.length
        · have HR1 := HR'.out.sh HS.out
          obtain ⟨ad, rfl⟩ := HR1.addr (by omega)
          have HRR := Aside0.mk HR1
          clear HR1
          generalize hxx : m.getD k default = x0
          have HX0 := Aside0.mk hxx
          have hse := HSER.out x0 (getD_mem hlt hxx)
          clear hxx
          generalize hoa : okAns lim nxt x0.ans = oa
          have HCALL := Aside0.mk (show ∀ (v2 v3 : Value) (w : World), Calls Try.prog 104 #[.agg #[.int .i64 lim, .int .u64 nxt, v2, v3], .agg #[.int .i64 x0.ans.code, .int .i64 x0.ans.token, .int .u64 x0.ans.serial]] w (fun e w' => e = .returned (.bool oa) ∧ Below w.heap.size w w') from fun v2 v3 w => by
            have := refAnswer_any lim nxt v2 v3 x0.ans w hse
            rwa [hoa] at this)
          have HOA := Aside0.mk hoa
          clear hoa hse
          go_upto_region 18 with (first | ((with_reducible refine gLd rfl ?_); refine rd_load HRR.out rfl rfl (i := k) rfl hlt default Last.len ((agT _ (by decide)).trans rfl) (szT _ (by decide)) ?_; intro x hx; obtain rfl := HX0.out.symm.trans hx; (try simp only [Held.enc, Last.enc, aP, aN, aT, aZ, aS])) | ((first | ((first | ((with_reducible refine gA rfl ?_); refine sh_alloc HS.out rfl rfl (zeT _ (by decide)) ?_) | ((with_reducible refine gB rfl ?_); refine bx HS.out rfl rfl ?_; first | refine bv (v := .agg (List.toArray _)) rfl ?_ | refine bv (v := .int _ _) rfl ?_ | refine bv (v := .slice _ _ _) rfl ?_ | refine bv (v := .bool _) rfl ?_ | refine bv (v := .pointer _) rfl ?_) | ((with_reducible refine gL rfl ?_); refine sh_lit HS.out rfl rfl (by go_simp; exact ⟨⟨rfl, rfl⟩, rfl⟩) ?_)); clear HS; intro g w1 hg HS1; (simp only [Held.enc, Last.enc, zeF, segOf, aL, aC, aE] at HS1); have HS := Aside0.mk HS1; clear HS1) | ((with_reducible refine gLd rfl ?_); refine ld2 HS.out rfl rfl rfl (by repeat (first | exact AtI.here | apply AtI.there)) ?_; (first | refine LdK.one ((agT _ (by decide)).trans rfl) rfl ?_ | (refine LdK.agg ((agT _ (by decide)).trans rfl) (szT _ (by decide)) (lb rfl) ?_; try simp only [szL, aP, aN, aT, aZ, aS, aD, aF, aJ, aK, aM, aO]))) | ((with_reducible refine gSt rfl ?_); refine st2 HS.out rfl rfl rfl rfl (by repeat (first | exact AtI.here | apply AtI.there)) ?_; (first | refine sv (u := .agg (List.toArray _)) rfl ?_ | refine sv (u := .int _ _) rfl ?_ | refine sv (u := .slice _ _ _) rfl ?_ | refine sv (u := .bool _) rfl ?_ | refine sv (u := .pointer _) rfl ?_); refine sw (szT _ (by decide)) rfl (lb rfl) ?_; clear HS; intro w1 HS1; (simp only [Held.enc, Last.enc, segOf, aL, aZ, aS, putSeg] at HS1); have HS := Aside0.mk HS1; clear HS1)); try simp only [aP, aN, aT, aZ, aS]))
          obtain ⟨gh, hgh⟩ : ∃ gh, gh = g := ⟨_, rfl⟩
          subst hgh
          have hwk : 0 < k → IntKind.i64.wrap ((k : Int) - 1) = ((k - 1 : Nat) : Int) := fun h => by
            simp [IntKind.wrap, IntKind.bits, IntKind.signed]
            omega
          have hlt1 : k - 1 < m.length := by omega
          have HRQ := Aside0.mk (HR'.out.rds [blk gl [.int .i64 lim, .int .u64 nxt, .slice A l.length c, .slice (some ad) m.length c'] 27, blk gh [.int .i64 x0.node, .int .u64 x0.boot, .int .u64 x0.seq, .int .i64 x0.ans.code, .int .i64 x0.ans.token, .int .u64 x0.ans.serial] 76])
          generalize hyy : m.getD (k - 1) default = y0
          have HY0 := Aside0.mk hyy
          clear hyy
          ((with_reducible refine wp_region_sh mixed (by kernel_rfl) HS.out ?_); (repeat' (first | go_big_quiet_skip | ((with_reducible refine qMv rfl ?_); go_big_quiet_step (fail)) | ((with_reducible refine qAs rfl ?_); go_big_quiet_step (fail)) | ((with_reducible refine qPk rfl ?_); go_big_quiet_step (fail)) | ((with_reducible refine qGd rfl ?_); refine qsplit rfl rfl ?_ ?_ <;> (intro h; (fail_if_success guard_hyp h : true = true); (fail_if_success guard_hyp h : false = false); (fail_if_success guard_hyp h : true = false); (fail_if_success guard_hyp h : false = true); rewrite [h]; (try simp only [decide_eq_true_eq, decide_eq_false_iff_not, Bool.not_eq_true', Bool.not_eq_false', Int.not_lt, Int.not_le] at h);  (try first | contradiction | go_big_false); (try with_reducible refine WQ.mk ?_))) | ((with_reducible refine qCl rfl ?_); refine q_call rfl rfl (vs := #[.agg #[.int .i64 lim, .int .u64 nxt, .slice A l.length c, .slice (some ad) m.length c'], .agg #[.int .i64 x0.ans.code, .int .i64 x0.ans.token, .int .u64 x0.ans.serial]]) (v := .bool oa) (by rw [List.map_toArray]; rfl) (fnT _ (by decide)) (fun w hs => HCALL.out _ _ w) ?_; (try simp only [aP, aN, aT, aZ, aS])) | ((with_reducible refine qBi (op := .sub) rfl ?_); refine q_val rfl (v := (.int .i64 ((k - 1 : Nat) : Int))) (fun w hs => by (repeat (rename ∀ (_ : Act) (_ : World), _ => hK9; clear hK9)); go_simp; rw [hwk (by omega)]) ?_; try simp only [aP, aN, aT, aZ, aS]) | ((with_reducible refine qLd rfl ?_); refine q_rdf HRQ.out rfl rfl (i := (k - 1)) 0 rfl hlt1 default ((agT _ (by decide)).trans rfl) (fun x => .int .i64 x.node) (fun _ => rfl) ?_; intro x hx; obtain rfl := HY0.out.symm.trans hx; (try simp only [aP, aN, aT, aZ, aS])) | ((with_reducible refine qLd rfl ?_); (first | refine q_load rfl rfl rfl 0 rfl ((agT _ (by decide)).trans rfl) rfl ?_ | refine q_load rfl rfl rfl 1 rfl ((agT _ (by decide)).trans rfl) rfl ?_); try simp only [aP, aN, aT, aZ, aS]) | ((with_reducible refine qLd rfl ?_); (first | refine q_loads rfl rfl rfl 0 rfl ((agT _ (by decide)).trans rfl) (szT _ (by decide)) (lb rfl) ?_ | refine q_loads rfl rfl rfl 1 rfl ((agT _ (by decide)).trans rfl) (szT _ (by decide)) (lb rfl) ?_); (try simp only [szL, aP, aN, aT, aZ, aS, aD, aF, aJ, aK, aM, aO])) | ((with_reducible refine qAny ?_); refine q_val rfl (fun w hs => by (repeat (rename ∀ (_ : Act) (_ : World), _ => hK9; clear hK9)); go_simp; rfl) ?_; try simp only [aP, aN, aT, aZ, aS]))); all_goals (refine wpQuiet_nil ?_; clear HS; intro w1 HS1; have HS := Aside0.mk HS1; clear HS1))
          all_goals
            first
            | (have hno : lOk lim nxt m k = false := by
                 (repeat (rename ∀ (_ : Act) (_ : World), _ => hK9; clear hK9))
                 have hx := HX0.out
                 have hy := HY0.out
                 have ho := HOA.out
                 clear HS HSER HCK HRR HRQ HR HR' HF HF2 HX0 HY0 HOA HCALL
                 unfold lOk
                 rw [hx, hy]
                 dsimp only
                 rw [ho]
                 grind
               go_wp2_with (fail)
               go_ret
               refine ⟨?_, HS.out.below⟩
               rw [← HCK.out, HF.out, lAll_no hlt hno]
               rfl
               done)
            | (cases oa with
               | false =>
                 have hno : lOk lim nxt m k = false := by
                   (repeat (rename ∀ (_ : Act) (_ : World), _ => hK9; clear hK9))
                   have hx := HX0.out
                   have hy := HY0.out
                   have ho := HOA.out
                   clear HS HSER HCK HRR HRQ HR HR' HF HF2 HX0 HY0 HOA HCALL
                   unfold lOk
                   rw [hx, hy]
                   dsimp only
                   rw [ho]
                   grind
                 go_wp2_with (fail)
                 go_ret
                 refine ⟨?_, HS.out.below⟩
                 rw [← HCK.out, HF.out, lAll_no hlt hno]
                 rfl
               | true =>
                 have hno : lOk lim nxt m k = true := by
                   (repeat (rename ∀ (_ : Act) (_ : World), _ => hK9; clear hK9))
                   have hx := HX0.out
                   have hy := HY0.out
                   have ho := HOA.out
                   clear HS HSER HCK HRR HRQ HR HR' HF HF2 HX0 HY0 HOA HCALL
                   unfold lOk
                   rw [hx, hy]
                   dsimp only
                   rw [ho]
                   grind
                 clear HRR HX0 HY0
                 go_wp2_with (first | ((first | ((first | ((with_reducible refine gA rfl ?_); refine sh_alloc HS.out rfl rfl (zeT _ (by decide)) ?_) | ((with_reducible refine gB rfl ?_); refine bx HS.out rfl rfl ?_; first | refine bv (v := .agg (List.toArray _)) rfl ?_ | refine bv (v := .int _ _) rfl ?_ | refine bv (v := .slice _ _ _) rfl ?_ | refine bv (v := .bool _) rfl ?_ | refine bv (v := .pointer _) rfl ?_) | ((with_reducible refine gL rfl ?_); refine sh_lit HS.out rfl rfl (by go_simp; exact ⟨⟨rfl, rfl⟩, rfl⟩) ?_)); clear HS; intro g w1 hg HS1; (simp only [Held.enc, Last.enc, zeF, segOf, aL, aC, aE] at HS1); have HS := Aside0.mk HS1; clear HS1) | ((with_reducible refine gLd rfl ?_); refine ld2 HS.out rfl rfl rfl (by repeat (first | exact AtI.here | apply AtI.there)) ?_; (first | refine LdK.one ((agT _ (by decide)).trans rfl) rfl ?_ | (refine LdK.agg ((agT _ (by decide)).trans rfl) (szT _ (by decide)) (lb rfl) ?_; try simp only [szL, aP, aN, aT, aZ, aS, aD, aF, aJ, aK, aM, aO]))) | ((with_reducible refine gSt rfl ?_); refine st2 HS.out rfl rfl rfl rfl (by repeat (first | exact AtI.here | apply AtI.there)) ?_; (first | refine sv (u := .agg (List.toArray _)) rfl ?_ | refine sv (u := .int _ _) rfl ?_ | refine sv (u := .slice _ _ _) rfl ?_ | refine sv (u := .bool _) rfl ?_ | refine sv (u := .pointer _) rfl ?_); refine sw (szT _ (by decide)) rfl (lb rfl) ?_; clear HS; intro w1 HS1; (simp only [Held.enc, Last.enc, segOf, aL, aZ, aS, putSeg] at HS1); have HS := Aside0.mk HS1; clear HS1)); try simp only [aP, aN, aT, aZ, aS]))
                 have HS1 := HS.out.pick [0] rfl (by decide)
                 clear HS
                 have HS := Aside0.mk HS1
                 clear HS1
                 go_roundw
                 case rel => exact ⟨k + 1, by omega, by go_num, ⟨lAll_more HF2.out hno⟩, HS⟩
                 case measure => simp [intOf]; omega)
        · obtain rfl : k = m.length := by omega
          go_wp2_with (first | ((first | ((first | ((with_reducible refine gA rfl ?_); refine sh_alloc HS.out rfl rfl (zeT _ (by decide)) ?_) | ((with_reducible refine gB rfl ?_); refine bx HS.out rfl rfl ?_; first | refine bv (v := .agg (List.toArray _)) rfl ?_ | refine bv (v := .int _ _) rfl ?_ | refine bv (v := .slice _ _ _) rfl ?_ | refine bv (v := .bool _) rfl ?_ | refine bv (v := .pointer _) rfl ?_) | ((with_reducible refine gL rfl ?_); refine sh_lit HS.out rfl rfl (by go_simp; exact ⟨⟨rfl, rfl⟩, rfl⟩) ?_)); clear HS; intro g w1 hg HS1; (simp only [Held.enc, Last.enc, zeF, segOf, aL, aC, aE] at HS1); have HS := Aside0.mk HS1; clear HS1) | ((with_reducible refine gLd rfl ?_); refine ld2 HS.out rfl rfl rfl (by repeat (first | exact AtI.here | apply AtI.there)) ?_; (first | refine LdK.one ((agT _ (by decide)).trans rfl) rfl ?_ | (refine LdK.agg ((agT _ (by decide)).trans rfl) (szT _ (by decide)) (lb rfl) ?_; try simp only [szL, aP, aN, aT, aZ, aS, aD, aF, aJ, aK, aM, aO]))) | ((with_reducible refine gSt rfl ?_); refine st2 HS.out rfl rfl rfl rfl (by repeat (first | exact AtI.here | apply AtI.there)) ?_; (first | refine sv (u := .agg (List.toArray _)) rfl ?_ | refine sv (u := .int _ _) rfl ?_ | refine sv (u := .slice _ _ _) rfl ?_ | refine sv (u := .bool _) rfl ?_ | refine sv (u := .pointer _) rfl ?_); refine sw (szT _ (by decide)) rfl (lb rfl) ?_; clear HS; intro w1 HS1; (simp only [Held.enc, Last.enc, segOf, aL, aZ, aS, putSeg] at HS1); have HS := Aside0.mk HS1; clear HS1)); try simp only [aP, aN, aT, aZ, aS]))
          go_ret
          refine ⟨?_, HS.out.below⟩
          rw [← HCK.out, HF.out, HF2.out]
          rfl
end Go.Proofs.Ytekjihmepdhmeaa.Led

