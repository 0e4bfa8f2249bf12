/- Lemmas towards the law: what of the text LeD it needs. -/
import Derived.Test.YtekjihmepdhmeaaLeCq
import Derived.Test.YtekjihmepdhmeaaLeAq
import Derived.Test.YtekjihmepdhmeaaSlXq
import Derived.Test.YtekjihmepdhmeaaRlc1q
namespace Go.Proofs.Ytekjihmepdhmeaa.Led
open Go.RowKit Go.Proofs.YtekjihmepdhmeaaW.PrintWords Go.Proofs.Ytekjihmepdhmeaa.Sl
set_option linter.unusedVariables false
set_option linter.unusedSimpArgs false
theorem addf (a : Addr) (n j : Nat) (hj : j ≠ 0) : Value.pointer (some { block := (a.add n).block, off := (a.add n).off + j }) = Value.pointer (some (a.add (n + j))) := by
  unfold Addr.add
  by_cases h : n = 0
  · subst h
    simp [hj]
  · rw [if_neg h, if_neg (by omega)]
    simp [Nat.add_assoc]
/-- what is to be done -/
structure Cmd where
  kind : Int
  node : Int
  token : Int
  nodes : Value
  boot : Int
  seq : Int
  serial : Int
  stamp : Int
def freeI (lim : Int) (n : Nat) : Int := max (min (max lim 0) 64 - n) 0
/-- the first place whose token is not its number -/
def gapGo : List Held → Nat → Nat
  | [], i => i
  | h :: t, i => if h.token = (i : Int) + 1 then gapGo t (i + 1) else i
def gap (l : List Held) : Nat := gapGo l 0
theorem gapGo_le (l : List Held) (i : Nat) : i ≤ gapGo l i ∧ gapGo l i ≤ i + l.length := by
  induction l generalizing i with
  | nil => exact ⟨Nat.le_refl _, Nat.le_refl _⟩
  | cons h t ih =>
    unfold gapGo
    split
    · have := ih (i + 1)
      simp only [List.length_cons]
      omega
    · simp only [List.length_cons]
      omega
theorem gap_le (l : List Held) : gap l ≤ l.length := by
  have := (gapGo_le l 0).2
  unfold gap
  omega
theorem gap_yes {l : List Held} {i : Nat} (hi : i < l.length) (h : gapGo (l.drop i) i = gap l) (ht : (l.getD i default).token = (i : Int) + 1) : gapGo (l.drop (i + 1)) (i + 1) = gap l := by
  rw [← h, List.drop_eq_getElem_cons hi]
  rw [List.getD_eq_getElem?_getD, List.getElem?_eq_getElem hi, Option.getD_some] at ht
  conv => rhs; unfold gapGo
  rw [if_pos ht]
theorem gap_no {l : List Held} {i : Nat} (hi : i < l.length) (h : gapGo (l.drop i) i = gap l) (ht : ¬ (l.getD i default).token = (i : Int) + 1) : gap l = i := by
  rw [← h, List.drop_eq_getElem_cons hi]
  rw [List.getD_eq_getElem?_getD, List.getElem?_eq_getElem hi, Option.getD_some] at ht
  unfold gapGo
  rw [if_neg ht]
theorem gap_end {l : List Held} {i : Nat} (hi : l.length ≤ i) (h : gapGo (l.drop i) i = gap l) : gap l = i := by
  rw [← h, List.drop_eq_nil_of_le hi]
  rfl
structure Gr where
  nxt : Int
  held : List Held
  ans : Ans
def grantC (lim nxt : Int) (l : List Held) (ix node boot : Int) : Gr :=
  if freeI lim l.length = 0 ∨ nxt = 18446744073709551615 then ⟨nxt, l, ⟨2, 0, 0⟩⟩
  else ⟨nxt + 1, l.take (gap l) ++ ⟨(gap l : Int) + 1, node, boot, nxt, ix⟩ :: l.drop (gap l), ⟨1, (gap l : Int) + 1, nxt⟩⟩
theorem free_any (A B : Option Addr) (c d n m : Nat) (lim nxt : Int) (w : World) (hn : n ≤ 1000000) : Calls Try.prog 112 #[.agg #[.int .i64 lim, .int .u64 nxt, .slice A n c, .slice B m d]] w (fun e w' => e = .returned (.int .i64 (freeI lim n)) ∧ Below w.heap.size w w') := by
  have HS := Aside0.mk (SH.start w)
  generalize hf : freeI lim n = f
  have HF := Aside0.mk hf
  clear hf
  go_enter Try.func112, Try.ntmps112
  go_wp2_with (first | ((first | ((first | ((with_reducible refine gA rfl ?_); refine sh_alloc HS.out rfl rfl (zeT _ (by decide)) ?_) | ((with_reducible refine gB rfl ?_); refine bx HS.out rfl rfl ?_; first | refine bv (v := .agg (List.toArray _)) rfl ?_ | refine bv (v := .int _ _) rfl ?_ | refine bv (v := .slice _ _ _) rfl ?_ | refine bv (v := .bool _) rfl ?_ | refine bv (v := .pointer _) rfl ?_) | ((with_reducible refine gL rfl ?_); refine sh_lit HS.out rfl rfl (by go_simp; exact ⟨⟨rfl, rfl⟩, rfl⟩) ?_)); clear HS; intro g w1 hg HS1; (simp only [Held.enc, Last.enc, zeF, segOf, aL, aC, aE] at HS1); have HS := Aside0.mk HS1; clear HS1) | ((with_reducible refine gLd rfl ?_); refine ld2 HS.out rfl rfl rfl (by repeat (first | exact AtI.here | apply AtI.there)) ?_; (first | refine LdK.one ((agT _ (by decide)).trans rfl) rfl ?_ | (refine LdK.agg ((agT _ (by decide)).trans rfl) (szT _ (by decide)) (lb rfl) ?_; try simp only [szL, aP, aN, aT, aZ, aS, aD, aF, aJ, aK, aM, aO]))) | ((with_reducible refine gSt rfl ?_); refine st2 HS.out rfl rfl rfl rfl (by repeat (first | exact AtI.here | apply AtI.there)) ?_; (first | refine sv (u := .agg (List.toArray _)) rfl ?_ | refine sv (u := .int _ _) rfl ?_ | refine sv (u := .slice _ _ _) rfl ?_ | refine sv (u := .bool _) rfl ?_ | refine sv (u := .pointer _) rfl ?_); refine sw (szT _ (by decide)) rfl (lb rfl) ?_; clear HS; intro w1 HS1; (simp only [Held.enc, Last.enc, segOf, aL, aZ, aS, putSeg] at HS1); have HS := Aside0.mk HS1; clear HS1)); try simp only [aP, aN, aT, aZ, aS]))
  all_goals
    go_ret
    refine ⟨?_, HS.out.below⟩
    have hf := HF.out
    unfold freeI at hf
    rw [← hf]
    refine congrArg (fun b => Ending.returned (Value.int .i64 b)) ?_
    omega
theorem grant_gap (l : List Held) : gapGo (l.drop 0) 0 = gap l := rfl
theorem u64_back (nxt : Int) (h0 : 0 ≤ nxt) (h1 : nxt < 18446744073709551616) (h2 : ¬ nxt = 18446744073709551615) : IntKind.u64.wrap (nxt + 1) = nxt + 1 ∧ IntKind.u64.wrap (nxt + 1 - 1) = nxt := by
  refine ⟨IntWalk.u64_in _ (by omega), ?_⟩
  rw [show nxt + 1 - 1 = nxt by omega]
  exact IntWalk.u64_in _ (by omega)
set_option maxHeartbeats 3200000 in
set_option maxRecDepth 100000 in
theorem grant_any {w0 : World} {F : HP} (gl : Nat) (A B : Option Addr) (c d m n : Nat) (lim nxt ix : Int) (l : List Held) (S : Nat → Prop) (x : Cmd) (w : World)
    (HS0 : SH w0 w [blk gl [.int .i64 lim, .int .u64 nxt, .slice A n c, .slice B m d] 27, row heldK 72 (.slice A n c) l S, F]) (hn : n ≤ 1000) (hx0 : 0 ≤ nxt) (hx1 : nxt < 18446744073709551616) :
    Calls Try.prog 103 #[.pointer (some ⟨gl, 0, none⟩), .int .u64 ix, .agg #[.int .i64 x.kind, .int .i64 x.node, .int .i64 x.token, x.nodes, .int .u64 x.boot, .int .u64 x.seq, .int .u64 x.serial, .int .u64 x.stamp]] w
      (fun e w' => ∃ A' c' S' a, e = .returned (.agg #[.int .i64 a.code, .int .i64 a.token, .int .u64 a.serial]) ∧ a = (grantC lim nxt l ix x.node x.boot).ans ∧
        SH w0 w' [blk gl [.int .i64 lim, .int .u64 (grantC lim nxt l ix x.node x.boot).nxt, .slice A' (grantC lim nxt l ix x.node x.boot).held.length c', .slice B m d] 27, row heldK 72 (.slice A' (grantC lim nxt l ix x.node x.boot).held.length c') (grantC lim nxt l ix x.node x.boot).held S', F]) := by
  have HS := Aside0.mk HS0
  obtain ⟨hm, hnc, hc63, hA⟩ := row_form (hl := Held.len) (h1 := Held.one) HS0 1 rfl
  have HM := Aside0.mk hm
  have hgl := gap_le l
  rw [← hm] at hgl
  clear HS0 hA hm
  obtain ⟨r, hr⟩ : ∃ r, grantC lim nxt l ix x.node x.boot = r := ⟨_, rfl⟩
  have HRES := Aside0.mk hr
  rw [hr]
  clear hr
  obtain ⟨f, hf⟩ : ∃ f, freeI lim n = f := ⟨_, rfl⟩
  have HF := Aside0.mk hf
  have HFR := Aside0.mk (fun w => by have h := free_any A B c d n m lim nxt w (by omega); rw [hf] at h; exact h)
  clear hf
  by_cases h0 : f = 0
  · have hb : (f == 0) = true := beq_iff_eq.2 h0
    have H0 := Aside0.mk h0
    clear h0
    go_enter Try.func103, Try.ntmps103
    go_upto_region 1 with (first | ((with_reducible refine gB rfl ?_); refine bx HS.out rfl rfl ?_; (first | refine bv (v := .agg (List.toArray _)) rfl ?_ | refine bv (v := .int _ _) rfl ?_ | refine bv (v := .slice _ _ _) rfl ?_ | refine bv (v := .bool _) rfl ?_ | refine bv (v := .pointer _) rfl ?_); clear HS; intro gb w1 hgb HS1; (simp only [Held.enc, Last.enc, segOf, aL, aC, aE] at HS1); have HS := Aside0.mk HS1; clear HS1; try simp only [aP, aN, aT, aZ, aS]) | ((first | ((first | ((with_reducible refine gA rfl ?_); refine sh_alloc HS.out rfl rfl (zeT _ (by decide)) ?_) | ((with_reducible refine gL rfl ?_); refine sh_lit HS.out rfl rfl (by go_simp; exact ⟨⟨rfl, rfl⟩, rfl⟩) ?_)); clear HS; intro g w1 hg HS1; (simp only [Held.enc, Last.enc, zeF, segOf, aL, aC, aE] at HS1); have HS := Aside0.mk HS1; clear HS1) | ((with_reducible refine gLd rfl ?_); refine ld2 HS.out rfl rfl rfl (by repeat (first | exact AtI.here | apply AtI.there)) ?_; (first | refine LdK.one ((agT _ (by decide)).trans rfl) rfl ?_ | (refine LdK.agg ((agT _ (by decide)).trans rfl) (szT _ (by decide)) (lb rfl) ?_; try simp only [szL, aP, aN, aT, aZ, aS, aD, aF, aJ, aK, aM, aO]))) | ((with_reducible refine gSt rfl ?_); refine st2 HS.out rfl rfl rfl rfl (by repeat (first | exact AtI.here | apply AtI.there)) ?_; (first | refine sv (u := .agg (List.toArray _)) rfl ?_ | refine sv (u := .int _ _) rfl ?_ | refine sv (u := .slice _ _ _) rfl ?_ | refine sv (u := .bool _) rfl ?_ | refine sv (u := .pointer _) rfl ?_); refine sw (szT _ (by decide)) rfl (lb rfl) ?_; clear HS; intro w1 HS1; (simp only [Held.enc, Last.enc, segOf, aL, aZ, aS, putSeg] at HS1); have HS := Aside0.mk HS1; clear HS1)); try simp only [aP, aN, aT, aZ, aS]))
    go_wp2_with (first | (go_at_call 112; (with_reducible refine (HFR.out _).mono ?_); rintro e w2 ⟨rfl, hb⟩;  have HS1 := HS.out.quiet hb; clear HS hb; have HS := Aside0.mk HS1; clear HS1) | ((first | ((first | ((with_reducible refine gA rfl ?_); refine sh_alloc HS.out rfl rfl (zeT _ (by decide)) ?_) | ((with_reducible refine gB rfl ?_); refine bx HS.out rfl rfl ?_; first | refine bv (v := .agg (List.toArray _)) rfl ?_ | refine bv (v := .int _ _) rfl ?_ | refine bv (v := .slice _ _ _) rfl ?_ | refine bv (v := .bool _) rfl ?_ | refine bv (v := .pointer _) rfl ?_) | ((with_reducible refine gL rfl ?_); refine sh_lit HS.out rfl rfl (by go_simp; exact ⟨⟨rfl, rfl⟩, rfl⟩) ?_)); clear HS; intro g w1 hg HS1; (simp only [Held.enc, Last.enc, zeF, segOf, aL, aC, aE] at HS1); have HS := Aside0.mk HS1; clear HS1) | ((with_reducible refine gLd rfl ?_); refine ld2 HS.out rfl rfl rfl (by repeat (first | exact AtI.here | apply AtI.there)) ?_; (first | refine LdK.one ((agT _ (by decide)).trans rfl) rfl ?_ | (refine LdK.agg ((agT _ (by decide)).trans rfl) (szT _ (by decide)) (lb rfl) ?_; try simp only [szL, aP, aN, aT, aZ, aS, aD, aF, aJ, aK, aM, aO]))) | ((with_reducible refine gSt rfl ?_); refine st2 HS.out rfl rfl rfl rfl (by repeat (first | exact AtI.here | apply AtI.there)) ?_; (first | refine sv (u := .agg (List.toArray _)) rfl ?_ | refine sv (u := .int _ _) rfl ?_ | refine sv (u := .slice _ _ _) rfl ?_ | refine sv (u := .bool _) rfl ?_ | refine sv (u := .pointer _) rfl ?_); refine sw (szT _ (by decide)) rfl (lb rfl) ?_; clear HS; intro w1 HS1; (simp only [Held.enc, Last.enc, segOf, aL, aZ, aS, putSeg] at HS1); have HS := Aside0.mk HS1; clear HS1)); try simp only [aP, aN, aT, aZ, aS]))
    refine bodyPost_ret (results_cell_row rfl _ _ _ _ _ _ _ rfl (HS.out.blk 4 rfl) Try.underlying74 rfl ((szT _ (by decide)).trans rfl)) rfl ?_
    have hres : r = ⟨nxt, l, ⟨2, 0, 0⟩⟩ := by rw [← HRES.out]; unfold grantC; rw [if_pos (by rw [← HM.out, HF.out]; exact .inl H0.out)]
    subst hres
    have hl0 := HM.out
    subst hl0
    exact ⟨_, _, _, _, rfl, rfl, HS.out.pick [0, 1, 2] rfl (by decide)⟩
  · have hb : (f == 0) = false := beq_eq_false_iff_ne.2 h0
    have H0 := Aside0.mk h0
    clear h0
    by_cases hmx : nxt = 18446744073709551615
    · have hb2 : (nxt == 18446744073709551615) = true := beq_iff_eq.2 hmx
      have HMX := Aside0.mk hmx
      clear hmx
      go_enter Try.func103, Try.ntmps103
      go_upto_region 1 with (first | ((with_reducible refine gB rfl ?_); refine bx HS.out rfl rfl ?_; (first | refine bv (v := .agg (List.toArray _)) rfl ?_ | refine bv (v := .int _ _) rfl ?_ | refine bv (v := .slice _ _ _) rfl ?_ | refine bv (v := .bool _) rfl ?_ | refine bv (v := .pointer _) rfl ?_); clear HS; intro gb w1 hgb HS1; (simp only [Held.enc, Last.enc, segOf, aL, aC, aE] at HS1); have HS := Aside0.mk HS1; clear HS1; try simp only [aP, aN, aT, aZ, aS]) | ((first | ((first | ((with_reducible refine gA rfl ?_); refine sh_alloc HS.out rfl rfl (zeT _ (by decide)) ?_) | ((with_reducible refine gL rfl ?_); refine sh_lit HS.out rfl rfl (by go_simp; exact ⟨⟨rfl, rfl⟩, rfl⟩) ?_)); clear HS; intro g w1 hg HS1; (simp only [Held.enc, Last.enc, zeF, segOf, aL, aC, aE] at HS1); have HS := Aside0.mk HS1; clear HS1) | ((with_reducible refine gLd rfl ?_); refine ld2 HS.out rfl rfl rfl (by repeat (first | exact AtI.here | apply AtI.there)) ?_; (first | refine LdK.one ((agT _ (by decide)).trans rfl) rfl ?_ | (refine LdK.agg ((agT _ (by decide)).trans rfl) (szT _ (by decide)) (lb rfl) ?_; try simp only [szL, aP, aN, aT, aZ, aS, aD, aF, aJ, aK, aM, aO]))) | ((with_reducible refine gSt rfl ?_); refine st2 HS.out rfl rfl rfl rfl (by repeat (first | exact AtI.here | apply AtI.there)) ?_; (first | refine sv (u := .agg (List.toArray _)) rfl ?_ | refine sv (u := .int _ _) rfl ?_ | refine sv (u := .slice _ _ _) rfl ?_ | refine sv (u := .bool _) rfl ?_ | refine sv (u := .pointer _) rfl ?_); refine sw (szT _ (by decide)) rfl (lb rfl) ?_; clear HS; intro w1 HS1; (simp only [Held.enc, Last.enc, segOf, aL, aZ, aS, putSeg] at HS1); have HS := Aside0.mk HS1; clear HS1)); try simp only [aP, aN, aT, aZ, aS]))
      go_wp2_with (first | (go_at_call 112; (with_reducible refine (HFR.out _).mono ?_); rintro e w2 ⟨rfl, hb⟩;  have HS1 := HS.out.quiet hb; clear HS hb; have HS := Aside0.mk HS1; clear HS1) | ((first | ((first | ((with_reducible refine gA rfl ?_); refine sh_alloc HS.out rfl rfl (zeT _ (by decide)) ?_) | ((with_reducible refine gB rfl ?_); refine bx HS.out rfl rfl ?_; first | refine bv (v := .agg (List.toArray _)) rfl ?_ | refine bv (v := .int _ _) rfl ?_ | refine bv (v := .slice _ _ _) rfl ?_ | refine bv (v := .bool _) rfl ?_ | refine bv (v := .pointer _) rfl ?_) | ((with_reducible refine gL rfl ?_); refine sh_lit HS.out rfl rfl (by go_simp; exact ⟨⟨rfl, rfl⟩, rfl⟩) ?_)); clear HS; intro g w1 hg HS1; (simp only [Held.enc, Last.enc, zeF, segOf, aL, aC, aE] at HS1); have HS := Aside0.mk HS1; clear HS1) | ((with_reducible refine gLd rfl ?_); refine ld2 HS.out rfl rfl rfl (by repeat (first | exact AtI.here | apply AtI.there)) ?_; (first | refine LdK.one ((agT _ (by decide)).trans rfl) rfl ?_ | (refine LdK.agg ((agT _ (by decide)).trans rfl) (szT _ (by decide)) (lb rfl) ?_; try simp only [szL, aP, aN, aT, aZ, aS, aD, aF, aJ, aK, aM, aO]))) | ((with_reducible refine gSt rfl ?_); refine st2 HS.out rfl rfl rfl rfl (by repeat (first | exact AtI.here | apply AtI.there)) ?_; (first | refine sv (u := .agg (List.toArray _)) rfl ?_ | refine sv (u := .int _ _) rfl ?_ | refine sv (u := .slice _ _ _) rfl ?_ | refine sv (u := .bool _) rfl ?_ | refine sv (u := .pointer _) rfl ?_); refine sw (szT _ (by decide)) rfl (lb rfl) ?_; clear HS; intro w1 HS1; (simp only [Held.enc, Last.enc, segOf, aL, aZ, aS, putSeg] at HS1); have HS := Aside0.mk HS1; clear HS1)); try simp only [aP, aN, aT, aZ, aS]))
      refine bodyPost_ret (results_cell_row rfl _ _ _ _ _ _ _ rfl (HS.out.blk 4 rfl) Try.underlying74 rfl ((szT _ (by decide)).trans rfl)) rfl ?_
      have hres : r = ⟨nxt, l, ⟨2, 0, 0⟩⟩ := by rw [← HRES.out]; unfold grantC; rw [if_pos (by exact .inr HMX.out)]
      subst hres
      have hl0 := HM.out
      subst hl0
      exact ⟨_, _, _, _, rfl, rfl, HS.out.pick [0, 1, 2] rfl (by decide)⟩
    · have hb2 : (nxt == 18446744073709551615) = false := beq_eq_false_iff_ne.2 hmx
      have HMX := Aside0.mk hmx
      have HW := Aside0.mk (u64_back nxt hx0 hx1 hmx)
      have hres : r = ⟨nxt + 1, l.take (gap l) ++ ⟨(gap l : Int) + 1, x.node, x.boot, nxt, ix⟩ :: l.drop (gap l), ⟨1, (gap l : Int) + 1, nxt⟩⟩ := by
        rw [← HRES.out]; unfold grantC; rw [if_neg (by rw [← HM.out, HF.out]; exact fun h => h.elim H0.out HMX.out)]
      have HRS := Aside0.mk hres
      have hw1 := HW.out.1
      have hw2 := HW.out.2
      clear hmx hres
      go_enter Try.func103, Try.ntmps103
      go_upto_region 1 with (first | ((with_reducible refine gB rfl ?_); refine bx HS.out rfl rfl ?_; (first | refine bv (v := .agg (List.toArray _)) rfl ?_ | refine bv (v := .int _ _) rfl ?_ | refine bv (v := .slice _ _ _) rfl ?_ | refine bv (v := .bool _) rfl ?_ | refine bv (v := .pointer _) rfl ?_); clear HS; intro gb w1 hgb HS1; (simp only [Held.enc, Last.enc, segOf, aL, aC, aE] at HS1); have HS := Aside0.mk HS1; clear HS1; try simp only [aP, aN, aT, aZ, aS]) | ((first | ((first | ((with_reducible refine gA rfl ?_); refine sh_alloc HS.out rfl rfl (zeT _ (by decide)) ?_) | ((with_reducible refine gL rfl ?_); refine sh_lit HS.out rfl rfl (by go_simp; exact ⟨⟨rfl, rfl⟩, rfl⟩) ?_)); clear HS; intro g w1 hg HS1; (simp only [Held.enc, Last.enc, zeF, segOf, aL, aC, aE] at HS1); have HS := Aside0.mk HS1; clear HS1) | ((with_reducible refine gLd rfl ?_); refine ld2 HS.out rfl rfl rfl (by repeat (first | exact AtI.here | apply AtI.there)) ?_; (first | refine LdK.one ((agT _ (by decide)).trans rfl) rfl ?_ | (refine LdK.agg ((agT _ (by decide)).trans rfl) (szT _ (by decide)) (lb rfl) ?_; try simp only [szL, aP, aN, aT, aZ, aS, aD, aF, aJ, aK, aM, aO]))) | ((with_reducible refine gSt rfl ?_); refine st2 HS.out rfl rfl rfl rfl (by repeat (first | exact AtI.here | apply AtI.there)) ?_; (first | refine sv (u := .agg (List.toArray _)) rfl ?_ | refine sv (u := .int _ _) rfl ?_ | refine sv (u := .slice _ _ _) rfl ?_ | refine sv (u := .bool _) rfl ?_ | refine sv (u := .pointer _) rfl ?_); refine sw (szT _ (by decide)) rfl (lb rfl) ?_; clear HS; intro w1 HS1; (simp only [Held.enc, Last.enc, segOf, aL, aZ, aS, putSeg] at HS1); have HS := Aside0.mk HS1; clear HS1)); try simp only [aP, aN, aT, aZ, aS]))
      obtain ⟨ga, hga⟩ : ∃ ga, ga = g := ⟨_, rfl⟩
      subst hga
      go_wp2_with (first | (go_at_call 112; (with_reducible refine (HFR.out _).mono ?_); rintro e w2 ⟨rfl, hb⟩;  have HS1 := HS.out.quiet hb; clear HS hb; have HS := Aside0.mk HS1; clear HS1) | ((first | ((first | ((with_reducible refine gA rfl ?_); refine sh_alloc HS.out rfl rfl (zeT _ (by decide)) ?_) | ((with_reducible refine gB rfl ?_); refine bx HS.out rfl rfl ?_; first | refine bv (v := .agg (List.toArray _)) rfl ?_ | refine bv (v := .int _ _) rfl ?_ | refine bv (v := .slice _ _ _) rfl ?_ | refine bv (v := .bool _) rfl ?_ | refine bv (v := .pointer _) rfl ?_) | ((with_reducible refine gL rfl ?_); refine sh_lit HS.out rfl rfl (by go_simp; exact ⟨⟨rfl, rfl⟩, rfl⟩) ?_)); clear HS; intro g w1 hg HS1; (simp only [Held.enc, Last.enc, zeF, segOf, aL, aC, aE] at HS1); have HS := Aside0.mk HS1; clear HS1) | ((with_reducible refine gLd rfl ?_); refine ld2 HS.out rfl rfl rfl (by repeat (first | exact AtI.here | apply AtI.there)) ?_; (first | refine LdK.one ((agT _ (by decide)).trans rfl) rfl ?_ | (refine LdK.agg ((agT _ (by decide)).trans rfl) (szT _ (by decide)) (lb rfl) ?_; try simp only [szL, aP, aN, aT, aZ, aS, aD, aF, aJ, aK, aM, aO]))) | ((with_reducible refine gSt rfl ?_); refine st2 HS.out rfl rfl rfl rfl (by repeat (first | exact AtI.here | apply AtI.there)) ?_; (first | refine sv (u := .agg (List.toArray _)) rfl ?_ | refine sv (u := .int _ _) rfl ?_ | refine sv (u := .slice _ _ _) rfl ?_ | refine sv (u := .bool _) rfl ?_ | refine sv (u := .pointer _) rfl ?_); refine sw (szT _ (by decide)) rfl (lb rfl) ?_; clear HS; intro w1 HS1; (simp only [Held.enc, Last.enc, segOf, aL, aZ, aS, putSeg] at HS1); have HS := Aside0.mk HS1; clear HS1)); try simp only [aP, aN, aT, aZ, aS]))
      go_loopw [7] (fun v7 wr => ∃ k : Nat, k ≤ n ∧ v7 = .int .i64 k ∧ Aside0 (gapGo (l.drop k) k = gap l) ∧ Aside0 (SH w0 wr [blk gl [.int .i64 lim, .int .u64 nxt, .slice A n c, .slice B m d] 27, row heldK 72 (.slice A n c) l S, F, blk gb [.int .i64 x.kind, .int .i64 x.node, .int .i64 x.token, x.nodes, .int .u64 x.boot, .int .u64 x.seq, .int .u64 x.serial, .int .u64 x.stamp] 50, blk ga [.int .i64 0, .int .i64 0, .int .u64 0] 74])) (fun v7 _ => n - (intOf v7).toNat)
      case atStart => exact ⟨0, Nat.zero_le _, rfl, ⟨grant_gap l⟩, HS⟩
      case round =>
        clear HS
        obtain ⟨k, hk, rfl, HG, HS⟩ := hrel
        by_cases hkn : k < n
        · have HR := Aside0.mk (row_rds (hl := Held.len) (h1 := Held.one) 1 rfl _ HS.out)
          obtain ⟨ad, rfl⟩ := HR.out.addr (by omega)
          obtain ⟨z, hz⟩ : ∃ z, l.getD k default = z := ⟨_, rfl⟩
          have HZ := Aside0.mk hz
          clear hz
          by_cases ht : z.token = (k : Int) + 1
          · have hbt : (z.token == (k : Int) + 1) = true := beq_iff_eq.2 ht
            have HT := Aside0.mk ht
            clear ht
            go_wp2_with (first | ((with_reducible refine gLd rfl ?_); refine rd_loadf HR.out rfl rfl (i := k) 0 rfl hkn default ((agT _ (by decide)).trans rfl) (fun e => .int .i64 e.token) (fun _ => rfl) ?_; intro x hx; obtain rfl := HZ.out.symm.trans hx; (try simp only [aP, aN, aT, aZ, aS])) | ((first | ((first | ((with_reducible refine gA rfl ?_); refine sh_alloc HS.out rfl rfl (zeT _ (by decide)) ?_) | ((with_reducible refine gB rfl ?_); refine bx HS.out rfl rfl ?_; first | refine bv (v := .agg (List.toArray _)) rfl ?_ | refine bv (v := .int _ _) rfl ?_ | refine bv (v := .slice _ _ _) rfl ?_ | refine bv (v := .bool _) rfl ?_ | refine bv (v := .pointer _) rfl ?_) | ((with_reducible refine gL rfl ?_); refine sh_lit HS.out rfl rfl (by go_simp; exact ⟨⟨rfl, rfl⟩, rfl⟩) ?_)); clear HS; intro g w1 hg HS1; (simp only [Held.enc, Last.enc, zeF, segOf, aL, aC, aE] at HS1); have HS := Aside0.mk HS1; clear HS1) | ((with_reducible refine gLd rfl ?_); refine ld2 HS.out rfl rfl rfl (by repeat (first | exact AtI.here | apply AtI.there)) ?_; (first | refine LdK.one ((agT _ (by decide)).trans rfl) rfl ?_ | (refine LdK.agg ((agT _ (by decide)).trans rfl) (szT _ (by decide)) (lb rfl) ?_; try simp only [szL, aP, aN, aT, aZ, aS, aD, aF, aJ, aK, aM, aO]))) | ((with_reducible refine gSt rfl ?_); refine st2 HS.out rfl rfl rfl rfl (by repeat (first | exact AtI.here | apply AtI.there)) ?_; (first | refine sv (u := .agg (List.toArray _)) rfl ?_ | refine sv (u := .int _ _) rfl ?_ | refine sv (u := .slice _ _ _) rfl ?_ | refine sv (u := .bool _) rfl ?_ | refine sv (u := .pointer _) rfl ?_); refine sw (szT _ (by decide)) rfl (lb rfl) ?_; clear HS; intro w1 HS1; (simp only [Held.enc, Last.enc, segOf, aL, aZ, aS, putSeg] at HS1); have HS := Aside0.mk HS1; clear HS1)); try simp only [aP, aN, aT, aZ, aS]))
            go_roundw
            case rel => exact ⟨k + 1, by omega, by go_num, ⟨gap_yes (by rw [← HM.out]; exact hkn) HG.out (by rw [HZ.out]; exact HT.out)⟩, HS⟩
            case measure => simp [intOf]; omega
          · have hbt : (z.token == (k : Int) + 1) = false := beq_eq_false_iff_ne.2 ht
            have HGE := Aside0.mk (gap_no (by rw [← HM.out]; exact hkn) HG.out (by rw [HZ.out]; exact ht))
            clear ht
            go_upto_region 6 with (first | ((with_reducible refine gLd rfl ?_); refine rd_loadf HR.out rfl rfl (i := k) 0 rfl hkn default ((agT _ (by decide)).trans rfl) (fun e => .int .i64 e.token) (fun _ => rfl) ?_; intro x hx; obtain rfl := HZ.out.symm.trans hx; (try simp only [aP, aN, aT, aZ, aS])) | ((first | ((first | ((with_reducible refine gA rfl ?_); refine sh_alloc HS.out rfl rfl (zeT _ (by decide)) ?_) | ((with_reducible refine gB rfl ?_); refine bx HS.out rfl rfl ?_; first | refine bv (v := .agg (List.toArray _)) rfl ?_ | refine bv (v := .int _ _) rfl ?_ | refine bv (v := .slice _ _ _) rfl ?_ | refine bv (v := .bool _) rfl ?_ | refine bv (v := .pointer _) rfl ?_) | ((with_reducible refine gL rfl ?_); refine sh_lit HS.out rfl rfl (by go_simp; exact ⟨⟨rfl, rfl⟩, rfl⟩) ?_)); clear HS; intro g w1 hg HS1; (simp only [Held.enc, Last.enc, zeF, segOf, aL, aC, aE] at HS1); have HS := Aside0.mk HS1; clear HS1) | ((with_reducible refine gLd rfl ?_); refine ld2 HS.out rfl rfl rfl (by repeat (first | exact AtI.here | apply AtI.there)) ?_; (first | refine LdK.one ((agT _ (by decide)).trans rfl) rfl ?_ | (refine LdK.agg ((agT _ (by decide)).trans rfl) (szT _ (by decide)) (lb rfl) ?_; try simp only [szL, aP, aN, aT, aZ, aS, aD, aF, aJ, aK, aM, aO]))) | ((with_reducible refine gSt rfl ?_); refine st2 HS.out rfl rfl rfl rfl (by repeat (first | exact AtI.here | apply AtI.there)) ?_; (first | refine sv (u := .agg (List.toArray _)) rfl ?_ | refine sv (u := .int _ _) rfl ?_ | refine sv (u := .slice _ _ _) rfl ?_ | refine sv (u := .bool _) rfl ?_ | refine sv (u := .pointer _) rfl ?_); refine sw (szT _ (by decide)) rfl (lb rfl) ?_; clear HS; intro w1 HS1; (simp only [Held.enc, Last.enc, segOf, aL, aZ, aS, putSeg] at HS1); have HS := Aside0.mk HS1; clear HS1)); try simp only [aP, aN, aT, aZ, aS]))
            have hkw : IntKind.i64.wrap ((k : Int) + 1) = (k : Int) + 1 := IntWalk.i64_in _ (by omega)
            have HC := Aside0.mk (HS.out.pick [0, 3] rfl (by decide))
            refine kheld_start [22] mixed HC.out (fun HC1 => ?_)
            have HS1 := HS.out.drew
            clear HS HC
            have HS := Aside0.mk HS1
            have HC := Aside0.mk HC1
            clear HS1 HC1
            refine k_any 0 (v := _) (by simp only [aG, aH, aI]; rfl) (by kernel_rfl) (by kernel_rfl) (by kernel_rfl) (by kernel_rfl) (by exact fun _ _ _ h => h) (.inr HC.out) (by kernel_rfl) (fun w => by (repeat (rename ∀ (_ : Act) (_ : World), _ => hK9; clear hK9)); go_simp; rfl) ?_
            (try simp only [aP, aN, aT, aZ, aS])
            refine k_any 1 (v := _) (by simp only [aG, aH, aI]; rfl) (by kernel_rfl) (by kernel_rfl) (by kernel_rfl) (by kernel_rfl) (by exact fun _ _ _ h => h) (.inr HC.out) (by kernel_rfl) (fun w => by (repeat (rename ∀ (_ : Act) (_ : World), _ => hK9; clear hK9)); go_simp; rfl) ?_
            (try simp only [aP, aN, aT, aZ, aS])
            refine k_any 2 (v := _) (by simp only [aG, aH, aI]; rfl) (by kernel_rfl) (by kernel_rfl) (by kernel_rfl) (by kernel_rfl) (by exact fun _ _ _ h => h) (.inr HC.out) (by kernel_rfl) (fun w => by (repeat (rename ∀ (_ : Act) (_ : World), _ => hK9; clear hK9)); go_simp; rfl) ?_
            (try simp only [aP, aN, aT, aZ, aS])
            refine k_any 3 (v := _) (by simp only [aG, aH, aI]; rfl) (by kernel_rfl) (by kernel_rfl) (by kernel_rfl) (by kernel_rfl) (by exact fun _ _ _ h => h) (.inr HC.out) (by kernel_rfl) (fun w => by (repeat (rename ∀ (_ : Act) (_ : World), _ => hK9; clear hK9)); go_simp; rfl) ?_
            (try simp only [aP, aN, aT, aZ, aS])
            refine k_load 4 (by simp only [aG, aH, aI]; rfl) (by kernel_rfl) (by kernel_rfl) (by kernel_rfl) (by kernel_rfl) (by exact fun _ _ _ h => h) HC.out (by kernel_rfl) rfl rfl 0 rfl ((agT _ (by decide)).trans rfl) rfl ?_
            (try simp only [aP, aN, aT, aZ, aS])
            refine k_any 5 (v := _) (by simp only [aG, aH, aI]; rfl) (by kernel_rfl) (by kernel_rfl) (by kernel_rfl) (by kernel_rfl) (by exact fun _ _ _ h => h) (.inr HC.out) (by kernel_rfl) (fun w => by (repeat (rename ∀ (_ : Act) (_ : World), _ => hK9; clear hK9)); go_simp; rfl) ?_
            (try simp only [aP, aN, aT, aZ, aS])
            refine k_any 6 (v := _) (by simp only [aG, aH, aI]; rfl) (by kernel_rfl) (by kernel_rfl) (by kernel_rfl) (by kernel_rfl) (by exact fun _ _ _ h => h) (.inr HC.out) (by kernel_rfl) (fun w => by (repeat (rename ∀ (_ : Act) (_ : World), _ => hK9; clear hK9)); go_simp; rfl) ?_
            (try simp only [aP, aN, aT, aZ, aS])
            refine k_any 7 (v := _) (by simp only [aG, aH, aI]; rfl) (by kernel_rfl) (by kernel_rfl) (by kernel_rfl) (by kernel_rfl) (by exact fun _ _ _ h => h) (.inr HC.out) (by kernel_rfl) (fun w => by (repeat (rename ∀ (_ : Act) (_ : World), _ => hK9; clear hK9)); go_simp; rfl) ?_
            (try simp only [aP, aN, aT, aZ, aS])
            refine k_any 8 (v := _) (by simp only [aG, aH, aI]; rfl) (by kernel_rfl) (by kernel_rfl) (by kernel_rfl) (by kernel_rfl) (by exact fun _ _ _ h => h) (.inr HC.out) (by kernel_rfl) (fun w => by (repeat (rename ∀ (_ : Act) (_ : World), _ => hK9; clear hK9)); go_simp; rfl) ?_
            (try simp only [aP, aN, aT, aZ, aS])
            refine k_load 9 (by simp only [aG, aH, aI]; rfl) (by kernel_rfl) (by kernel_rfl) (by kernel_rfl) (by kernel_rfl) (by exact fun _ _ _ h => h) HC.out (by kernel_rfl) rfl rfl 1 rfl ((agT _ (by decide)).trans rfl) rfl ?_
            (try simp only [aP, aN, aT, aZ, aS])
            refine k_any 10 (v := _) (by simp only [aG, aH, aI]; rfl) (by kernel_rfl) (by kernel_rfl) (by kernel_rfl) (by kernel_rfl) (by exact fun _ _ _ h => h) (.inr HC.out) (by kernel_rfl) (fun w => by (repeat (rename ∀ (_ : Act) (_ : World), _ => hK9; clear hK9)); go_simp; rfl) ?_
            (try simp only [aP, aN, aT, aZ, aS])
            refine k_load 11 (by simp only [aG, aH, aI]; rfl) (by kernel_rfl) (by kernel_rfl) (by kernel_rfl) (by kernel_rfl) (by exact fun _ _ _ h => h) HC.out (by kernel_rfl) rfl rfl 1 rfl ((agT _ (by decide)).trans rfl) rfl ?_
            (try simp only [aP, aN, aT, aZ, aS])
            refine k_any 12 (v := _) (by simp only [aG, aH, aI]; rfl) (by kernel_rfl) (by kernel_rfl) (by kernel_rfl) (by kernel_rfl) (by exact fun _ _ _ h => h) (.inr HC.out) (by kernel_rfl) (fun w => by (repeat (rename ∀ (_ : Act) (_ : World), _ => hK9; clear hK9)); go_simp; rfl) ?_
            (try simp only [aP, aN, aT, aZ, aS])
            refine k_any 13 (v := _) (by simp only [aG, aH, aI]; rfl) (by kernel_rfl) (by kernel_rfl) (by kernel_rfl) (by kernel_rfl) (by exact fun _ _ _ h => h) (.inr HC.out) (by kernel_rfl) (fun w => by (repeat (rename ∀ (_ : Act) (_ : World), _ => hK9; clear hK9)); go_simp; rfl) ?_
            (try simp only [aP, aN, aT, aZ, aS])
            refine k_any 14 (v := _) (by simp only [aG, aH, aI]; rfl) (by kernel_rfl) (by kernel_rfl) (by kernel_rfl) (by kernel_rfl) (by exact fun _ _ _ h => h) (.inr HC.out) (by kernel_rfl) (fun w => by (repeat (rename ∀ (_ : Act) (_ : World), _ => hK9; clear hK9)); go_simp; rfl) ?_
            (try simp only [aP, aN, aT, aZ, aS])
            refine k_load 15 (by simp only [aG, aH, aI]; rfl) (by kernel_rfl) (by kernel_rfl) (by kernel_rfl) (by kernel_rfl) (by exact fun _ _ _ h => h) HC.out (by kernel_rfl) rfl rfl 0 rfl ((agT _ (by decide)).trans rfl) rfl ?_
            (try simp only [aP, aN, aT, aZ, aS])
            refine k_any 16 (v := _) (by simp only [aG, aH, aI]; rfl) (by kernel_rfl) (by kernel_rfl) (by kernel_rfl) (by kernel_rfl) (by exact fun _ _ _ h => h) (.inr HC.out) (by kernel_rfl) (fun w => by (repeat (rename ∀ (_ : Act) (_ : World), _ => hK9; clear hK9)); go_simp; rfl) ?_
            (try simp only [aP, aN, aT, aZ, aS])
            refine k_any 17 (v := _) (by simp only [aG, aH, aI]; rfl) (by kernel_rfl) (by kernel_rfl) (by kernel_rfl) (by kernel_rfl) (by exact fun _ _ _ h => h) (.inr HC.out) (by kernel_rfl) (fun w => by (repeat (rename ∀ (_ : Act) (_ : World), _ => hK9; clear hK9)); go_simp; rfl) ?_
            (try simp only [aP, aN, aT, aZ, aS])
            refine k_one 18 (by simp only [aG, aH, aI]; rfl) (by kernel_rfl) ?_
            ((with_reducible refine gL rfl ?_); refine sh_lit HS.out rfl rfl (by go_simp; exact ⟨⟨rfl, rfl⟩, rfl⟩) ?_; clear HS; intro g w1 hg HS1; (simp only [Held.enc, Last.enc, segOf, aL, aC, aE] at HS1); have HS := Aside0.mk HS1; clear HS1; try simp only [aP, aN, aT, aZ, aS])
            have HC1 := HS.out.pick [0, 3] rfl (by decide)
            clear HC
            have HC := Aside0.mk HC1
            clear HC1
            refine k_nil (.inr HC.out) ?_
            (try simp only [aP, aN, aT, aZ, aS])
            refine k_call 19 (by simp only [aG, aH, aI]; rfl) (by kernel_rfl) (by kernel_rfl) rfl (vs := #[.slice (some ad) n c, .int .i64 k, .slice (some ⟨g, 0, none⟩) 1 1]) (by kernel_rfl) (fnT _ (by decide)) (insHeld_any (some ad) n c l S k g ⟨(k : Int) + 1, x.node, x.boot, nxt, ix⟩ _ (SH.pack (is := [_, _]) [_, _, _, _] (HS.out.pick [1, 5, 0, 2, 3, 4] rfl (by decide))) (by omega) (by omega)) (fun e w2 hpost => ?_); obtain ⟨A', c', S', rfl, HS2⟩ := hpost; have HSN := (show SH w0 w2 [_, _, _, _, _] from (SH.unpack (is := [_, _]) [_, _, _, _] HS2).pick [2, 0, 3, 4, 5] rfl (by decide)); have HC1 := HSN.pick [0, 3] rfl (by decide); refine ⟨_, rfl, HC1, ?_⟩; clear HS HC; have HS := Aside0.mk HSN; have HC := Aside0.mk HC1; clear HSN HC1
            (try simp only [aP, aN, aT, aZ, aS])
            refine k_any 20 (v := _) (by simp only [aG, aH, aI]; rfl) (by kernel_rfl) (by kernel_rfl) (by kernel_rfl) (by kernel_rfl) (by exact fun _ _ _ h => h) (.inr HC.out) (by kernel_rfl) (fun w => by (repeat (rename ∀ (_ : Act) (_ : World), _ => hK9; clear hK9)); go_simp; rfl) ?_
            (try simp only [aP, aN, aT, aZ, aS])
            refine k_any 21 (v := _) (by simp only [aG, aH, aI]; rfl) (by kernel_rfl) (by kernel_rfl) (by kernel_rfl) (by kernel_rfl) (by exact fun _ _ _ h => h) (.inr HC.out) (by kernel_rfl) (fun w => by (repeat (rename ∀ (_ : Act) (_ : World), _ => hK9; clear hK9)); go_simp; rfl) ?_
            (try simp only [aP, aN, aT, aZ, aS])
            refine k_one 22 (by simp only [aG, aH, aI]; rfl) (by kernel_rfl) ?_
            ((with_reducible refine gSt rfl ?_); (first | refine sh_store HS.out rfl rfl rfl rfl 0 rfl (u := (.agg (List.toArray _))) rfl (szT _ (by decide)) rfl (lb rfl) ?_ | refine sh_store HS.out rfl rfl rfl rfl 0 rfl (u := (.int _ _)) rfl (szT _ (by decide)) rfl (lb rfl) ?_ | refine sh_store HS.out rfl rfl rfl rfl 0 rfl (u := (.slice _ _ _)) rfl (szT _ (by decide)) rfl (lb rfl) ?_ | refine sh_store HS.out rfl rfl rfl rfl 0 rfl (u := (.bool _)) rfl (szT _ (by decide)) rfl (lb rfl) ?_ | refine sh_store HS.out rfl rfl rfl rfl 0 rfl (u := (.pointer _)) rfl (szT _ (by decide)) rfl (lb rfl) ?_ | refine sh_store HS.out rfl rfl rfl rfl 0 rfl (u := (.string _)) rfl (szT _ (by decide)) rfl (lb rfl) ?_ | refine sh_store HS.out rfl rfl rfl rfl 0 rfl (u := (.map _)) rfl (szT _ (by decide)) rfl (lb rfl) ?_ | refine sh_store HS.out rfl rfl rfl rfl 0 rfl (u := (.func _ _ _)) rfl (szT _ (by decide)) rfl (lb rfl) ?_); clear HS; intro w1 HS1; (simp only [Held.enc, Last.enc, segOf, aL, aZ, aS, putSeg] at HS1); have HS := Aside0.mk HS1; clear HS1; try simp only [aP, aN, aT, aZ, aS])
            refine k_nil (.inl (by kernel_rfl)) ?_
            (try simp only [aP, aN, aT, aZ, aS])
            refine k_done (by kernel_rfl) ?_ _
            go_wp2_with (first | ((first | ((first | ((with_reducible refine gA rfl ?_); refine sh_alloc HS.out rfl rfl (zeT _ (by decide)) ?_) | ((with_reducible refine gB rfl ?_); refine bx HS.out rfl rfl ?_; first | refine bv (v := .agg (List.toArray _)) rfl ?_ | refine bv (v := .int _ _) rfl ?_ | refine bv (v := .slice _ _ _) rfl ?_ | refine bv (v := .bool _) rfl ?_ | refine bv (v := .pointer _) rfl ?_) | ((with_reducible refine gL rfl ?_); refine sh_lit HS.out rfl rfl (by go_simp; exact ⟨⟨rfl, rfl⟩, rfl⟩) ?_)); clear HS; intro g w1 hg HS1; (simp only [Held.enc, Last.enc, zeF, segOf, aL, aC, aE] at HS1); have HS := Aside0.mk HS1; clear HS1) | ((with_reducible refine gLd rfl ?_); refine ld2 HS.out rfl rfl rfl (by repeat (first | exact AtI.here | apply AtI.there)) ?_; (first | refine LdK.one ((agT _ (by decide)).trans rfl) rfl ?_ | (refine LdK.agg ((agT _ (by decide)).trans rfl) (szT _ (by decide)) (lb rfl) ?_; try simp only [szL, aP, aN, aT, aZ, aS, aD, aF, aJ, aK, aM, aO]))) | ((with_reducible refine gSt rfl ?_); refine st2 HS.out rfl rfl rfl rfl (by repeat (first | exact AtI.here | apply AtI.there)) ?_; (first | refine sv (u := .agg (List.toArray _)) rfl ?_ | refine sv (u := .int _ _) rfl ?_ | refine sv (u := .slice _ _ _) rfl ?_ | refine sv (u := .bool _) rfl ?_ | refine sv (u := .pointer _) rfl ?_); refine sw (szT _ (by decide)) rfl (lb rfl) ?_; clear HS; intro w1 HS1; (simp only [Held.enc, Last.enc, segOf, aL, aZ, aS, putSeg] at HS1); have HS := Aside0.mk HS1; clear HS1)); try simp only [aP, aN, aT, aZ, aS]))
            have hres := HRS.out
            rw [HGE.out] at hres
            subst hres
            have hle : (l.take k ++ (⟨(k : Int) + 1, x.node, x.boot, nxt, ix⟩ : Held) :: l.drop k).length = n + 1 := by have := HM.out; simp only [List.length_append, List.length_cons, List.length_take, List.length_drop]; omega
            refine bodyPost_ret (results_cell_row rfl _ _ _ _ _ _ _ rfl (HS.out.blk 4 rfl) Try.underlying74 rfl ((szT _ (by decide)).trans rfl)) rfl ?_
            refine ⟨A', c', S', ⟨1, (k : Int) + 1, nxt⟩, rfl, rfl, ?_⟩
            have HSF := HS.out.pick [0, 1, 2] rfl (by decide)
            show SH w0 _ [blk gl [.int .i64 lim, .int .u64 (nxt + 1), .slice A' (l.take k ++ (⟨(k : Int) + 1, x.node, x.boot, nxt, ix⟩ : Held) :: l.drop k).length c', .slice B m d] 27, row heldK 72 (.slice A' (l.take k ++ (⟨(k : Int) + 1, x.node, x.boot, nxt, ix⟩ : Held) :: l.drop k).length c') (l.take k ++ (⟨(k : Int) + 1, x.node, x.boot, nxt, ix⟩ : Held) :: l.drop k) S', F]
            rw [hle]
            exact HSF
        · have HGE := Aside0.mk (gap_end (by rw [← HM.out]; omega) HG.out)
          obtain rfl : k = n := by omega
          go_upto_region 6 with (first | ((first | ((first | ((with_reducible refine gA rfl ?_); refine sh_alloc HS.out rfl rfl (zeT _ (by decide)) ?_) | ((with_reducible refine gB rfl ?_); refine bx HS.out rfl rfl ?_; first | refine bv (v := .agg (List.toArray _)) rfl ?_ | refine bv (v := .int _ _) rfl ?_ | refine bv (v := .slice _ _ _) rfl ?_ | refine bv (v := .bool _) rfl ?_ | refine bv (v := .pointer _) rfl ?_) | ((with_reducible refine gL rfl ?_); refine sh_lit HS.out rfl rfl (by go_simp; exact ⟨⟨rfl, rfl⟩, rfl⟩) ?_)); clear HS; intro g w1 hg HS1; (simp only [Held.enc, Last.enc, zeF, segOf, aL, aC, aE] at HS1); have HS := Aside0.mk HS1; clear HS1) | ((with_reducible refine gLd rfl ?_); refine ld2 HS.out rfl rfl rfl (by repeat (first | exact AtI.here | apply AtI.there)) ?_; (first | refine LdK.one ((agT _ (by decide)).trans rfl) rfl ?_ | (refine LdK.agg ((agT _ (by decide)).trans rfl) (szT _ (by decide)) (lb rfl) ?_; try simp only [szL, aP, aN, aT, aZ, aS, aD, aF, aJ, aK, aM, aO]))) | ((with_reducible refine gSt rfl ?_); refine st2 HS.out rfl rfl rfl rfl (by repeat (first | exact AtI.here | apply AtI.there)) ?_; (first | refine sv (u := .agg (List.toArray _)) rfl ?_ | refine sv (u := .int _ _) rfl ?_ | refine sv (u := .slice _ _ _) rfl ?_ | refine sv (u := .bool _) rfl ?_ | refine sv (u := .pointer _) rfl ?_); refine sw (szT _ (by decide)) rfl (lb rfl) ?_; clear HS; intro w1 HS1; (simp only [Held.enc, Last.enc, segOf, aL, aZ, aS, putSeg] at HS1); have HS := Aside0.mk HS1; clear HS1)); try simp only [aP, aN, aT, aZ, aS]))
          have hkw : IntKind.i64.wrap ((k : Int) + 1) = (k : Int) + 1 := IntWalk.i64_in _ (by omega)
          have HC := Aside0.mk (HS.out.pick [0, 3] rfl (by decide))
          refine kheld_start [22] mixed HC.out (fun HC1 => ?_)
          have HS1 := HS.out.drew
          clear HS HC
          have HS := Aside0.mk HS1
          have HC := Aside0.mk HC1
          clear HS1 HC1
          refine k_any 0 (v := _) (by simp only [aG, aH, aI]; rfl) (by kernel_rfl) (by kernel_rfl) (by kernel_rfl) (by kernel_rfl) (by exact fun _ _ _ h => h) (.inr HC.out) (by kernel_rfl) (fun w => by (repeat (rename ∀ (_ : Act) (_ : World), _ => hK9; clear hK9)); go_simp; rfl) ?_
          (try simp only [aP, aN, aT, aZ, aS])
          refine k_any 1 (v := _) (by simp only [aG, aH, aI]; rfl) (by kernel_rfl) (by kernel_rfl) (by kernel_rfl) (by kernel_rfl) (by exact fun _ _ _ h => h) (.inr HC.out) (by kernel_rfl) (fun w => by (repeat (rename ∀ (_ : Act) (_ : World), _ => hK9; clear hK9)); go_simp; rfl) ?_
          (try simp only [aP, aN, aT, aZ, aS])
          refine k_any 2 (v := _) (by simp only [aG, aH, aI]; rfl) (by kernel_rfl) (by kernel_rfl) (by kernel_rfl) (by kernel_rfl) (by exact fun _ _ _ h => h) (.inr HC.out) (by kernel_rfl) (fun w => by (repeat (rename ∀ (_ : Act) (_ : World), _ => hK9; clear hK9)); go_simp; rfl) ?_
          (try simp only [aP, aN, aT, aZ, aS])
          refine k_any 3 (v := _) (by simp only [aG, aH, aI]; rfl) (by kernel_rfl) (by kernel_rfl) (by kernel_rfl) (by kernel_rfl) (by exact fun _ _ _ h => h) (.inr HC.out) (by kernel_rfl) (fun w => by (repeat (rename ∀ (_ : Act) (_ : World), _ => hK9; clear hK9)); go_simp; rfl) ?_
          (try simp only [aP, aN, aT, aZ, aS])
          refine k_load 4 (by simp only [aG, aH, aI]; rfl) (by kernel_rfl) (by kernel_rfl) (by kernel_rfl) (by kernel_rfl) (by exact fun _ _ _ h => h) HC.out (by kernel_rfl) rfl rfl 0 rfl ((agT _ (by decide)).trans rfl) rfl ?_
          (try simp only [aP, aN, aT, aZ, aS])
          refine k_any 5 (v := _) (by simp only [aG, aH, aI]; rfl) (by kernel_rfl) (by kernel_rfl) (by kernel_rfl) (by kernel_rfl) (by exact fun _ _ _ h => h) (.inr HC.out) (by kernel_rfl) (fun w => by (repeat (rename ∀ (_ : Act) (_ : World), _ => hK9; clear hK9)); go_simp; rfl) ?_
          (try simp only [aP, aN, aT, aZ, aS])
          refine k_any 6 (v := _) (by simp only [aG, aH, aI]; rfl) (by kernel_rfl) (by kernel_rfl) (by kernel_rfl) (by kernel_rfl) (by exact fun _ _ _ h => h) (.inr HC.out) (by kernel_rfl) (fun w => by (repeat (rename ∀ (_ : Act) (_ : World), _ => hK9; clear hK9)); go_simp; rfl) ?_
          (try simp only [aP, aN, aT, aZ, aS])
          refine k_any 7 (v := _) (by simp only [aG, aH, aI]; rfl) (by kernel_rfl) (by kernel_rfl) (by kernel_rfl) (by kernel_rfl) (by exact fun _ _ _ h => h) (.inr HC.out) (by kernel_rfl) (fun w => by (repeat (rename ∀ (_ : Act) (_ : World), _ => hK9; clear hK9)); go_simp; rfl) ?_
          (try simp only [aP, aN, aT, aZ, aS])
          refine k_any 8 (v := _) (by simp only [aG, aH, aI]; rfl) (by kernel_rfl) (by kernel_rfl) (by kernel_rfl) (by kernel_rfl) (by exact fun _ _ _ h => h) (.inr HC.out) (by kernel_rfl) (fun w => by (repeat (rename ∀ (_ : Act) (_ : World), _ => hK9; clear hK9)); go_simp; rfl) ?_
          (try simp only [aP, aN, aT, aZ, aS])
          refine k_load 9 (by simp only [aG, aH, aI]; rfl) (by kernel_rfl) (by kernel_rfl) (by kernel_rfl) (by kernel_rfl) (by exact fun _ _ _ h => h) HC.out (by kernel_rfl) rfl rfl 1 rfl ((agT _ (by decide)).trans rfl) rfl ?_
          (try simp only [aP, aN, aT, aZ, aS])
          refine k_any 10 (v := _) (by simp only [aG, aH, aI]; rfl) (by kernel_rfl) (by kernel_rfl) (by kernel_rfl) (by kernel_rfl) (by exact fun _ _ _ h => h) (.inr HC.out) (by kernel_rfl) (fun w => by (repeat (rename ∀ (_ : Act) (_ : World), _ => hK9; clear hK9)); go_simp; rfl) ?_
          (try simp only [aP, aN, aT, aZ, aS])
          refine k_load 11 (by simp only [aG, aH, aI]; rfl) (by kernel_rfl) (by kernel_rfl) (by kernel_rfl) (by kernel_rfl) (by exact fun _ _ _ h => h) HC.out (by kernel_rfl) rfl rfl 1 rfl ((agT _ (by decide)).trans rfl) rfl ?_
          (try simp only [aP, aN, aT, aZ, aS])
          refine k_any 12 (v := _) (by simp only [aG, aH, aI]; rfl) (by kernel_rfl) (by kernel_rfl) (by kernel_rfl) (by kernel_rfl) (by exact fun _ _ _ h => h) (.inr HC.out) (by kernel_rfl) (fun w => by (repeat (rename ∀ (_ : Act) (_ : World), _ => hK9; clear hK9)); go_simp; rfl) ?_
          (try simp only [aP, aN, aT, aZ, aS])
          refine k_any 13 (v := _) (by simp only [aG, aH, aI]; rfl) (by kernel_rfl) (by kernel_rfl) (by kernel_rfl) (by kernel_rfl) (by exact fun _ _ _ h => h) (.inr HC.out) (by kernel_rfl) (fun w => by (repeat (rename ∀ (_ : Act) (_ : World), _ => hK9; clear hK9)); go_simp; rfl) ?_
          (try simp only [aP, aN, aT, aZ, aS])
          refine k_any 14 (v := _) (by simp only [aG, aH, aI]; rfl) (by kernel_rfl) (by kernel_rfl) (by kernel_rfl) (by kernel_rfl) (by exact fun _ _ _ h => h) (.inr HC.out) (by kernel_rfl) (fun w => by (repeat (rename ∀ (_ : Act) (_ : World), _ => hK9; clear hK9)); go_simp; rfl) ?_
          (try simp only [aP, aN, aT, aZ, aS])
          refine k_load 15 (by simp only [aG, aH, aI]; rfl) (by kernel_rfl) (by kernel_rfl) (by kernel_rfl) (by kernel_rfl) (by exact fun _ _ _ h => h) HC.out (by kernel_rfl) rfl rfl 0 rfl ((agT _ (by decide)).trans rfl) rfl ?_
          (try simp only [aP, aN, aT, aZ, aS])
          refine k_any 16 (v := _) (by simp only [aG, aH, aI]; rfl) (by kernel_rfl) (by kernel_rfl) (by kernel_rfl) (by kernel_rfl) (by exact fun _ _ _ h => h) (.inr HC.out) (by kernel_rfl) (fun w => by (repeat (rename ∀ (_ : Act) (_ : World), _ => hK9; clear hK9)); go_simp; rfl) ?_
          (try simp only [aP, aN, aT, aZ, aS])
          refine k_any 17 (v := _) (by simp only [aG, aH, aI]; rfl) (by kernel_rfl) (by kernel_rfl) (by kernel_rfl) (by kernel_rfl) (by exact fun _ _ _ h => h) (.inr HC.out) (by kernel_rfl) (fun w => by (repeat (rename ∀ (_ : Act) (_ : World), _ => hK9; clear hK9)); go_simp; rfl) ?_
          (try simp only [aP, aN, aT, aZ, aS])
          refine k_one 18 (by simp only [aG, aH, aI]; rfl) (by kernel_rfl) ?_
          ((with_reducible refine gL rfl ?_); refine sh_lit HS.out rfl rfl (by go_simp; exact ⟨⟨rfl, rfl⟩, rfl⟩) ?_; clear HS; intro g w1 hg HS1; (simp only [Held.enc, Last.enc, segOf, aL, aC, aE] at HS1); have HS := Aside0.mk HS1; clear HS1; try simp only [aP, aN, aT, aZ, aS])
          have HC1 := HS.out.pick [0, 3] rfl (by decide)
          clear HC
          have HC := Aside0.mk HC1
          clear HC1
          refine k_nil (.inr HC.out) ?_
          (try simp only [aP, aN, aT, aZ, aS])
          refine k_call 19 (by simp only [aG, aH, aI]; rfl) (by kernel_rfl) (by kernel_rfl) rfl (vs := #[.slice A k c, .int .i64 k, .slice (some ⟨g, 0, none⟩) 1 1]) (by kernel_rfl) (fnT _ (by decide)) (insHeld_any A k c l S k g ⟨(k : Int) + 1, x.node, x.boot, nxt, ix⟩ _ (SH.pack (is := [_, _]) [_, _, _, _] (HS.out.pick [1, 5, 0, 2, 3, 4] rfl (by decide))) (by omega) (by omega)) (fun e w2 hpost => ?_); obtain ⟨A', c', S', rfl, HS2⟩ := hpost; have HSN := (show SH w0 w2 [_, _, _, _, _] from (SH.unpack (is := [_, _]) [_, _, _, _] HS2).pick [2, 0, 3, 4, 5] rfl (by decide)); have HC1 := HSN.pick [0, 3] rfl (by decide); refine ⟨_, rfl, HC1, ?_⟩; clear HS HC; have HS := Aside0.mk HSN; have HC := Aside0.mk HC1; clear HSN HC1
          (try simp only [aP, aN, aT, aZ, aS])
          refine k_any 20 (v := _) (by simp only [aG, aH, aI]; rfl) (by kernel_rfl) (by kernel_rfl) (by kernel_rfl) (by kernel_rfl) (by exact fun _ _ _ h => h) (.inr HC.out) (by kernel_rfl) (fun w => by (repeat (rename ∀ (_ : Act) (_ : World), _ => hK9; clear hK9)); go_simp; rfl) ?_
          (try simp only [aP, aN, aT, aZ, aS])
          refine k_any 21 (v := _) (by simp only [aG, aH, aI]; rfl) (by kernel_rfl) (by kernel_rfl) (by kernel_rfl) (by kernel_rfl) (by exact fun _ _ _ h => h) (.inr HC.out) (by kernel_rfl) (fun w => by (repeat (rename ∀ (_ : Act) (_ : World), _ => hK9; clear hK9)); go_simp; rfl) ?_
          (try simp only [aP, aN, aT, aZ, aS])
          refine k_one 22 (by simp only [aG, aH, aI]; rfl) (by kernel_rfl) ?_
          ((with_reducible refine gSt rfl ?_); (first | refine sh_store HS.out rfl rfl rfl rfl 0 rfl (u := (.agg (List.toArray _))) rfl (szT _ (by decide)) rfl (lb rfl) ?_ | refine sh_store HS.out rfl rfl rfl rfl 0 rfl (u := (.int _ _)) rfl (szT _ (by decide)) rfl (lb rfl) ?_ | refine sh_store HS.out rfl rfl rfl rfl 0 rfl (u := (.slice _ _ _)) rfl (szT _ (by decide)) rfl (lb rfl) ?_ | refine sh_store HS.out rfl rfl rfl rfl 0 rfl (u := (.bool _)) rfl (szT _ (by decide)) rfl (lb rfl) ?_ | refine sh_store HS.out rfl rfl rfl rfl 0 rfl (u := (.pointer _)) rfl (szT _ (by decide)) rfl (lb rfl) ?_ | refine sh_store HS.out rfl rfl rfl rfl 0 rfl (u := (.string _)) rfl (szT _ (by decide)) rfl (lb rfl) ?_ | refine sh_store HS.out rfl rfl rfl rfl 0 rfl (u := (.map _)) rfl (szT _ (by decide)) rfl (lb rfl) ?_ | refine sh_store HS.out rfl rfl rfl rfl 0 rfl (u := (.func _ _ _)) rfl (szT _ (by decide)) rfl (lb rfl) ?_); clear HS; intro w1 HS1; (simp only [Held.enc, Last.enc, segOf, aL, aZ, aS, putSeg] at HS1); have HS := Aside0.mk HS1; clear HS1; try simp only [aP, aN, aT, aZ, aS])
          refine k_nil (.inl (by kernel_rfl)) ?_
          (try simp only [aP, aN, aT, aZ, aS])
          refine k_done (by kernel_rfl) ?_ _
          go_wp2_with (first | ((first | ((first | ((with_reducible refine gA rfl ?_); refine sh_alloc HS.out rfl rfl (zeT _ (by decide)) ?_) | ((with_reducible refine gB rfl ?_); refine bx HS.out rfl rfl ?_; first | refine bv (v := .agg (List.toArray _)) rfl ?_ | refine bv (v := .int _ _) rfl ?_ | refine bv (v := .slice _ _ _) rfl ?_ | refine bv (v := .bool _) rfl ?_ | refine bv (v := .pointer _) rfl ?_) | ((with_reducible refine gL rfl ?_); refine sh_lit HS.out rfl rfl (by go_simp; exact ⟨⟨rfl, rfl⟩, rfl⟩) ?_)); clear HS; intro g w1 hg HS1; (simp only [Held.enc, Last.enc, zeF, segOf, aL, aC, aE] at HS1); have HS := Aside0.mk HS1; clear HS1) | ((with_reducible refine gLd rfl ?_); refine ld2 HS.out rfl rfl rfl (by repeat (first | exact AtI.here | apply AtI.there)) ?_; (first | refine LdK.one ((agT _ (by decide)).trans rfl) rfl ?_ | (refine LdK.agg ((agT _ (by decide)).trans rfl) (szT _ (by decide)) (lb rfl) ?_; try simp only [szL, aP, aN, aT, aZ, aS, aD, aF, aJ, aK, aM, aO]))) | ((with_reducible refine gSt rfl ?_); refine st2 HS.out rfl rfl rfl rfl (by repeat (first | exact AtI.here | apply AtI.there)) ?_; (first | refine sv (u := .agg (List.toArray _)) rfl ?_ | refine sv (u := .int _ _) rfl ?_ | refine sv (u := .slice _ _ _) rfl ?_ | refine sv (u := .bool _) rfl ?_ | refine sv (u := .pointer _) rfl ?_); refine sw (szT _ (by decide)) rfl (lb rfl) ?_; clear HS; intro w1 HS1; (simp only [Held.enc, Last.enc, segOf, aL, aZ, aS, putSeg] at HS1); have HS := Aside0.mk HS1; clear HS1)); try simp only [aP, aN, aT, aZ, aS]))
          have hres := HRS.out
          rw [HGE.out] at hres
          subst hres
          have hle : (l.take k ++ (⟨(k : Int) + 1, x.node, x.boot, nxt, ix⟩ : Held) :: l.drop k).length = k + 1 := by have := HM.out; simp only [List.length_append, List.length_cons, List.length_take, List.length_drop]; omega
          refine bodyPost_ret (results_cell_row rfl _ _ _ _ _ _ _ rfl (HS.out.blk 4 rfl) Try.underlying74 rfl ((szT _ (by decide)).trans rfl)) rfl ?_
          refine ⟨A', c', S', ⟨1, (k : Int) + 1, nxt⟩, rfl, rfl, ?_⟩
          have HSF := HS.out.pick [0, 1, 2] rfl (by decide)
          show SH w0 _ [blk gl [.int .i64 lim, .int .u64 (nxt + 1), .slice A' (l.take k ++ (⟨(k : Int) + 1, x.node, x.boot, nxt, ix⟩ : Held) :: l.drop k).length c', .slice B m d] 27, row heldK 72 (.slice A' (l.take k ++ (⟨(k : Int) + 1, x.node, x.boot, nxt, ix⟩ : Held) :: l.drop k).length c') (l.take k ++ (⟨(k : Int) + 1, x.node, x.boot, nxt, ix⟩ : Held) :: l.drop k) S', F]
          rw [hle]
          exact HSF
end Go.Proofs.Ytekjihmepdhmeaa.Led
