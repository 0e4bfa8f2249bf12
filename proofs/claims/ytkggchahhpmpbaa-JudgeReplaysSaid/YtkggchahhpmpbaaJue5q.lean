/- Lemmas towards the law: what of the text Jue5 it needs. -/
import Derived.Test.YtkggchahhpmpbaaJue4q
namespace Go.Proofs.Ytkggchahhpmpbaa.Jue
open Go.RowKit Go.Proofs.YtkggchahhpmpbaaW.PrintWords Go.Proofs.Ytkggchahhpmpbaa.Sl
set_option linter.unusedVariables false
set_option linter.unusedSimpArgs false
def JudgePost (w : World) (z : Int × Int) (e : Ending) (w' : World) : Prop := e = .returned (.tuple #[.int .i64 z.1, .int .i64 z.2]) ∧ Below w.heap.size w w'
theorem judge_any (A : Option Addr) (N c : Nat) (lim : Int) (l : List Seen) (w : World) (hr : Rd Seen.enc 3 w A N l) :
    Calls Try.prog 9 #[.int .i64 lim, .slice A N c] w (JudgePost w (judgeS lim l [] 0)) := by
  have HR := Aside0.mk hr
  clear hr
  have HS := Aside0.mk (SH.start w)
  obtain ⟨z, hz⟩ : ∃ z, judgeS lim l [] 0 = z := ⟨_, rfl⟩
  have HP := Aside0.mk (fun w1 hr => play_any A N c lim l w1 hr)
  unfold PlayPost at HP
  rw [hz] at HP ⊢
  clear hz
  go_enter Try.func9, Try.ntmps9
  go_wp2_with (first | (go_at_call 24; (with_reducible refine (HP.out _ (HR.out.sh HS.out)).mono ?_); rintro e w2 (⟨hz2, hz1, gO, gc, go, gm, C, O, M, rfl, _, HS1⟩ | ⟨hz2, rfl, hb⟩)) | ((first | ((first | ((with_reducible refine gA rfl ?_); refine sh_alloc HS.out rfl rfl (zeT _ (by decide)) ?_) | ((with_reducible refine gB rfl ?_); refine bx HS.out rfl rfl ?_; first | refine bv (v := .agg (List.toArray _)) rfl ?_ | refine bv (v := .int _ _) rfl ?_ | refine bv (v := .slice _ _ _) rfl ?_ | refine bv (v := .bool _) rfl ?_ | refine bv (v := .pointer _) rfl ?_ | refine bv (v := .string _) rfl ?_ | refine bv (v := .map _) rfl ?_ | refine bv (v := .func _ _ _) rfl ?_) | ((with_reducible refine gL rfl ?_); refine sh_lit HS.out rfl rfl (by go_simp; exact ⟨⟨rfl, rfl⟩, rfl⟩) ?_)); clear HS; intro g w1 hg HS1; (simp only [Seen.enc, cnEnc, zeF, segOf, aL, aC, aE] at HS1); have HS := Aside0.mk HS1; clear HS1)); try simp only [aP, aN, aT, aZ, aS]))
  · have hb := HS1.below
    have HZ := Aside0.mk (And.intro hz1 hz2)
    clear hz1 hz2
    have HS1 := HS.out.quiet hb; clear HS hb; have HS := Aside0.mk HS1; clear HS1
    go_wp2_with (first | ((first | ((first | ((with_reducible refine gA rfl ?_); refine sh_alloc HS.out rfl rfl (zeT _ (by decide)) ?_) | ((with_reducible refine gB rfl ?_); refine bx HS.out rfl rfl ?_; first | refine bv (v := .agg (List.toArray _)) rfl ?_ | refine bv (v := .int _ _) rfl ?_ | refine bv (v := .slice _ _ _) rfl ?_ | refine bv (v := .bool _) rfl ?_ | refine bv (v := .pointer _) rfl ?_ | refine bv (v := .string _) rfl ?_ | refine bv (v := .map _) rfl ?_ | refine bv (v := .func _ _ _) rfl ?_) | ((with_reducible refine gL rfl ?_); refine sh_lit HS.out rfl rfl (by go_simp; exact ⟨⟨rfl, rfl⟩, rfl⟩) ?_)); clear HS; intro g w1 hg HS1; (simp only [Seen.enc, cnEnc, zeF, segOf, aL, aC, aE] at HS1); have HS := Aside0.mk HS1; clear HS1)); try simp only [aP, aN, aT, aZ, aS]))
    go_ret2
    exact ⟨by rw [HZ.out.1, HZ.out.2]; rfl, HS.out.below⟩
  · have HS1 := HS.out.quiet hb; clear HS hb; have HS := Aside0.mk HS1; clear HS1
    clear hz2
    go_wp2_with (first | ((first | ((first | ((with_reducible refine gA rfl ?_); refine sh_alloc HS.out rfl rfl (zeT _ (by decide)) ?_) | ((with_reducible refine gB rfl ?_); refine bx HS.out rfl rfl ?_; first | refine bv (v := .agg (List.toArray _)) rfl ?_ | refine bv (v := .int _ _) rfl ?_ | refine bv (v := .slice _ _ _) rfl ?_ | refine bv (v := .bool _) rfl ?_ | refine bv (v := .pointer _) rfl ?_ | refine bv (v := .string _) rfl ?_ | refine bv (v := .map _) rfl ?_ | refine bv (v := .func _ _ _) rfl ?_) | ((with_reducible refine gL rfl ?_); refine sh_lit HS.out rfl rfl (by go_simp; exact ⟨⟨rfl, rfl⟩, rfl⟩) ?_)); clear HS; intro g w1 hg HS1; (simp only [Seen.enc, cnEnc, zeF, segOf, aL, aC, aE] at HS1); have HS := Aside0.mk HS1; clear HS1)); try simp only [aP, aN, aT, aZ, aS]))
    go_ret2
    exact ⟨rfl, HS.out.below⟩
def cnEnc (c : Cn) : List Value := [.int .i64 c.1, .int .i64 c.2]
theorem cnLen (c : Cn) : (cnEnc c).length = 2 := rfl
theorem cnOne (c : Cn) : (cnEnc c).all (·.oneCell') = true := rfl
def cnK : Kd Cn := flk cnEnc 2 cnLen cnOne
theorem infoCn : (Try.prog.info? 56).map (fun i => (i.zero, i.size, i.bytes)) = some (some (.agg #[.int .i64 0, .int .i64 0]), 2, 16) := by kernel_rfl
theorem openS_len (l : List Seen) : ∀ k, k ≤ l.length → (openS (l.take k)).length ≤ k
  | 0, _ => by simp [openS]
  | k + 1, h => by
    have := openS_len l k (by omega)
    rw [openS_succ (x := l.getD k default) (by omega) rfl]
    unfold nextS
    split
    · simp; omega
    · exact Nat.le_trans (List.length_filter_le _ _) (by omega)
theorem filter_succ {α : Type} (p : α → Bool) {l : List α} {k : Nat} {d x : α} (hk : k < l.length) (hx : l.getD k d = x) : (l.take (k + 1)).filter p = (l.take k).filter p ++ (if p x then [x] else []) := by
  rw [List.take_succ_eq_append_getElem hk, List.filter_append]
  rw [List.getD_eq_getElem?_getD, List.getElem?_eq_getElem hk, Option.getD_some] at hx
  rw [hx]
  cases h : p x <;> simp [h]
def keepC (s : Seen) (c : Cn) : Bool := !(c.1 == s.node && (s.kind != 2 || c.2 == s.token))
set_option maxHeartbeats 6400000 in
set_option maxRecDepth 100000 in
theorem refOpen_any (A : Option Addr) (N c : Nat) (l : List Seen) (w : World) (hr : Rd Seen.enc 3 w A N l) (hN : N ≤ 1000) :
    Calls Try.prog 40 #[.slice A N c] w (fun e w' => ∃ v S, e = .returned v ∧ SH w w' [row cnK 56 v (openS l) S]) := by
  obtain rfl := hr.len.1
  have hm := hr.len.2
  have HR := Aside0.mk hr
  clear hr
  have HS := Aside0.mk ((SH.start w).nil cnK 56)
  simp only [aE] at HS
  go_enter Try.func40, Try.ntmps40
  go_wp2
  go_loopw [3, 6, 11] (fun v3 _ v11 wr => ∃ (k : Nat) (S : Nat → Prop), k ≤ l.length ∧ v11 = .int .i64 k ∧ Aside0 (SH w wr [row cnK 56 v3 (openS (l.take k)) S])) (fun _ _ v11 _ => l.length - (intOf v11).toNat)
  case atStart => exact ⟨0, _, Nat.zero_le _, rfl, HS⟩
  case round =>
    clear HS
    obtain ⟨k, S, hk, rfl, HS⟩ := hrel
    by_cases hlt : k < l.length
    · obtain ⟨ad, rfl⟩ := HR.out.addr (by omega)
      obtain ⟨x, hx⟩ : ∃ x, l.getD k default = x := ⟨_, rfl⟩
      have HX := Aside0.mk hx
      have HRR := Aside0.mk (HR.out.sh HS.out)
      have HOS := Aside0.mk (openS_succ hlt hx)
      have hLl := openS_len l k hk
      clear hx
      obtain ⟨A1, c1, rfl, hc1, hrd⟩ := row_rd HS.out 0 rfl
      obtain ⟨L, hL⟩ : ∃ L, openS (l.take k) = L := ⟨_, rfl⟩
      rw [hL] at HS HOS hLl hc1 hrd ⊢
      have HLE := Aside0.mk hL
      clear hL hrd
      cases hb1 : (x.kind == 1) with
      | true =>
        have HK1 := Aside0.mk (show nextS L x = L ++ [(x.node, x.token)] by unfold nextS; rw [if_pos (by simpa using hb1)])
        go_wp2_with (first | ((with_reducible refine gLd rfl ?_); refine rd_load HRR.out rfl rfl (i := k) rfl hlt default Seen.len ((agT _ (by decide)).trans rfl) (szT _ (by decide)) ?_; intro x hx; obtain rfl := HX.out.symm.trans hx; (try simp only [Seen.enc, cnEnc, aP, aN, aT, aZ, aS])) | ((with_reducible refine gC (b := .append) rfl ?_); refine sh_append HS.out rfl rfl rfl 0 rfl rfl (Rd.one cnLen (x.node, x.token) (HS.out.blk 2 rfl)) Try.underlying52 infoCn rfl (by decide) (by decide) (by omega) ?_; clear HS; intro v1 w1 S1 HS1; (simp only [aZ, aS] at HS1); have HS := Aside0.mk HS1; clear HS1; try simp only [aP, aN, aT, aZ, aS]) | ((first | ((first | ((with_reducible refine gA rfl ?_); refine sh_alloc HS.out rfl rfl (zeT _ (by decide)) ?_) | ((with_reducible refine gB rfl ?_); refine bx HS.out rfl rfl ?_; first | refine bv (v := .agg (List.toArray _)) rfl ?_ | refine bv (v := .int _ _) rfl ?_ | refine bv (v := .slice _ _ _) rfl ?_ | refine bv (v := .bool _) rfl ?_ | refine bv (v := .pointer _) rfl ?_ | refine bv (v := .string _) rfl ?_ | refine bv (v := .map _) rfl ?_ | refine bv (v := .func _ _ _) rfl ?_) | ((with_reducible refine gL rfl ?_); refine sh_lit HS.out rfl rfl (by go_simp; exact ⟨⟨rfl, rfl⟩, rfl⟩) ?_)); clear HS; intro g w1 hg HS1; (simp only [Seen.enc, cnEnc, zeF, segOf, aL, aC, aE] at HS1); have HS := Aside0.mk HS1; clear HS1) | ((with_reducible refine gLd rfl ?_); refine ld2 HS.out rfl rfl rfl (by repeat (first | exact AtI.here | apply AtI.there)) ?_; (first | refine LdK.one ((agT _ (by decide)).trans rfl) rfl ?_ | (refine LdK.agg ((agT _ (by decide)).trans rfl) (szT _ (by decide)) (lb rfl) ?_; try simp only [szL, aP, aN, aT, aZ, aS, aD, aF, aJ, aK, aM, aO]))) | ((with_reducible refine gSt rfl ?_); refine st2 HS.out rfl rfl rfl rfl (by repeat (first | exact AtI.here | apply AtI.there)) ?_; (first | refine sv (u := .agg (List.toArray _)) rfl ?_ | refine sv (u := .int _ _) rfl ?_ | refine sv (u := .slice _ _ _) rfl ?_ | refine sv (u := .bool _) rfl ?_ | refine sv (u := .pointer _) rfl ?_ | refine sv (u := .string _) rfl ?_ | refine sv (u := .map _) rfl ?_ | refine sv (u := .func _ _ _) rfl ?_); refine sw (szT _ (by decide)) rfl (lb rfl) ?_; clear HS; intro w1 HS1; (simp only [Seen.enc, cnEnc, segOf, aL, aZ, aS, putSeg] at HS1); have HS := Aside0.mk HS1; clear HS1)); try simp only [aP, aN, aT, aZ, aS]))
        go_roundw
        case rel =>
          refine ⟨k + 1, S1, by omega, by go_num, ⟨?_⟩⟩
          rw [HOS.out, HK1.out]
          exact HS.out.pick [0] rfl (by decide)
        case measure => simp [intOf]; omega
      | false =>
        have HK1 := Aside0.mk (show nextS L x = L.filter (keepC x) by unfold nextS; rw [if_neg (by simpa using hb1)]; rfl)
        go_upto_region 8 with (first | ((with_reducible refine gLd rfl ?_); refine rd_load HRR.out rfl rfl (i := k) rfl hlt default Seen.len ((agT _ (by decide)).trans rfl) (szT _ (by decide)) ?_; intro x hx; obtain rfl := HX.out.symm.trans hx; (try simp only [Seen.enc, cnEnc, aP, aN, aT, aZ, aS])) | ((first | ((first | ((with_reducible refine gA rfl ?_); refine sh_alloc HS.out rfl rfl (zeT _ (by decide)) ?_) | ((with_reducible refine gB rfl ?_); refine bx HS.out rfl rfl ?_; first | refine bv (v := .agg (List.toArray _)) rfl ?_ | refine bv (v := .int _ _) rfl ?_ | refine bv (v := .slice _ _ _) rfl ?_ | refine bv (v := .bool _) rfl ?_ | refine bv (v := .pointer _) rfl ?_ | refine bv (v := .string _) rfl ?_ | refine bv (v := .map _) rfl ?_ | refine bv (v := .func _ _ _) rfl ?_) | ((with_reducible refine gL rfl ?_); refine sh_lit HS.out rfl rfl (by go_simp; exact ⟨⟨rfl, rfl⟩, rfl⟩) ?_)); clear HS; intro g w1 hg HS1; (simp only [Seen.enc, cnEnc, zeF, segOf, aL, aC, aE] at HS1); have HS := Aside0.mk HS1; clear HS1) | ((with_reducible refine gLd rfl ?_); refine ld2 HS.out rfl rfl rfl (by repeat (first | exact AtI.here | apply AtI.there)) ?_; (first | refine LdK.one ((agT _ (by decide)).trans rfl) rfl ?_ | (refine LdK.agg ((agT _ (by decide)).trans rfl) (szT _ (by decide)) (lb rfl) ?_; try simp only [szL, aP, aN, aT, aZ, aS, aD, aF, aJ, aK, aM, aO]))) | ((with_reducible refine gSt rfl ?_); refine st2 HS.out rfl rfl rfl rfl (by repeat (first | exact AtI.here | apply AtI.there)) ?_; (first | refine sv (u := .agg (List.toArray _)) rfl ?_ | refine sv (u := .int _ _) rfl ?_ | refine sv (u := .slice _ _ _) rfl ?_ | refine sv (u := .bool _) rfl ?_ | refine sv (u := .pointer _) rfl ?_ | refine sv (u := .string _) rfl ?_ | refine sv (u := .map _) rfl ?_ | refine sv (u := .func _ _ _) rfl ?_); refine sw (szT _ (by decide)) rfl (lb rfl) ?_; clear HS; intro w1 HS1; (simp only [Seen.enc, cnEnc, segOf, aL, aZ, aS, putSeg] at HS1); have HS := Aside0.mk HS1; clear HS1)); try simp only [aP, aN, aT, aZ, aS]))
        have HSN := HS.out.nil cnK 56
        simp only [aC, aE] at HSN
        clear HS
        have HS := Aside0.mk HSN
        clear HSN
        obtain ⟨g5, hg5⟩ : ∃ g5, g5 = g := ⟨_, rfl⟩
        subst hg5
        go_wp2_with (first | ((first | ((first | ((with_reducible refine gA rfl ?_); refine sh_alloc HS.out rfl rfl (zeT _ (by decide)) ?_) | ((with_reducible refine gB rfl ?_); refine bx HS.out rfl rfl ?_; first | refine bv (v := .agg (List.toArray _)) rfl ?_ | refine bv (v := .int _ _) rfl ?_ | refine bv (v := .slice _ _ _) rfl ?_ | refine bv (v := .bool _) rfl ?_ | refine bv (v := .pointer _) rfl ?_ | refine bv (v := .string _) rfl ?_ | refine bv (v := .map _) rfl ?_ | refine bv (v := .func _ _ _) rfl ?_) | ((with_reducible refine gL rfl ?_); refine sh_lit HS.out rfl rfl (by go_simp; exact ⟨⟨rfl, rfl⟩, rfl⟩) ?_)); clear HS; intro g w1 hg HS1; (simp only [Seen.enc, cnEnc, zeF, segOf, aL, aC, aE] at HS1); have HS := Aside0.mk HS1; clear HS1) | ((with_reducible refine gLd rfl ?_); refine ld2 HS.out rfl rfl rfl (by repeat (first | exact AtI.here | apply AtI.there)) ?_; (first | refine LdK.one ((agT _ (by decide)).trans rfl) rfl ?_ | (refine LdK.agg ((agT _ (by decide)).trans rfl) (szT _ (by decide)) (lb rfl) ?_; try simp only [szL, aP, aN, aT, aZ, aS, aD, aF, aJ, aK, aM, aO]))) | ((with_reducible refine gSt rfl ?_); refine st2 HS.out rfl rfl rfl rfl (by repeat (first | exact AtI.here | apply AtI.there)) ?_; (first | refine sv (u := .agg (List.toArray _)) rfl ?_ | refine sv (u := .int _ _) rfl ?_ | refine sv (u := .slice _ _ _) rfl ?_ | refine sv (u := .bool _) rfl ?_ | refine sv (u := .pointer _) rfl ?_ | refine sv (u := .string _) rfl ?_ | refine sv (u := .map _) rfl ?_ | refine sv (u := .func _ _ _) rfl ?_); refine sw (szT _ (by decide)) rfl (lb rfl) ?_; clear HS; intro w1 HS1; (simp only [Seen.enc, cnEnc, segOf, aL, aZ, aS, putSeg] at HS1); have HS := Aside0.mk HS1; clear HS1)); try simp only [aP, aN, aT, aZ, aS]))
        go_loopw [6, 28] (fun v6 v28 wr => ∃ (j : Nat) (S2 : Nat → Prop), j ≤ L.length ∧ v28 = .int .i64 j ∧ Aside0 (SH w wr [row cnK 56 (.slice A1 L.length c1) L S, blk g5 [.int .i64 x.kind, .int .i64 x.node, .int .i64 x.token] 28, row cnK 56 v6 ((L.take j).filter (keepC x)) S2])) (fun _ v28 _ => L.length - (intOf v28).toNat)
        case atStart => exact ⟨0, _, Nat.zero_le _, rfl, HS⟩
        case round =>
          clear HS
          obtain ⟨j, S2, hj, rfl, HS⟩ := hrel
          by_cases hjl : j < L.length
          · have hrd := row_rds (hl := cnLen) (h1 := cnOne) 0 rfl _ HS.out
            obtain ⟨ad1, rfl⟩ := hrd.addr (by omega)
            obtain ⟨y, hy⟩ : ∃ y, L.getD j default = y := ⟨_, rfl⟩
            have HY := Aside0.mk hy
            have HRL := Aside0.mk hrd
            have HF := Aside0.mk (filter_succ (keepC x) hjl hy)
            have hfl : ((L.take j).filter (keepC x)).length ≤ j := Nat.le_trans (List.length_filter_le _ _) (by rw [List.length_take]; omega)
            clear hy hrd
            cases e1 : (y.1 == x.node) with
            | false =>
              have hk' := Aside0.mk (show keepC x y = true by unfold keepC; rw [e1]; rfl)
              have e1' : (y.1 != x.node) = true := by rw [bne, e1]; rfl
              go_wp2_with (first | ((with_reducible refine gLd rfl ?_); refine rd_load HRL.out rfl rfl (i := j) rfl hjl default cnLen ((agT _ (by decide)).trans rfl) (szT _ (by decide)) ?_; intro x hx; obtain rfl := HY.out.symm.trans hx; (try simp only [Seen.enc, cnEnc, aP, aN, aT, aZ, aS])) | ((with_reducible refine gC (b := .append) rfl ?_); refine sh_append HS.out rfl rfl rfl 2 rfl rfl (Rd.one cnLen y (HS.out.blk 4 rfl)) Try.underlying52 infoCn rfl (by decide) (by decide) (by omega) ?_; clear HS; intro v1 w1 S1 HS1; (simp only [aZ, aS] at HS1); have HS := Aside0.mk HS1; clear HS1; try simp only [aP, aN, aT, aZ, aS]) | ((first | ((first | ((with_reducible refine gA rfl ?_); refine sh_alloc HS.out rfl rfl (zeT _ (by decide)) ?_) | ((with_reducible refine gB rfl ?_); refine bx HS.out rfl rfl ?_; first | refine bv (v := .agg (List.toArray _)) rfl ?_ | refine bv (v := .int _ _) rfl ?_ | refine bv (v := .slice _ _ _) rfl ?_ | refine bv (v := .bool _) rfl ?_ | refine bv (v := .pointer _) rfl ?_ | refine bv (v := .string _) rfl ?_ | refine bv (v := .map _) rfl ?_ | refine bv (v := .func _ _ _) rfl ?_) | ((with_reducible refine gL rfl ?_); refine sh_lit HS.out rfl rfl (by go_simp; exact ⟨⟨rfl, rfl⟩, rfl⟩) ?_)); clear HS; intro g w1 hg HS1; (simp only [Seen.enc, cnEnc, zeF, segOf, aL, aC, aE] at HS1); have HS := Aside0.mk HS1; clear HS1) | ((with_reducible refine gLd rfl ?_); refine ld2 HS.out rfl rfl rfl (by repeat (first | exact AtI.here | apply AtI.there)) ?_; (first | refine LdK.one ((agT _ (by decide)).trans rfl) rfl ?_ | (refine LdK.agg ((agT _ (by decide)).trans rfl) (szT _ (by decide)) (lb rfl) ?_; try simp only [szL, aP, aN, aT, aZ, aS, aD, aF, aJ, aK, aM, aO]))) | ((with_reducible refine gSt rfl ?_); refine st2 HS.out rfl rfl rfl rfl (by repeat (first | exact AtI.here | apply AtI.there)) ?_; (first | refine sv (u := .agg (List.toArray _)) rfl ?_ | refine sv (u := .int _ _) rfl ?_ | refine sv (u := .slice _ _ _) rfl ?_ | refine sv (u := .bool _) rfl ?_ | refine sv (u := .pointer _) rfl ?_ | refine sv (u := .string _) rfl ?_ | refine sv (u := .map _) rfl ?_ | refine sv (u := .func _ _ _) rfl ?_); refine sw (szT _ (by decide)) rfl (lb rfl) ?_; clear HS; intro w1 HS1; (simp only [Seen.enc, cnEnc, segOf, aL, aZ, aS, putSeg] at HS1); have HS := Aside0.mk HS1; clear HS1)); try simp only [aP, aN, aT, aZ, aS]))
              go_roundw
              case rel =>
                refine ⟨j + 1, S1, by omega, by go_num, ⟨?_⟩⟩
                rw [HF.out, hk'.out]
                exact HS.out.pick [0, 1, 2] rfl (by decide)
              case measure => simp [intOf]; omega
            | true =>
              have e1' : (y.1 != x.node) = false := by rw [bne, e1]; rfl
              cases e2 : (x.kind == 2) with
              | false =>
                have hk' := Aside0.mk (show keepC x y = false by unfold keepC; rw [e1, bne, e2]; rfl)
                go_wp2_with (first | ((with_reducible refine gLd rfl ?_); refine rd_load HRL.out rfl rfl (i := j) rfl hjl default cnLen ((agT _ (by decide)).trans rfl) (szT _ (by decide)) ?_; intro x hx; obtain rfl := HY.out.symm.trans hx; (try simp only [Seen.enc, cnEnc, aP, aN, aT, aZ, aS])) | ((first | ((first | ((with_reducible refine gA rfl ?_); refine sh_alloc HS.out rfl rfl (zeT _ (by decide)) ?_) | ((with_reducible refine gB rfl ?_); refine bx HS.out rfl rfl ?_; first | refine bv (v := .agg (List.toArray _)) rfl ?_ | refine bv (v := .int _ _) rfl ?_ | refine bv (v := .slice _ _ _) rfl ?_ | refine bv (v := .bool _) rfl ?_ | refine bv (v := .pointer _) rfl ?_ | refine bv (v := .string _) rfl ?_ | refine bv (v := .map _) rfl ?_ | refine bv (v := .func _ _ _) rfl ?_) | ((with_reducible refine gL rfl ?_); refine sh_lit HS.out rfl rfl (by go_simp; exact ⟨⟨rfl, rfl⟩, rfl⟩) ?_)); clear HS; intro g w1 hg HS1; (simp only [Seen.enc, cnEnc, zeF, segOf, aL, aC, aE] at HS1); have HS := Aside0.mk HS1; clear HS1) | ((with_reducible refine gLd rfl ?_); refine ld2 HS.out rfl rfl rfl (by repeat (first | exact AtI.here | apply AtI.there)) ?_; (first | refine LdK.one ((agT _ (by decide)).trans rfl) rfl ?_ | (refine LdK.agg ((agT _ (by decide)).trans rfl) (szT _ (by decide)) (lb rfl) ?_; try simp only [szL, aP, aN, aT, aZ, aS, aD, aF, aJ, aK, aM, aO]))) | ((with_reducible refine gSt rfl ?_); refine st2 HS.out rfl rfl rfl rfl (by repeat (first | exact AtI.here | apply AtI.there)) ?_; (first | refine sv (u := .agg (List.toArray _)) rfl ?_ | refine sv (u := .int _ _) rfl ?_ | refine sv (u := .slice _ _ _) rfl ?_ | refine sv (u := .bool _) rfl ?_ | refine sv (u := .pointer _) rfl ?_ | refine sv (u := .string _) rfl ?_ | refine sv (u := .map _) rfl ?_ | refine sv (u := .func _ _ _) rfl ?_); refine sw (szT _ (by decide)) rfl (lb rfl) ?_; clear HS; intro w1 HS1; (simp only [Seen.enc, cnEnc, segOf, aL, aZ, aS, putSeg] at HS1); have HS := Aside0.mk HS1; clear HS1)); try simp only [aP, aN, aT, aZ, aS]))
                go_roundw
                case rel =>
                  refine ⟨j + 1, S2, by omega, by go_num, ⟨?_⟩⟩
                  rw [HF.out, hk'.out]
                  simp only [Bool.false_eq_true, if_false, List.append_nil]
                  exact HS.out.pick [0, 1, 2] rfl (by decide)
                case measure => simp [intOf]; omega
              | true =>
                cases e3 : (y.2 == x.token) with
                | true =>
                  have hk' := Aside0.mk (show keepC x y = false by unfold keepC; rw [e1, e3]; simp)
                  have e3' : (y.2 != x.token) = false := by rw [bne, e3]; rfl
                  go_wp2_with (first | ((with_reducible refine gLd rfl ?_); refine rd_load HRL.out rfl rfl (i := j) rfl hjl default cnLen ((agT _ (by decide)).trans rfl) (szT _ (by decide)) ?_; intro x hx; obtain rfl := HY.out.symm.trans hx; (try simp only [Seen.enc, cnEnc, aP, aN, aT, aZ, aS])) | ((first | ((first | ((with_reducible refine gA rfl ?_); refine sh_alloc HS.out rfl rfl (zeT _ (by decide)) ?_) | ((with_reducible refine gB rfl ?_); refine bx HS.out rfl rfl ?_; first | refine bv (v := .agg (List.toArray _)) rfl ?_ | refine bv (v := .int _ _) rfl ?_ | refine bv (v := .slice _ _ _) rfl ?_ | refine bv (v := .bool _) rfl ?_ | refine bv (v := .pointer _) rfl ?_ | refine bv (v := .string _) rfl ?_ | refine bv (v := .map _) rfl ?_ | refine bv (v := .func _ _ _) rfl ?_) | ((with_reducible refine gL rfl ?_); refine sh_lit HS.out rfl rfl (by go_simp; exact ⟨⟨rfl, rfl⟩, rfl⟩) ?_)); clear HS; intro g w1 hg HS1; (simp only [Seen.enc, cnEnc, zeF, segOf, aL, aC, aE] at HS1); have HS := Aside0.mk HS1; clear HS1) | ((with_reducible refine gLd rfl ?_); refine ld2 HS.out rfl rfl rfl (by repeat (first | exact AtI.here | apply AtI.there)) ?_; (first | refine LdK.one ((agT _ (by decide)).trans rfl) rfl ?_ | (refine LdK.agg ((agT _ (by decide)).trans rfl) (szT _ (by decide)) (lb rfl) ?_; try simp only [szL, aP, aN, aT, aZ, aS, aD, aF, aJ, aK, aM, aO]))) | ((with_reducible refine gSt rfl ?_); refine st2 HS.out rfl rfl rfl rfl (by repeat (first | exact AtI.here | apply AtI.there)) ?_; (first | refine sv (u := .agg (List.toArray _)) rfl ?_ | refine sv (u := .int _ _) rfl ?_ | refine sv (u := .slice _ _ _) rfl ?_ | refine sv (u := .bool _) rfl ?_ | refine sv (u := .pointer _) rfl ?_ | refine sv (u := .string _) rfl ?_ | refine sv (u := .map _) rfl ?_ | refine sv (u := .func _ _ _) rfl ?_); refine sw (szT _ (by decide)) rfl (lb rfl) ?_; clear HS; intro w1 HS1; (simp only [Seen.enc, cnEnc, segOf, aL, aZ, aS, putSeg] at HS1); have HS := Aside0.mk HS1; clear HS1)); try simp only [aP, aN, aT, aZ, aS]))
                  go_roundw
                  case rel =>
                    refine ⟨j + 1, S2, by omega, by go_num, ⟨?_⟩⟩
                    rw [HF.out, hk'.out]
                    simp only [Bool.false_eq_true, if_false, List.append_nil]
                    exact HS.out.pick [0, 1, 2] rfl (by decide)
                  case measure => simp [intOf]; omega
                | false =>
                  have hk' := Aside0.mk (show keepC x y = true by unfold keepC; rw [e1, bne, e2, e3]; rfl)
                  have e3' : (y.2 != x.token) = true := by rw [bne, e3]; rfl
                  go_wp2_with (first | ((with_reducible refine gLd rfl ?_); refine rd_load HRL.out rfl rfl (i := j) rfl hjl default cnLen ((agT _ (by decide)).trans rfl) (szT _ (by decide)) ?_; intro x hx; obtain rfl := HY.out.symm.trans hx; (try simp only [Seen.enc, cnEnc, aP, aN, aT, aZ, aS])) | ((with_reducible refine gC (b := .append) rfl ?_); refine sh_append HS.out rfl rfl rfl 2 rfl rfl (Rd.one cnLen y (HS.out.blk 4 rfl)) Try.underlying52 infoCn rfl (by decide) (by decide) (by omega) ?_; clear HS; intro v1 w1 S1 HS1; (simp only [aZ, aS] at HS1); have HS := Aside0.mk HS1; clear HS1; try simp only [aP, aN, aT, aZ, aS]) | ((first | ((first | ((with_reducible refine gA rfl ?_); refine sh_alloc HS.out rfl rfl (zeT _ (by decide)) ?_) | ((with_reducible refine gB rfl ?_); refine bx HS.out rfl rfl ?_; first | refine bv (v := .agg (List.toArray _)) rfl ?_ | refine bv (v := .int _ _) rfl ?_ | refine bv (v := .slice _ _ _) rfl ?_ | refine bv (v := .bool _) rfl ?_ | refine bv (v := .pointer _) rfl ?_ | refine bv (v := .string _) rfl ?_ | refine bv (v := .map _) rfl ?_ | refine bv (v := .func _ _ _) rfl ?_) | ((with_reducible refine gL rfl ?_); refine sh_lit HS.out rfl rfl (by go_simp; exact ⟨⟨rfl, rfl⟩, rfl⟩) ?_)); clear HS; intro g w1 hg HS1; (simp only [Seen.enc, cnEnc, zeF, segOf, aL, aC, aE] at HS1); have HS := Aside0.mk HS1; clear HS1) | ((with_reducible refine gLd rfl ?_); refine ld2 HS.out rfl rfl rfl (by repeat (first | exact AtI.here | apply AtI.there)) ?_; (first | refine LdK.one ((agT _ (by decide)).trans rfl) rfl ?_ | (refine LdK.agg ((agT _ (by decide)).trans rfl) (szT _ (by decide)) (lb rfl) ?_; try simp only [szL, aP, aN, aT, aZ, aS, aD, aF, aJ, aK, aM, aO]))) | ((with_reducible refine gSt rfl ?_); refine st2 HS.out rfl rfl rfl rfl (by repeat (first | exact AtI.here | apply AtI.there)) ?_; (first | refine sv (u := .agg (List.toArray _)) rfl ?_ | refine sv (u := .int _ _) rfl ?_ | refine sv (u := .slice _ _ _) rfl ?_ | refine sv (u := .bool _) rfl ?_ | refine sv (u := .pointer _) rfl ?_ | refine sv (u := .string _) rfl ?_ | refine sv (u := .map _) rfl ?_ | refine sv (u := .func _ _ _) rfl ?_); refine sw (szT _ (by decide)) rfl (lb rfl) ?_; clear HS; intro w1 HS1; (simp only [Seen.enc, cnEnc, segOf, aL, aZ, aS, putSeg] at HS1); have HS := Aside0.mk HS1; clear HS1)); try simp only [aP, aN, aT, aZ, aS]))
                  go_roundw
                  case rel =>
                    refine ⟨j + 1, S1, by omega, by go_num, ⟨?_⟩⟩
                    rw [HF.out, hk'.out]
                    exact HS.out.pick [0, 1, 2] rfl (by decide)
                  case measure => simp [intOf]; omega
          · obtain rfl : j = L.length := by omega
            go_wp2_with (first | ((first | ((first | ((with_reducible refine gA rfl ?_); refine sh_alloc HS.out rfl rfl (zeT _ (by decide)) ?_) | ((with_reducible refine gB rfl ?_); refine bx HS.out rfl rfl ?_; first | refine bv (v := .agg (List.toArray _)) rfl ?_ | refine bv (v := .int _ _) rfl ?_ | refine bv (v := .slice _ _ _) rfl ?_ | refine bv (v := .bool _) rfl ?_ | refine bv (v := .pointer _) rfl ?_ | refine bv (v := .string _) rfl ?_ | refine bv (v := .map _) rfl ?_ | refine bv (v := .func _ _ _) rfl ?_) | ((with_reducible refine gL rfl ?_); refine sh_lit HS.out rfl rfl (by go_simp; exact ⟨⟨rfl, rfl⟩, rfl⟩) ?_)); clear HS; intro g w1 hg HS1; (simp only [Seen.enc, cnEnc, zeF, segOf, aL, aC, aE] at HS1); have HS := Aside0.mk HS1; clear HS1) | ((with_reducible refine gLd rfl ?_); refine ld2 HS.out rfl rfl rfl (by repeat (first | exact AtI.here | apply AtI.there)) ?_; (first | refine LdK.one ((agT _ (by decide)).trans rfl) rfl ?_ | (refine LdK.agg ((agT _ (by decide)).trans rfl) (szT _ (by decide)) (lb rfl) ?_; try simp only [szL, aP, aN, aT, aZ, aS, aD, aF, aJ, aK, aM, aO]))) | ((with_reducible refine gSt rfl ?_); refine st2 HS.out rfl rfl rfl rfl (by repeat (first | exact AtI.here | apply AtI.there)) ?_; (first | refine sv (u := .agg (List.toArray _)) rfl ?_ | refine sv (u := .int _ _) rfl ?_ | refine sv (u := .slice _ _ _) rfl ?_ | refine sv (u := .bool _) rfl ?_ | refine sv (u := .pointer _) rfl ?_ | refine sv (u := .string _) rfl ?_ | refine sv (u := .map _) rfl ?_ | refine sv (u := .func _ _ _) rfl ?_); refine sw (szT _ (by decide)) rfl (lb rfl) ?_; clear HS; intro w1 HS1; (simp only [Seen.enc, cnEnc, segOf, aL, aZ, aS, putSeg] at HS1); have HS := Aside0.mk HS1; clear HS1)); try simp only [aP, aN, aT, aZ, aS]))
            go_roundw
            case rel =>
              refine ⟨k + 1, S2, by omega, by go_num, ⟨?_⟩⟩
              rw [HOS.out, HK1.out]
              have := HS.out.pick [2] rfl (by decide)
              rw [List.take_length] at this
              exact this
            case measure => simp [intOf]; omega
    · obtain rfl : k = l.length := by omega
      go_wp2_with (first | ((first | ((first | ((with_reducible refine gA rfl ?_); refine sh_alloc HS.out rfl rfl (zeT _ (by decide)) ?_) | ((with_reducible refine gB rfl ?_); refine bx HS.out rfl rfl ?_; first | refine bv (v := .agg (List.toArray _)) rfl ?_ | refine bv (v := .int _ _) rfl ?_ | refine bv (v := .slice _ _ _) rfl ?_ | refine bv (v := .bool _) rfl ?_ | refine bv (v := .pointer _) rfl ?_ | refine bv (v := .string _) rfl ?_ | refine bv (v := .map _) rfl ?_ | refine bv (v := .func _ _ _) rfl ?_) | ((with_reducible refine gL rfl ?_); refine sh_lit HS.out rfl rfl (by go_simp; exact ⟨⟨rfl, rfl⟩, rfl⟩) ?_)); clear HS; intro g w1 hg HS1; (simp only [Seen.enc, cnEnc, zeF, segOf, aL, aC, aE] at HS1); have HS := Aside0.mk HS1; clear HS1) | ((with_reducible refine gLd rfl ?_); refine ld2 HS.out rfl rfl rfl (by repeat (first | exact AtI.here | apply AtI.there)) ?_; (first | refine LdK.one ((agT _ (by decide)).trans rfl) rfl ?_ | (refine LdK.agg ((agT _ (by decide)).trans rfl) (szT _ (by decide)) (lb rfl) ?_; try simp only [szL, aP, aN, aT, aZ, aS, aD, aF, aJ, aK, aM, aO]))) | ((with_reducible refine gSt rfl ?_); refine st2 HS.out rfl rfl rfl rfl (by repeat (first | exact AtI.here | apply AtI.there)) ?_; (first | refine sv (u := .agg (List.toArray _)) rfl ?_ | refine sv (u := .int _ _) rfl ?_ | refine sv (u := .slice _ _ _) rfl ?_ | refine sv (u := .bool _) rfl ?_ | refine sv (u := .pointer _) rfl ?_ | refine sv (u := .string _) rfl ?_ | refine sv (u := .map _) rfl ?_ | refine sv (u := .func _ _ _) rfl ?_); refine sw (szT _ (by decide)) rfl (lb rfl) ?_; clear HS; intro w1 HS1; (simp only [Seen.enc, cnEnc, segOf, aL, aZ, aS, putSeg] at HS1); have HS := Aside0.mk HS1; clear HS1)); try simp only [aP, aN, aT, aZ, aS]))
      go_ret
      have := HS.out
      rw [List.take_length] at this
      exact ⟨_, _, rfl, this⟩
end Go.Proofs.Ytkggchahhpmpbaa.Jue
