/- Lemmas towards the law: what of the text LeE it needs. -/
import Derived.Test.YtekjihmepdhmeaaLeDq
namespace Go.Proofs.Ytekjihmepdhmeaa.Led
open Go.RowKit Go.Proofs.YtekjihmepdhmeaaW.PrintWords Go.Proofs.Ytekjihmepdhmeaa.Sl
set_option linter.unusedVariables false
set_option linter.unusedSimpArgs false
def ownB (l : List Held) (x : Cmd) : Bool := isHeld l x.token && ((l.getD (posHeld l x.token) default).node == x.node) && ((l.getD (posHeld l x.token) default).boot == x.boot) && ((l.getD (posHeld l x.token) default).serial == x.serial)
def requestC (lim nxt : Int) (l : List Held) (ix : Int) (x : Cmd) : Gr :=
  if x.kind = 3 then grantC lim nxt l ix x.node x.boot
  else if ownB l x = false then ⟨nxt, l, ⟨4, 0, 0⟩⟩
  else if x.kind = 5 then ⟨nxt, l.eraseIdx (posHeld l x.token), ⟨5, 0, 0⟩⟩
  else ⟨nxt, l.set (posHeld l x.token) { l.getD (posHeld l x.token) default with stamp := ix }, ⟨3, 0, 0⟩⟩
theorem isHeld_lt {l : List Held} {t : Int} (h : isHeld l t = true) : posHeld l t < l.length ∧ (l.getD (posHeld l t) default).token = t := by
  unfold isHeld at h
  rw [Bool.and_eq_true, decide_eq_true_eq, decide_eq_true_eq] at h
  exact h
theorem posHeld_le (l : List Held) (t : Int) : posHeld l t ≤ l.length := by
  unfold posHeld
  exact (List.takeWhile_sublist _).length_le
theorem posLast_le (l : List Last) (t : Int) : posLast l t ≤ l.length := by
  unfold posLast
  exact (List.takeWhile_sublist _).length_le
/-- one cell of an element is turned -/
theorem set_cells {α : Type} {enc : α → List Value} {sz : Nat} (hl : ∀ x, (enc x).length = sz) (xs : List α) (tl : List Value) (i j : Nat) (hi : i < xs.length) (z : α) (y : α) (v : Value) (hj : j < sz) (hy : enc y = (enc (xs.getD i z)).set j v) :
    (xs.flatMap enc ++ tl).set (i * sz + j) v = (xs.set i y).flatMap enc ++ tl := by
  have e2 := flat_take hl xs i (by omega)
  have hg : xs.getD i z = xs[i] := by rw [List.getD_eq_getElem?_getD, List.getElem?_eq_getElem hi, Option.getD_some]
  have e1 : xs = xs.take i ++ xs[i] :: xs.drop (i + 1) := by rw [← List.drop_eq_getElem_cons hi, List.take_append_drop]
  have e3 : xs.set i y = xs.take i ++ y :: xs.drop (i + 1) := by
    rw [List.set_eq_take_append_cons_drop, if_pos hi]
  have e4 : xs.flatMap enc ++ tl = (xs.take i).flatMap enc ++ (enc xs[i] ++ ((xs.drop (i + 1)).flatMap enc ++ tl)) := by
    conv => lhs; rw [e1]
    simp only [List.flatMap_append, List.flatMap_cons, List.append_assoc]
  rw [e4, e3, List.set_append, if_neg (by omega), e2, Nat.add_sub_cancel_left, List.set_append, if_pos (by rw [hl]; exact hj)]
  simp only [List.flatMap_append, List.flatMap_cons, List.append_assoc, hy, hg]
set_option maxHeartbeats 6400000 in
set_option maxRecDepth 100000 in
theorem request_any {w0 : World} {F : HP} (gl : Nat) (A B : Option Addr) (c d m n : Nat) (lim nxt ix : Int) (l : List Held) (S : Nat → Prop) (x : Cmd) (w : World)
    (HS0 : SH w0 w [blk gl [.int .i64 lim, .int .u64 nxt, .slice A n c, .slice B m d] 27, row heldK 72 (.slice A n c) l S, F]) (hn : n ≤ 1000) (hx0 : 0 ≤ nxt) (hx1 : nxt < 18446744073709551616) (hst : srtHeld l) :
    Calls Try.prog 84 #[.pointer (some ⟨gl, 0, none⟩), .int .u64 ix, .agg #[.int .i64 x.kind, .int .i64 x.node, .int .i64 x.token, x.nodes, .int .u64 x.boot, .int .u64 x.seq, .int .u64 x.serial, .int .u64 x.stamp]] w
      (fun e w' => ∃ A' c' S' a, e = .returned (.agg #[.int .i64 a.code, .int .i64 a.token, .int .u64 a.serial]) ∧ a = (requestC lim nxt l ix x).ans ∧
        SH w0 w' [blk gl [.int .i64 lim, .int .u64 (requestC lim nxt l ix x).nxt, .slice A' (requestC lim nxt l ix x).held.length c', .slice B m d] 27, row heldK 72 (.slice A' (requestC lim nxt l ix x).held.length c') (requestC lim nxt l ix x).held S', F]) := by
  have HS := Aside0.mk HS0
  obtain ⟨hm, hnc, hc63, hA⟩ := row_form (hl := Held.len) (h1 := Held.one) HS0 1 rfl
  have HM := Aside0.mk hm
  have HST := Aside0.mk hst
  have hple := posHeld_le l x.token
  rw [← hm] at hple
  clear HS0 hA hm hst
  obtain ⟨r, hr⟩ : ∃ r, requestC lim nxt l ix x = r := ⟨_, rfl⟩
  have HRES := Aside0.mk hr
  rw [hr]
  clear hr
  by_cases hk3 : x.kind = 3
  · have hb : (x.kind == 3) = true := beq_iff_eq.2 hk3
    have HK3 := Aside0.mk hk3
    clear hk3
    go_enter Try.func84, Try.ntmps84
    go_upto_region 1 with (first | ((with_reducible refine gB rfl ?_); refine bx HS.out rfl rfl ?_; (first | refine bv (v := .agg (List.toArray _)) rfl ?_ | refine bv (v := .int _ _) rfl ?_ | refine bv (v := .slice _ _ _) rfl ?_ | refine bv (v := .bool _) rfl ?_ | refine bv (v := .pointer _) rfl ?_); clear HS; intro gb w1 hgb HS1; (simp only [Held.enc, Last.enc, segOf, aL, aC, aE] at HS1); have HS := Aside0.mk HS1; clear HS1; try simp only [aP, aN, aT, aZ, aS]) | ((first | ((first | ((with_reducible refine gA rfl ?_); refine sh_alloc HS.out rfl rfl (zeT _ (by decide)) ?_) | ((with_reducible refine gL rfl ?_); refine sh_lit HS.out rfl rfl (by go_simp; exact ⟨⟨rfl, rfl⟩, rfl⟩) ?_)); clear HS; intro g w1 hg HS1; (simp only [Held.enc, Last.enc, zeF, segOf, aL, aC, aE] at HS1); have HS := Aside0.mk HS1; clear HS1) | ((with_reducible refine gLd rfl ?_); refine ld2 HS.out rfl rfl rfl (by repeat (first | exact AtI.here | apply AtI.there)) ?_; (first | refine LdK.one ((agT _ (by decide)).trans rfl) rfl ?_ | (refine LdK.agg ((agT _ (by decide)).trans rfl) (szT _ (by decide)) (lb rfl) ?_; try simp only [szL, aP, aN, aT, aZ, aS, aD, aF, aJ, aK, aM, aO]))) | ((with_reducible refine gSt rfl ?_); refine st2 HS.out rfl rfl rfl rfl (by repeat (first | exact AtI.here | apply AtI.there)) ?_; (first | refine sv (u := .agg (List.toArray _)) rfl ?_ | refine sv (u := .int _ _) rfl ?_ | refine sv (u := .slice _ _ _) rfl ?_ | refine sv (u := .bool _) rfl ?_ | refine sv (u := .pointer _) rfl ?_); refine sw (szT _ (by decide)) rfl (lb rfl) ?_; clear HS; intro w1 HS1; (simp only [Held.enc, Last.enc, segOf, aL, aZ, aS, putSeg] at HS1); have HS := Aside0.mk HS1; clear HS1)); try simp only [aP, aN, aT, aZ, aS]))
    go_wp2_with (first | (go_at_call 103; (with_reducible refine (grant_any gl A B c d m n lim nxt ix l S x _ (SH.pack (is := [_, _]) [_, _, _] HS.out) hn hx0 hx1).mono ?_); rintro e w2 ⟨A', c', S', a', rfl, ha', HS2⟩; have HSN := (show SH w0 w2 [_, _, _, _, _] from SH.unpack (is := [_, _]) [_, _, _] HS2); clear HS2; subst ha'; clear HS; have HS := Aside0.mk HSN; clear HSN ) | ((first | ((first | ((with_reducible refine gA rfl ?_); refine sh_alloc HS.out rfl rfl (zeT _ (by decide)) ?_) | ((with_reducible refine gB rfl ?_); refine bx HS.out rfl rfl ?_; first | refine bv (v := .agg (List.toArray _)) rfl ?_ | refine bv (v := .int _ _) rfl ?_ | refine bv (v := .slice _ _ _) rfl ?_ | refine bv (v := .bool _) rfl ?_ | refine bv (v := .pointer _) rfl ?_) | ((with_reducible refine gL rfl ?_); refine sh_lit HS.out rfl rfl (by go_simp; exact ⟨⟨rfl, rfl⟩, rfl⟩) ?_)); clear HS; intro g w1 hg HS1; (simp only [Held.enc, Last.enc, zeF, segOf, aL, aC, aE] at HS1); have HS := Aside0.mk HS1; clear HS1) | ((with_reducible refine gLd rfl ?_); refine ld2 HS.out rfl rfl rfl (by repeat (first | exact AtI.here | apply AtI.there)) ?_; (first | refine LdK.one ((agT _ (by decide)).trans rfl) rfl ?_ | (refine LdK.agg ((agT _ (by decide)).trans rfl) (szT _ (by decide)) (lb rfl) ?_; try simp only [szL, aP, aN, aT, aZ, aS, aD, aF, aJ, aK, aM, aO]))) | ((with_reducible refine gSt rfl ?_); refine st2 HS.out rfl rfl rfl rfl (by repeat (first | exact AtI.here | apply AtI.there)) ?_; (first | refine sv (u := .agg (List.toArray _)) rfl ?_ | refine sv (u := .int _ _) rfl ?_ | refine sv (u := .slice _ _ _) rfl ?_ | refine sv (u := .bool _) rfl ?_ | refine sv (u := .pointer _) rfl ?_); refine sw (szT _ (by decide)) rfl (lb rfl) ?_; clear HS; intro w1 HS1; (simp only [Held.enc, Last.enc, segOf, aL, aZ, aS, putSeg] at HS1); have HS := Aside0.mk HS1; clear HS1)); try simp only [aP, aN, aT, aZ, aS]))
    have hres : requestC lim nxt l ix x = grantC lim nxt l ix x.node x.boot := by unfold requestC; rw [if_pos HK3.out]
    rw [HRES.out] at hres
    subst hres
    refine bodyPost_ret (results_cell_row rfl _ _ _ _ _ _ _ rfl (HS.out.blk 4 rfl) Try.underlying74 rfl ((szT _ (by decide)).trans rfl)) rfl ?_
    exact ⟨_, _, _, _, rfl, rfl, HS.out.pick [0, 1, 2] rfl (by decide)⟩
  · have hb : (x.kind == 3) = false := beq_eq_false_iff_ne.2 hk3
    have HK3 := Aside0.mk hk3
    clear hk3
    obtain ⟨p, hp⟩ : ∃ p, posHeld l x.token = p := ⟨_, rfl⟩
    obtain ⟨b, hbi⟩ : ∃ b, isHeld l x.token = b := ⟨_, rfl⟩
    have HP := Aside0.mk hp
    have HB := Aside0.mk hbi
    have HAT := Aside0.mk (fun (w : World) hr => by have h := at_any A c n l x.token w hr (by omega) HST.out; rw [hp, hbi] at h; exact h)
    rw [hp] at hple
    clear hp hbi
    go_enter Try.func84, Try.ntmps84
    go_upto_region 1 with (first | ((with_reducible refine gB rfl ?_); refine bx HS.out rfl rfl ?_; (first | refine bv (v := .agg (List.toArray _)) rfl ?_ | refine bv (v := .int _ _) rfl ?_ | refine bv (v := .slice _ _ _) rfl ?_ | refine bv (v := .bool _) rfl ?_ | refine bv (v := .pointer _) rfl ?_); clear HS; intro gb w1 hgb HS1; (simp only [Held.enc, Last.enc, segOf, aL, aC, aE] at HS1); have HS := Aside0.mk HS1; clear HS1; try simp only [aP, aN, aT, aZ, aS]) | ((first | ((first | ((with_reducible refine gA rfl ?_); refine sh_alloc HS.out rfl rfl (zeT _ (by decide)) ?_) | ((with_reducible refine gL rfl ?_); refine sh_lit HS.out rfl rfl (by go_simp; exact ⟨⟨rfl, rfl⟩, rfl⟩) ?_)); clear HS; intro g w1 hg HS1; (simp only [Held.enc, Last.enc, zeF, segOf, aL, aC, aE] at HS1); have HS := Aside0.mk HS1; clear HS1) | ((with_reducible refine gLd rfl ?_); refine ld2 HS.out rfl rfl rfl (by repeat (first | exact AtI.here | apply AtI.there)) ?_; (first | refine LdK.one ((agT _ (by decide)).trans rfl) rfl ?_ | (refine LdK.agg ((agT _ (by decide)).trans rfl) (szT _ (by decide)) (lb rfl) ?_; try simp only [szL, aP, aN, aT, aZ, aS, aD, aF, aJ, aK, aM, aO]))) | ((with_reducible refine gSt rfl ?_); refine st2 HS.out rfl rfl rfl rfl (by repeat (first | exact AtI.here | apply AtI.there)) ?_; (first | refine sv (u := .agg (List.toArray _)) rfl ?_ | refine sv (u := .int _ _) rfl ?_ | refine sv (u := .slice _ _ _) rfl ?_ | refine sv (u := .bool _) rfl ?_ | refine sv (u := .pointer _) rfl ?_); refine sw (szT _ (by decide)) rfl (lb rfl) ?_; clear HS; intro w1 HS1; (simp only [Held.enc, Last.enc, segOf, aL, aZ, aS, putSeg] at HS1); have HS := Aside0.mk HS1; clear HS1)); try simp only [aP, aN, aT, aZ, aS]))
    obtain ⟨ga, hga⟩ : ∃ ga, ga = g := ⟨_, rfl⟩
    subst hga
    go_upto_region 3 with (first | ((first | ((first | ((with_reducible refine gA rfl ?_); refine sh_alloc HS.out rfl rfl (zeT _ (by decide)) ?_) | ((with_reducible refine gB rfl ?_); refine bx HS.out rfl rfl ?_; first | refine bv (v := .agg (List.toArray _)) rfl ?_ | refine bv (v := .int _ _) rfl ?_ | refine bv (v := .slice _ _ _) rfl ?_ | refine bv (v := .bool _) rfl ?_ | refine bv (v := .pointer _) rfl ?_) | ((with_reducible refine gL rfl ?_); refine sh_lit HS.out rfl rfl (by go_simp; exact ⟨⟨rfl, rfl⟩, rfl⟩) ?_)); clear HS; intro g w1 hg HS1; (simp only [Held.enc, Last.enc, zeF, segOf, aL, aC, aE] at HS1); have HS := Aside0.mk HS1; clear HS1) | ((with_reducible refine gLd rfl ?_); refine ld2 HS.out rfl rfl rfl (by repeat (first | exact AtI.here | apply AtI.there)) ?_; (first | refine LdK.one ((agT _ (by decide)).trans rfl) rfl ?_ | (refine LdK.agg ((agT _ (by decide)).trans rfl) (szT _ (by decide)) (lb rfl) ?_; try simp only [szL, aP, aN, aT, aZ, aS, aD, aF, aJ, aK, aM, aO]))) | ((with_reducible refine gSt rfl ?_); refine st2 HS.out rfl rfl rfl rfl (by repeat (first | exact AtI.here | apply AtI.there)) ?_; (first | refine sv (u := .agg (List.toArray _)) rfl ?_ | refine sv (u := .int _ _) rfl ?_ | refine sv (u := .slice _ _ _) rfl ?_ | refine sv (u := .bool _) rfl ?_ | refine sv (u := .pointer _) rfl ?_); refine sw (szT _ (by decide)) rfl (lb rfl) ?_; clear HS; intro w1 HS1; (simp only [Held.enc, Last.enc, segOf, aL, aZ, aS, putSeg] at HS1); have HS := Aside0.mk HS1; clear HS1)); try simp only [aP, aN, aT, aZ, aS]))
    ((with_reducible refine wp_region_sh mixed (by kernel_rfl) HS.out ?_); (repeat' (first | go_big_quiet_skip | ((with_reducible refine qMv rfl ?_); go_big_quiet_step (fail)) | ((with_reducible refine qAs rfl ?_); go_big_quiet_step (fail)) | ((with_reducible refine qPk rfl ?_); go_big_quiet_step (fail)) | ((with_reducible refine qCl rfl ?_); refine q_call rfl rfl (vs := #[.slice A n c, .int .i64 x.token]) (by rw [List.map_toArray]; rfl) (fnT _ (by decide)) (fun w1 hs => HAT.out w1 (row_rds (hl := Held.len) (h1 := Held.one) 1 rfl _ hs)) ?_; (try simp only [aP, aN, aT, aZ, aS])) | ((with_reducible refine qLd rfl ?_); (first | refine q_load rfl rfl rfl 0 rfl ((agT _ (by decide)).trans rfl) rfl ?_ | refine q_load rfl rfl rfl 1 rfl ((agT _ (by decide)).trans rfl) rfl ?_ | refine q_load rfl rfl rfl 2 rfl ((agT _ (by decide)).trans rfl) rfl ?_ | refine q_load rfl rfl rfl 3 rfl ((agT _ (by decide)).trans rfl) rfl ?_ | refine q_load rfl rfl rfl 4 rfl ((agT _ (by decide)).trans rfl) rfl ?_); try simp only [aP, aN, aT, aZ, aS]) | ((with_reducible refine qLd rfl ?_); (first | refine q_loads rfl rfl rfl 0 rfl ((agT _ (by decide)).trans rfl) (szT _ (by decide)) (lb rfl) ?_ | refine q_loads rfl rfl rfl 1 rfl ((agT _ (by decide)).trans rfl) (szT _ (by decide)) (lb rfl) ?_ | refine q_loads rfl rfl rfl 2 rfl ((agT _ (by decide)).trans rfl) (szT _ (by decide)) (lb rfl) ?_ | refine q_loads rfl rfl rfl 3 rfl ((agT _ (by decide)).trans rfl) (szT _ (by decide)) (lb rfl) ?_ | refine q_loads rfl rfl rfl 4 rfl ((agT _ (by decide)).trans rfl) (szT _ (by decide)) (lb rfl) ?_); (try simp only [szL, aP, aN, aT, aZ, aS, aD, aF, aJ, aK, aM, aO])) | ((with_reducible refine qAny ?_); refine q_val rfl (fun w hs => by (repeat (rename ∀ (_ : Act) (_ : World), _ => hK9; clear hK9)); go_simp; rfl) ?_; try simp only [aP, aN, aT, aZ, aS]))); all_goals (refine wpQuiet_nil ?_; clear HS; intro w1 HS1; have HS := Aside0.mk HS1; clear HS1))
    cases b with
    | false =>
      have hres : r = ⟨nxt, l, ⟨4, 0, 0⟩⟩ := by rw [← HRES.out]; unfold requestC ownB; rw [if_neg HK3.out, HB.out]; rfl
      subst hres
      go_wp2_with (first | ((first | ((first | ((with_reducible refine gA rfl ?_); refine sh_alloc HS.out rfl rfl (zeT _ (by decide)) ?_) | ((with_reducible refine gB rfl ?_); refine bx HS.out rfl rfl ?_; first | refine bv (v := .agg (List.toArray _)) rfl ?_ | refine bv (v := .int _ _) rfl ?_ | refine bv (v := .slice _ _ _) rfl ?_ | refine bv (v := .bool _) rfl ?_ | refine bv (v := .pointer _) rfl ?_) | ((with_reducible refine gL rfl ?_); refine sh_lit HS.out rfl rfl (by go_simp; exact ⟨⟨rfl, rfl⟩, rfl⟩) ?_)); clear HS; intro g w1 hg HS1; (simp only [Held.enc, Last.enc, zeF, segOf, aL, aC, aE] at HS1); have HS := Aside0.mk HS1; clear HS1) | ((with_reducible refine gLd rfl ?_); refine ld2 HS.out rfl rfl rfl (by repeat (first | exact AtI.here | apply AtI.there)) ?_; (first | refine LdK.one ((agT _ (by decide)).trans rfl) rfl ?_ | (refine LdK.agg ((agT _ (by decide)).trans rfl) (szT _ (by decide)) (lb rfl) ?_; try simp only [szL, aP, aN, aT, aZ, aS, aD, aF, aJ, aK, aM, aO]))) | ((with_reducible refine gSt rfl ?_); refine st2 HS.out rfl rfl rfl rfl (by repeat (first | exact AtI.here | apply AtI.there)) ?_; (first | refine sv (u := .agg (List.toArray _)) rfl ?_ | refine sv (u := .int _ _) rfl ?_ | refine sv (u := .slice _ _ _) rfl ?_ | refine sv (u := .bool _) rfl ?_ | refine sv (u := .pointer _) rfl ?_); refine sw (szT _ (by decide)) rfl (lb rfl) ?_; clear HS; intro w1 HS1; (simp only [Held.enc, Last.enc, segOf, aL, aZ, aS, putSeg] at HS1); have HS := Aside0.mk HS1; clear HS1)); try simp only [aP, aN, aT, aZ, aS]))
      refine bodyPost_ret (results_cell_row rfl _ _ _ _ _ _ _ rfl (HS.out.blk 4 rfl) Try.underlying74 rfl ((szT _ (by decide)).trans rfl)) rfl ?_
      have hl0 := HM.out
      subst hl0
      exact ⟨_, _, _, ⟨4, 0, 0⟩, rfl, rfl, HS.out.pick [0, 1, 2] rfl (by decide)⟩
    | true =>
      have hpn : p < n := by have := (isHeld_lt HB.out).1; rw [HP.out, ← HM.out] at this; exact this
      have HR := Aside0.mk (row_rds (hl := Held.len) (h1 := Held.one) 1 rfl _ HS.out)
      obtain ⟨ad, rfl⟩ := HR.out.addr (by omega)
      obtain ⟨z, hz⟩ : ∃ z, l.getD p default = z := ⟨_, rfl⟩
      have HZ := Aside0.mk hz
      have HZT := Aside0.mk (show z.token = x.token by have := (isHeld_lt HB.out).2; rw [HP.out, hz] at this; exact this)
      clear hz
      obtain ⟨o, ho⟩ : ∃ o, ((z.node == x.node) && (z.boot == x.boot) && (z.serial == x.serial)) = o := ⟨_, rfl⟩
      have HO := Aside0.mk ho
      have HOWN := Aside0.mk (show ownB l x = o by unfold ownB; rw [HP.out, HZ.out, HB.out, ← ho]; simp)
      clear ho
      go_upto_if 27 with (first | ((first | ((first | ((with_reducible refine gA rfl ?_); refine sh_alloc HS.out rfl rfl (zeT _ (by decide)) ?_) | ((with_reducible refine gB rfl ?_); refine bx HS.out rfl rfl ?_; first | refine bv (v := .agg (List.toArray _)) rfl ?_ | refine bv (v := .int _ _) rfl ?_ | refine bv (v := .slice _ _ _) rfl ?_ | refine bv (v := .bool _) rfl ?_ | refine bv (v := .pointer _) rfl ?_) | ((with_reducible refine gL rfl ?_); refine sh_lit HS.out rfl rfl (by go_simp; exact ⟨⟨rfl, rfl⟩, rfl⟩) ?_)); clear HS; intro g w1 hg HS1; (simp only [Held.enc, Last.enc, zeF, segOf, aL, aC, aE] at HS1); have HS := Aside0.mk HS1; clear HS1) | ((with_reducible refine gLd rfl ?_); refine ld2 HS.out rfl rfl rfl (by repeat (first | exact AtI.here | apply AtI.there)) ?_; (first | refine LdK.one ((agT _ (by decide)).trans rfl) rfl ?_ | (refine LdK.agg ((agT _ (by decide)).trans rfl) (szT _ (by decide)) (lb rfl) ?_; try simp only [szL, aP, aN, aT, aZ, aS, aD, aF, aJ, aK, aM, aO]))) | ((with_reducible refine gSt rfl ?_); refine st2 HS.out rfl rfl rfl rfl (by repeat (first | exact AtI.here | apply AtI.there)) ?_; (first | refine sv (u := .agg (List.toArray _)) rfl ?_ | refine sv (u := .int _ _) rfl ?_ | refine sv (u := .slice _ _ _) rfl ?_ | refine sv (u := .bool _) rfl ?_ | refine sv (u := .pointer _) rfl ?_); refine sw (szT _ (by decide)) rfl (lb rfl) ?_; clear HS; intro w1 HS1; (simp only [Held.enc, Last.enc, segOf, aL, aZ, aS, putSeg] at HS1); have HS := Aside0.mk HS1; clear HS1)); try simp only [aP, aN, aT, aZ, aS]))
      go_cut [8] (fun v8 wx => v8 = .bool o ∧ Aside0 (SH w0 wx [blk gl [.int .i64 lim, .int .u64 nxt, .slice (some ad) n c, .slice B m d] 27, row heldK 72 (.slice (some ad) n c) l S, F, blk gb [.int .i64 x.kind, .int .i64 x.node, .int .i64 x.token, x.nodes, .int .u64 x.boot, .int .u64 x.seq, .int .u64 x.serial, .int .u64 x.stamp] 50, blk ga [.int .i64 0, .int .i64 0, .int .u64 0] 74]))
      case first =>
        go_wp2_with (first | ((with_reducible refine gLd rfl ?_); refine rd_load HR.out rfl rfl (i := p) rfl hpn default Held.len ((agT _ (by decide)).trans rfl) (szT _ (by decide)) ?_; intro x hx; obtain rfl := HZ.out.symm.trans hx; (try simp only [Held.enc, Last.enc, aP, aN, aT, aZ, aS])) | ((first | ((first | ((with_reducible refine gA rfl ?_); refine sh_alloc HS.out rfl rfl (zeT _ (by decide)) ?_) | ((with_reducible refine gB rfl ?_); refine bx HS.out rfl rfl ?_; first | refine bv (v := .agg (List.toArray _)) rfl ?_ | refine bv (v := .int _ _) rfl ?_ | refine bv (v := .slice _ _ _) rfl ?_ | refine bv (v := .bool _) rfl ?_ | refine bv (v := .pointer _) rfl ?_) | ((with_reducible refine gL rfl ?_); refine sh_lit HS.out rfl rfl (by go_simp; exact ⟨⟨rfl, rfl⟩, rfl⟩) ?_)); clear HS; intro g w1 hg HS1; (simp only [Held.enc, Last.enc, zeF, segOf, aL, aC, aE] at HS1); have HS := Aside0.mk HS1; clear HS1) | ((with_reducible refine gLd rfl ?_); refine ld2 HS.out rfl rfl rfl (by repeat (first | exact AtI.here | apply AtI.there)) ?_; (first | refine LdK.one ((agT _ (by decide)).trans rfl) rfl ?_ | (refine LdK.agg ((agT _ (by decide)).trans rfl) (szT _ (by decide)) (lb rfl) ?_; try simp only [szL, aP, aN, aT, aZ, aS, aD, aF, aJ, aK, aM, aO]))) | ((with_reducible refine gSt rfl ?_); refine st2 HS.out rfl rfl rfl rfl (by repeat (first | exact AtI.here | apply AtI.there)) ?_; (first | refine sv (u := .agg (List.toArray _)) rfl ?_ | refine sv (u := .int _ _) rfl ?_ | refine sv (u := .slice _ _ _) rfl ?_ | refine sv (u := .bool _) rfl ?_ | refine sv (u := .pointer _) rfl ?_); refine sw (szT _ (by decide)) rfl (lb rfl) ?_; clear HS; intro w1 HS1; (simp only [Held.enc, Last.enc, segOf, aL, aZ, aS, putSeg] at HS1); have HS := Aside0.mk HS1; clear HS1)); try simp only [aP, aN, aT, aZ, aS]))
        all_goals
          go_meet
          case rel =>
            refine ⟨?_, ⟨HS.out.pick [0, 1, 2, 3, 4] rfl (by decide)⟩⟩
            refine congrArg Value.bool ?_
            have h1 := HO.out
            have h2 := HZT.out
            clear HS HR HOWN HRES HAT
            (repeat (rename ∀ (_ : Act) (_ : World), _ => hK9; clear hK9))
            first | (simp_all; done) | (simp_all; omega) | grind
      case rest =>
      clear HS
      obtain ⟨rfl, HS⟩ := hcut
      cases o with
      | false =>
        have hres : r = ⟨nxt, l, ⟨4, 0, 0⟩⟩ := by rw [← HRES.out]; unfold requestC; rw [if_neg HK3.out, HOWN.out]; rfl
        subst hres
        go_wp2_with (first | ((first | ((first | ((with_reducible refine gA rfl ?_); refine sh_alloc HS.out rfl rfl (zeT _ (by decide)) ?_) | ((with_reducible refine gB rfl ?_); refine bx HS.out rfl rfl ?_; first | refine bv (v := .agg (List.toArray _)) rfl ?_ | refine bv (v := .int _ _) rfl ?_ | refine bv (v := .slice _ _ _) rfl ?_ | refine bv (v := .bool _) rfl ?_ | refine bv (v := .pointer _) rfl ?_) | ((with_reducible refine gL rfl ?_); refine sh_lit HS.out rfl rfl (by go_simp; exact ⟨⟨rfl, rfl⟩, rfl⟩) ?_)); clear HS; intro g w1 hg HS1; (simp only [Held.enc, Last.enc, zeF, segOf, aL, aC, aE] at HS1); have HS := Aside0.mk HS1; clear HS1) | ((with_reducible refine gLd rfl ?_); refine ld2 HS.out rfl rfl rfl (by repeat (first | exact AtI.here | apply AtI.there)) ?_; (first | refine LdK.one ((agT _ (by decide)).trans rfl) rfl ?_ | (refine LdK.agg ((agT _ (by decide)).trans rfl) (szT _ (by decide)) (lb rfl) ?_; try simp only [szL, aP, aN, aT, aZ, aS, aD, aF, aJ, aK, aM, aO]))) | ((with_reducible refine gSt rfl ?_); refine st2 HS.out rfl rfl rfl rfl (by repeat (first | exact AtI.here | apply AtI.there)) ?_; (first | refine sv (u := .agg (List.toArray _)) rfl ?_ | refine sv (u := .int _ _) rfl ?_ | refine sv (u := .slice _ _ _) rfl ?_ | refine sv (u := .bool _) rfl ?_ | refine sv (u := .pointer _) rfl ?_); refine sw (szT _ (by decide)) rfl (lb rfl) ?_; clear HS; intro w1 HS1; (simp only [Held.enc, Last.enc, segOf, aL, aZ, aS, putSeg] at HS1); have HS := Aside0.mk HS1; clear HS1)); try simp only [aP, aN, aT, aZ, aS]))
        refine bodyPost_ret (results_cell_row rfl _ _ _ _ _ _ _ rfl (HS.out.blk 4 rfl) Try.underlying74 rfl ((szT _ (by decide)).trans rfl)) rfl ?_
        have hl0 := HM.out
        subst hl0
        exact ⟨_, _, _, ⟨4, 0, 0⟩, rfl, rfl, HS.out.pick [0, 1, 2] rfl (by decide)⟩
      | true =>
        by_cases hk5 : x.kind = 5
        · have hb5 : (x.kind == 5) = true := beq_iff_eq.2 hk5
          have hres : r = ⟨nxt, l.eraseIdx p, ⟨5, 0, 0⟩⟩ := by rw [← HRES.out]; unfold requestC; rw [if_neg HK3.out, HOWN.out, if_pos hk5, HP.out]; rfl
          have HRS := Aside0.mk hres
          clear hres hk5
          go_wp2_with (first | (go_at_call 77; (with_reducible refine (delHeld_any (some ad) n c l S p _ (SH.pack (is := [_]) [_, _, _, _] (HS.out.pick [1, 0, 2, 3, 4] rfl (by decide))) (by omega) hpn).mono ?_); rintro e w2 ⟨A', S', rfl, HS2⟩; have HSN := (show SH w0 w2 [_, _, _, _, _] from (SH.unpack (is := [_]) [_, _, _, _] HS2).pick [1, 0, 2, 3, 4] rfl (by decide)); clear HS2; clear HS; have HS := Aside0.mk HSN; clear HSN ) | ((first | ((first | ((with_reducible refine gA rfl ?_); refine sh_alloc HS.out rfl rfl (zeT _ (by decide)) ?_) | ((with_reducible refine gB rfl ?_); refine bx HS.out rfl rfl ?_; first | refine bv (v := .agg (List.toArray _)) rfl ?_ | refine bv (v := .int _ _) rfl ?_ | refine bv (v := .slice _ _ _) rfl ?_ | refine bv (v := .bool _) rfl ?_ | refine bv (v := .pointer _) rfl ?_) | ((with_reducible refine gL rfl ?_); refine sh_lit HS.out rfl rfl (by go_simp; exact ⟨⟨rfl, rfl⟩, rfl⟩) ?_)); clear HS; intro g w1 hg HS1; (simp only [Held.enc, Last.enc, zeF, segOf, aL, aC, aE] at HS1); have HS := Aside0.mk HS1; clear HS1) | ((with_reducible refine gLd rfl ?_); refine ld2 HS.out rfl rfl rfl (by repeat (first | exact AtI.here | apply AtI.there)) ?_; (first | refine LdK.one ((agT _ (by decide)).trans rfl) rfl ?_ | (refine LdK.agg ((agT _ (by decide)).trans rfl) (szT _ (by decide)) (lb rfl) ?_; try simp only [szL, aP, aN, aT, aZ, aS, aD, aF, aJ, aK, aM, aO]))) | ((with_reducible refine gSt rfl ?_); refine st2 HS.out rfl rfl rfl rfl (by repeat (first | exact AtI.here | apply AtI.there)) ?_; (first | refine sv (u := .agg (List.toArray _)) rfl ?_ | refine sv (u := .int _ _) rfl ?_ | refine sv (u := .slice _ _ _) rfl ?_ | refine sv (u := .bool _) rfl ?_ | refine sv (u := .pointer _) rfl ?_); refine sw (szT _ (by decide)) rfl (lb rfl) ?_; clear HS; intro w1 HS1; (simp only [Held.enc, Last.enc, segOf, aL, aZ, aS, putSeg] at HS1); have HS := Aside0.mk HS1; clear HS1)); try simp only [aP, aN, aT, aZ, aS]))
          have hres := HRS.out
          subst hres
          refine bodyPost_ret (results_cell_row rfl _ _ _ _ _ _ _ rfl (HS.out.blk 4 rfl) Try.underlying74 rfl ((szT _ (by decide)).trans rfl)) rfl ?_
          have hle : (l.eraseIdx p).length = n - 1 := by rw [List.length_eraseIdx, if_pos (by rw [← HM.out]; exact hpn), HM.out]
          refine ⟨A', c, S', ⟨5, 0, 0⟩, rfl, rfl, ?_⟩
          have HSF := HS.out.pick [0, 1, 2] rfl (by decide)
          show SH w0 _ [blk gl [.int .i64 lim, .int .u64 nxt, .slice A' (l.eraseIdx p).length c, .slice B m d] 27, row heldK 72 (.slice A' (l.eraseIdx p).length c) (l.eraseIdx p) S', F]
          rw [hle]
          exact HSF
        · have hb5 : (x.kind == 5) = false := beq_eq_false_iff_ne.2 hk5
          have hres : r = ⟨nxt, l.set p { z with stamp := ix }, ⟨3, 0, 0⟩⟩ := by rw [← HRES.out]; unfold requestC; rw [if_neg HK3.out, HOWN.out, if_neg hk5, HP.out, HZ.out]; rfl
          have HRS := Aside0.mk hres
          clear hres hk5
          go_upto_region 13 with (first | ((first | ((first | ((with_reducible refine gA rfl ?_); refine sh_alloc HS.out rfl rfl (zeT _ (by decide)) ?_) | ((with_reducible refine gB rfl ?_); refine bx HS.out rfl rfl ?_; first | refine bv (v := .agg (List.toArray _)) rfl ?_ | refine bv (v := .int _ _) rfl ?_ | refine bv (v := .slice _ _ _) rfl ?_ | refine bv (v := .bool _) rfl ?_ | refine bv (v := .pointer _) rfl ?_) | ((with_reducible refine gL rfl ?_); refine sh_lit HS.out rfl rfl (by go_simp; exact ⟨⟨rfl, rfl⟩, rfl⟩) ?_)); clear HS; intro g w1 hg HS1; (simp only [Held.enc, Last.enc, zeF, segOf, aL, aC, aE] at HS1); have HS := Aside0.mk HS1; clear HS1) | ((with_reducible refine gLd rfl ?_); refine ld2 HS.out rfl rfl rfl (by repeat (first | exact AtI.here | apply AtI.there)) ?_; (first | refine LdK.one ((agT _ (by decide)).trans rfl) rfl ?_ | (refine LdK.agg ((agT _ (by decide)).trans rfl) (szT _ (by decide)) (lb rfl) ?_; try simp only [szL, aP, aN, aT, aZ, aS, aD, aF, aJ, aK, aM, aO]))) | ((with_reducible refine gSt rfl ?_); refine st2 HS.out rfl rfl rfl rfl (by repeat (first | exact AtI.here | apply AtI.there)) ?_; (first | refine sv (u := .agg (List.toArray _)) rfl ?_ | refine sv (u := .int _ _) rfl ?_ | refine sv (u := .slice _ _ _) rfl ?_ | refine sv (u := .bool _) rfl ?_ | refine sv (u := .pointer _) rfl ?_); refine sw (szT _ (by decide)) rfl (lb rfl) ?_; clear HS; intro w1 HS1; (simp only [Held.enc, Last.enc, segOf, aL, aZ, aS, putSeg] at HS1); have HS := Aside0.mk HS1; clear HS1)); try simp only [aP, aN, aT, aZ, aS]))
          obtain ⟨g, tl, had, _, _, _, hlen, HS1⟩ := HS.out.rowBlkF (hl := Held.len) (h1 := Held.one) 1 rfl (by omega)
          injection had with had
          subst had
          have HSC := Aside0.mk (set_cells Held.len l tl p 4 (by rw [← HM.out]; exact hpn) default { z with stamp := ix } (.int .u64 ix) (by decide) (by rw [HZ.out]; rfl))
          have HLEN := Aside0.mk hlen
          obtain ⟨cs, hcs⟩ : ∃ cs, l.flatMap Held.enc ++ tl = cs := ⟨_, rfl⟩
          rw [hcs] at HSC HLEN HS1
          simp only [aZ, aS] at HS1
          clear HS hcs hlen
          have HS := Aside0.mk HS1
          clear HS1
          go_wp2_with (first | ((with_reducible refine gSt rfl ?_); refine sh_storeX HS.out rfl rfl rfl (i := p * 5 + 4) rfl 1 rfl (u := (.int .u64 ix)) rfl rfl (szT _ (by decide)) rfl (by have := HLEN.out; omega) ?_; clear HS; intro w1 HS1; (simp only [aZ, aS] at HS1); have HS := Aside0.mk HS1; clear HS1; try simp only [aP, aN, aT, aZ, aS]) | ((first | ((first | ((with_reducible refine gA rfl ?_); refine sh_alloc HS.out rfl rfl (zeT _ (by decide)) ?_) | ((with_reducible refine gB rfl ?_); refine bx HS.out rfl rfl ?_; first | refine bv (v := .agg (List.toArray _)) rfl ?_ | refine bv (v := .int _ _) rfl ?_ | refine bv (v := .slice _ _ _) rfl ?_ | refine bv (v := .bool _) rfl ?_ | refine bv (v := .pointer _) rfl ?_) | ((with_reducible refine gL rfl ?_); refine sh_lit HS.out rfl rfl (by go_simp; exact ⟨⟨rfl, rfl⟩, rfl⟩) ?_)); clear HS; intro g w1 hg HS1; (simp only [Held.enc, Last.enc, zeF, segOf, aL, aC, aE] at HS1); have HS := Aside0.mk HS1; clear HS1) | ((with_reducible refine gLd rfl ?_); refine ld2 HS.out rfl rfl rfl (by repeat (first | exact AtI.here | apply AtI.there)) ?_; (first | refine LdK.one ((agT _ (by decide)).trans rfl) rfl ?_ | (refine LdK.agg ((agT _ (by decide)).trans rfl) (szT _ (by decide)) (lb rfl) ?_; try simp only [szL, aP, aN, aT, aZ, aS, aD, aF, aJ, aK, aM, aO]))) | ((with_reducible refine gSt rfl ?_); refine st2 HS.out rfl rfl rfl rfl (by repeat (first | exact AtI.here | apply AtI.there)) ?_; (first | refine sv (u := .agg (List.toArray _)) rfl ?_ | refine sv (u := .int _ _) rfl ?_ | refine sv (u := .slice _ _ _) rfl ?_ | refine sv (u := .bool _) rfl ?_ | refine sv (u := .pointer _) rfl ?_); refine sw (szT _ (by decide)) rfl (lb rfl) ?_; clear HS; intro w1 HS1; (simp only [Held.enc, Last.enc, segOf, aL, aZ, aS, putSeg] at HS1); have HS := Aside0.mk HS1; clear HS1)); try simp only [aP, aN, aT, aZ, aS]))
          have hres := HRS.out
          subst hres
          refine bodyPost_ret (results_cell_row rfl _ _ _ _ _ _ _ rfl (HS.out.blk 4 rfl) Try.underlying74 rfl ((szT _ (by decide)).trans rfl)) rfl ?_
          have hle : (l.set p { z with stamp := ix }).length = n := by rw [List.length_set, HM.out]
          have HS2 := HS.out
          rw [HSC.out] at HS2
          have HS3 := HS2.blkRowF Held.len Held.one 1 rfl (l.set p { z with stamp := ix }) tl (k := n) (c := c) hle.symm rfl (by rw [← HSC.out, List.length_set, HLEN.out]) hnc hc63
          refine ⟨some ⟨g, 0, none⟩, c, fun b => b = g, ⟨3, 0, 0⟩, rfl, rfl, ?_⟩
          have HSF := HS3.pick [0, 1, 2] rfl (by decide)
          show SH w0 _ [blk gl [.int .i64 lim, .int .u64 nxt, .slice (some ⟨g, 0, none⟩) (l.set p { z with stamp := ix }).length c, .slice B m d] 27, row heldK 72 (.slice (some ⟨g, 0, none⟩) (l.set p { z with stamp := ix }).length c) (l.set p { z with stamp := ix }) _, F]
          rw [hle]
          exact HSF
end Go.Proofs.Ytekjihmepdhmeaa.Led
