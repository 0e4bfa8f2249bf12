import Derived.Test.YtekjihmepdhmeaaLeI
import Derived.Test.YtekjihmepdhmeaaLec5
import Derived.Test.YtekjihmepdhmeaaRlc2
-- ENC: Held.enc, Last.enc
-- U5
namespace Go.Proofs.Ytekjihmepdhmeaa.Led
open Go.RowKit Go.Proofs.YtekjihmepdhmeaaW.PrintWords Go.Proofs.Ytekjihmepdhmeaa.Sl
set_option linter.unusedVariables false
set_option linter.unusedSimpArgs false
/-! Applying a command: the document's walk. -/
/-- what Apply hands back: a ledger whose rows are the caller's own, the answer, why not -/
def ApPost (w : World) (r : Ap) (e : Ending) (w' : World) : Prop := ∃ A' N c' B' M d' S' S'',
  e = .returned (.tuple #[.agg #[.int .i64 r.lim, .int .u64 r.nxt, .slice A' N c', .slice B' M d'], .agg #[.int .i64 r.ans.code, .int .i64 r.ans.token, .int .u64 r.ans.serial], .int .i64 r.err]) ∧ N ≤ c' ∧
  SH w w' [rdI Held.enc 5 A' N r.held S', rdI Last.enc 6 B' M r.last S'']
theorem apPost_mk {w : World} {r : Ap} {e : Ending} {w' : World} (h : ∃ A' N c' B' M d' S' S'',
  e = .returned (.tuple #[.agg #[.int .i64 r.lim, .int .u64 r.nxt, .slice A' N c', .slice B' M d'], .agg #[.int .i64 r.ans.code, .int .i64 r.ans.token, .int .u64 r.ans.serial], .int .i64 r.err]) ∧ N ≤ c' ∧
  SH w w' [rdI Held.enc 5 A' N r.held S', rdI Last.enc 6 B' M r.last S'']) : ApPost w r e w' := h
theorem refCopy' (A B : Option Addr) (c d n m : Nat) (lim nxt : Int) (l : List Held) (ml : List Last) (w : World) (hr : Rd Held.enc 5 w A n l) (hr' : Rd Last.enc 6 w B m ml) (hn : n ≤ 1000) (hm : m ≤ 1000) :
    Calls Try.prog 60 #[.agg #[.int .i64 lim, .int .u64 nxt, .slice A n c, .slice B m d]] w (fun e w' => ∃ v1 v2 S1 S2, e = .returned (.agg #[.int .i64 lim, .int .u64 nxt, v1, v2]) ∧ SH w w' [row heldK 72 v1 l S1, row lastK 76 v2 ml S2]) := by
  obtain rfl := hr.len.1
  obtain rfl := hr'.len.1
  exact refCopy_any A B c d lim nxt l ml w hr hr' (by omega) (by omega)
theorem twoRd {w0 w : World} {A B : Option Addr} {n m c d : Nat} {e e' : TypeId} {l : List Held} {ml : List Last} {S S' : Nat → Prop} (HS : SH w0 w [row heldK e (.slice A n c) l S, row lastK e' (.slice B m d) ml S']) : SH w0 w [rdI Held.enc 5 A n l S, rdI Last.enc 6 B m ml S'] :=
  (HS.toRd (hl := Held.len) (h1 := Held.one) 0 rfl).toRd (hl := Last.len) (h1 := Last.one) 1 rfl
theorem find_some {x : Rlo.Ent} {m : List Last} {k : Nat} {y : Last} {a : Ans} (hk : k < m.length) (hy : m.getD k default = y) (h : ∀ p, p < k → hit x (m.getD p default) = none) (ha : hit x y = some a) : m.findSome? (hit x) = some a := by
  rw [List.getD_eq_getElem?_getD, List.getElem?_eq_getElem hk, Option.getD_some] at hy
  have e1 : m = m.take k ++ m[k] :: m.drop (k + 1) := by rw [← List.drop_eq_getElem_cons hk, List.take_append_drop]
  have e2 : (m.take k).findSome? (hit x) = none := by
    rw [List.findSome?_eq_none_iff]
    intro z hz
    obtain ⟨i, hi, rfl⟩ := List.getElem_of_mem hz
    rw [List.length_take] at hi
    have := h i (by omega)
    rw [List.getD_eq_getElem?_getD, List.getElem?_eq_getElem (by omega), Option.getD_some] at this
    rw [List.getElem_take]
    exact this
  rw [e1, List.findSome?_append, e2, List.findSome?_cons, hy, ha]
  rfl
theorem find_none {x : Rlo.Ent} {m : List Last} (h : ∀ p, p < m.length → hit x (m.getD p default) = none) : m.findSome? (hit x) = none := by
  rw [List.findSome?_eq_none_iff]
  intro z hz
  obtain ⟨i, hi, rfl⟩ := List.getElem_of_mem hz
  have := h i hi
  rwa [List.getD_eq_getElem?_getD, List.getElem?_eq_getElem hi, Option.getD_some] at this
theorem refCmd' (x : Rlo.Ent) (w : World) (hk : x.ok w) : Calls Try.prog 86 #[.agg #[.int .i64 x.kind, .int .i64 x.node, .int .i64 x.token, .slice x.A x.nodes.length x.c, .int .u64 x.boot, .int .u64 x.seq, .int .u64 x.serial, .int .u64 x.stamp]] w (fun e w' => e = .returned (.int .i64 (if Rlo.refCmd x then 0 else 40)) ∧ Below w.heap.size w w') := Rlo.refCmd_any x w hk
set_option maxHeartbeats 12800000 in
set_option maxRecDepth 100000 in
theorem refApply_any (A B : Option Addr) (c d n m : Nat) (lim nxt ix : Int) (l : List Held) (ml : List Last) (x : Rlo.Ent) (w : World)
    (hr : Rd Held.enc 5 w A n l) (hr' : Rd Last.enc 6 w B m ml) (hx : x.ok w) (hc : n ≤ c) (hnx0 : 0 ≤ nxt) (hnx : nxt < 18446744073709551616) (hs : ∀ y ∈ ml, 0 ≤ y.ans.serial) :
    Calls Try.prog 61 #[.agg #[.int .i64 lim, .int .u64 nxt, .slice A n c, .slice B m d], .int .u64 ix, .agg #[.int .i64 x.kind, .int .i64 x.node, .int .i64 x.token, .slice x.A x.nodes.length x.c, .int .u64 x.boot, .int .u64 x.seq, .int .u64 x.serial, .int .u64 x.stamp]] w
      (fun e w' => ApPost w (applyR lim nxt l ml ix x) e w') := by
  have HLl := Aside0.mk hr.len.1
  have HLm := Aside0.mk hr'.len.1
  have HR := Aside0.mk hr
  have HR' := Aside0.mk hr'
  have HX := Aside0.mk hx
  have hcm : Rlo.refCmd x = Rlo.cmdOk x := Rlo.refCmd_eq hx hx.nodeHi hx.tokHi
  have HSER := Aside0.mk hs
  clear hr hr' hx hs
  have HS := Aside0.mk (SH.start w)
  obtain ⟨r, hres⟩ : ∃ r, applyR lim nxt l ml ix x = r := ⟨_, rfl⟩
  have HRES := Aside0.mk hres
  rw [hres]
  clear hres
  by_cases hled : isLed lim nxt l ml = true
  · have HCK := Aside0.mk (fun w (hr : Rd Held.enc 5 w A n l) (hr' : Rd Last.enc 6 w B m ml) => by
      have h := refCk_any A B c d lim nxt l ml w hr hr' hc HSER.out
      rw [show (if isLed lim nxt l ml then (0 : Int) else 50) = 0 by rw [hled]; rfl] at h
      exact h)
    by_cases hcmd : Rlo.cmdOk x = true
    · have HCM := Aside0.mk (fun w (hx : x.ok w) => by
        have h := refCmd' x w hx
        rw [show (if Rlo.refCmd x then (0 : Int) else 40) = 0 by rw [hcm, hcmd]; rfl] at h
        exact h)
      by_cases hix : ix = 0
      · have hbx : (ix == 0) = true := beq_iff_eq.2 hix
        have hres : r = ⟨0, 0, [], [], ⟨0, 0, 0⟩, 1⟩ := by rw [← HRES.out]; unfold applyR; rw [if_neg (by rw [hled]; decide), if_neg (by rw [hcmd]; decide), if_pos hix]
        subst hres
        go_enter Try.func61, Try.ntmps61
        go_upto_region 1 with (first | ((fail_if_success (have _ := bL)); ((with_reducible refine gB rfl ?_); refine bx HS.out rfl rfl ?_; (first | refine bv (v := .agg (List.toArray _)) rfl ?_ | refine bv (v := .int _ _) rfl ?_ | refine bv (v := .slice _ _ _) rfl ?_ | refine bv (v := .bool _) rfl ?_ | refine bv (v := .pointer _) rfl ?_); clear HS; intro bL w1 hbL HS1; (simp only [Held.enc, Last.enc, segOf, aL, aC, aE] at HS1); have HS := Aside0.mk HS1; clear HS1; try simp only [aP, aN, aT, aZ, aS])) | ((fail_if_success (have _ := bC)); ((with_reducible refine gB rfl ?_); refine bx HS.out rfl rfl ?_; (first | refine bv (v := .agg (List.toArray _)) rfl ?_ | refine bv (v := .int _ _) rfl ?_ | refine bv (v := .slice _ _ _) rfl ?_ | refine bv (v := .bool _) rfl ?_ | refine bv (v := .pointer _) rfl ?_); clear HS; intro bC w1 hbC HS1; (simp only [Held.enc, Last.enc, segOf, aL, aC, aE] at HS1); have HS := Aside0.mk HS1; clear HS1; try simp only [aP, aN, aT, aZ, aS])) | ((fail_if_success (have _ := g6)); ((with_reducible refine gA rfl ?_); refine sh_alloc HS.out rfl rfl (zeT _ (by decide)) ?_; clear HS; intro g6 w1 hg6 HS1; (simp only [Held.enc, Last.enc, zeF, segOf, aL, aC, aE] at HS1); have HS := Aside0.mk HS1; clear HS1; try simp only [aP, aN, aT, aZ, aS])) | ((fail_if_success (have _ := g7)); ((with_reducible refine gA rfl ?_); refine sh_alloc HS.out rfl rfl (zeT _ (by decide)) ?_; clear HS; intro g7 w1 hg7 HS1; (simp only [Held.enc, Last.enc, zeF, segOf, aL, aC, aE] at HS1); have HS := Aside0.mk HS1; clear HS1; try simp only [aP, aN, aT, aZ, aS])) | ((first | ((first | ((with_reducible refine gA rfl ?_); refine sh_alloc HS.out rfl rfl (zeT _ (by decide)) ?_) | ((with_reducible refine gB rfl ?_); refine bx HS.out rfl rfl ?_; first | refine bv (v := .agg (List.toArray _)) rfl ?_ | refine bv (v := .int _ _) rfl ?_ | refine bv (v := .slice _ _ _) rfl ?_ | refine bv (v := .bool _) rfl ?_ | refine bv (v := .pointer _) rfl ?_) | ((with_reducible refine gL rfl ?_); refine sh_lit HS.out rfl rfl (by go_simp; exact ⟨⟨rfl, rfl⟩, rfl⟩) ?_)); clear HS; intro g w1 hg HS1; (simp only [Held.enc, Last.enc, zeF, segOf, aL, aC, aE] at HS1); have HS := Aside0.mk HS1; clear HS1) | ((with_reducible refine gLd rfl ?_); refine ld2 HS.out rfl rfl rfl (by repeat (first | exact AtI.here | apply AtI.there)) ?_; (first | refine LdK.one ((agT _ (by decide)).trans rfl) rfl ?_ | (refine LdK.agg ((agT _ (by decide)).trans rfl) (szT _ (by decide)) (lb rfl) ?_; try simp only [szL, aP, aN, aT, aZ, aS, aD, aF, aJ, aK, aM, aO]))) | ((with_reducible refine gSt rfl ?_); refine st2 HS.out rfl rfl rfl rfl (by repeat (first | exact AtI.here | apply AtI.there)) ?_; (first | refine sv (u := .agg (List.toArray _)) rfl ?_ | refine sv (u := .int _ _) rfl ?_ | refine sv (u := .slice _ _ _) rfl ?_ | refine sv (u := .bool _) rfl ?_ | refine sv (u := .pointer _) rfl ?_); refine sw (szT _ (by decide)) rfl (lb rfl) ?_; clear HS; intro w1 HS1; (simp only [Held.enc, Last.enc, segOf, aL, aZ, aS, putSeg] at HS1); have HS := Aside0.mk HS1; clear HS1)); try simp only [aP, aN, aT, aZ, aS]))
        go_wp2_with (first | (go_at_call 85; (with_reducible refine (HCK.out _ (HR.out.sh HS.out) (HR'.out.sh HS.out)).mono ?_); rintro e w2 ⟨rfl, hb⟩;  have HS1 := HS.out.quiet hb; clear HS hb; have HS := Aside0.mk HS1; clear HS1) | (go_at_call 86; (with_reducible refine (HCM.out _ (HX.out.sh HS.out)).mono ?_); rintro e w2 ⟨rfl, hb⟩;  have HS1 := HS.out.quiet hb; clear HS hb; have HS := Aside0.mk HS1; clear HS1) | ((first | ((first | ((with_reducible refine gA rfl ?_); refine sh_alloc HS.out rfl rfl (zeT _ (by decide)) ?_) | ((with_reducible refine gB rfl ?_); refine bx HS.out rfl rfl ?_; first | refine bv (v := .agg (List.toArray _)) rfl ?_ | refine bv (v := .int _ _) rfl ?_ | refine bv (v := .slice _ _ _) rfl ?_ | refine bv (v := .bool _) rfl ?_ | refine bv (v := .pointer _) rfl ?_) | ((with_reducible refine gL rfl ?_); refine sh_lit HS.out rfl rfl (by go_simp; exact ⟨⟨rfl, rfl⟩, rfl⟩) ?_)); clear HS; intro g w1 hg HS1; (simp only [Held.enc, Last.enc, zeF, segOf, aL, aC, aE] at HS1); have HS := Aside0.mk HS1; clear HS1) | ((with_reducible refine gLd rfl ?_); refine ld2 HS.out rfl rfl rfl (by repeat (first | exact AtI.here | apply AtI.there)) ?_; (first | refine LdK.one ((agT _ (by decide)).trans rfl) rfl ?_ | (refine LdK.agg ((agT _ (by decide)).trans rfl) (szT _ (by decide)) (lb rfl) ?_; try simp only [szL, aP, aN, aT, aZ, aS, aD, aF, aJ, aK, aM, aO]))) | ((with_reducible refine gSt rfl ?_); refine st2 HS.out rfl rfl rfl rfl (by repeat (first | exact AtI.here | apply AtI.there)) ?_; (first | refine sv (u := .agg (List.toArray _)) rfl ?_ | refine sv (u := .int _ _) rfl ?_ | refine sv (u := .slice _ _ _) rfl ?_ | refine sv (u := .bool _) rfl ?_ | refine sv (u := .pointer _) rfl ?_); refine sw (szT _ (by decide)) rfl (lb rfl) ?_; clear HS; intro w1 HS1; (simp only [Held.enc, Last.enc, segOf, aL, aZ, aS, putSeg] at HS1); have HS := Aside0.mk HS1; clear HS1)); try simp only [aP, aN, aT, aZ, aS]))
        refine bodyPost_ret (results_list (rs := [.cell 6 27, .cell 7 74, .tmp 8]) rfl (by simp) (.cell _ _ _ _ _ rfl (HS.out.blk 2 rfl) Try.underlying27 rfl ((szT _ (by decide)).trans rfl) (.cell _ _ _ _ _ rfl (HS.out.blk 3 rfl) Try.underlying74 rfl ((szT _ (by decide)).trans rfl) (.tmp .nil)))) rfl ?_
        exact apPost_mk ⟨none, 0, 0, none, 0, 0, _, _, rfl, Nat.le_refl 0, twoRd (((HS.out.nil heldK 72).nil lastK 76).pick [4, 5] rfl (by decide))⟩

      · have hbx : (ix == 0) = false := beq_eq_false_iff_ne.2 hix
        have hu : (if x.kind = 1 ∨ x.kind = 2 then ⟨lim, nxt, l, ml, ⟨0, 0, 0⟩, 0⟩
          else if x.kind = 6 then reclR lim nxt l ml x
          else match ml.findSome? (hit x) with
            | some a => ⟨lim, nxt, l, ml, a, 0⟩
            | none => doneR lim nxt l ml ix x) = r := by rw [← HRES.out]; unfold applyR; rw [if_neg (show ¬ isLed lim nxt l ml = false by rw [hled]; decide), if_neg (show ¬ Rlo.cmdOk x = false by rw [hcmd]; decide), if_neg hix]; rfl
        have HU := Aside0.mk hu
        obtain ⟨⟨_, _, hnx1, hl64⟩, hA, hLA⟩ := isLed_parts hled
        have hm7 := nodes_room hLA
        rw [HLl.out] at hl64
        rw [HLm.out] at hm7
        have HPW := Aside0.mk (srt_pw (srt_of hA))
        have HPO := Aside0.mk (tok_pos hA)
        clear HRES hled hcmd hix hu hA hLA hnx1 hcm
        go_enter Try.func61, Try.ntmps61
        go_upto_region 1 with (first | ((fail_if_success (have _ := bL)); ((with_reducible refine gB rfl ?_); refine bx HS.out rfl rfl ?_; (first | refine bv (v := .agg (List.toArray _)) rfl ?_ | refine bv (v := .int _ _) rfl ?_ | refine bv (v := .slice _ _ _) rfl ?_ | refine bv (v := .bool _) rfl ?_ | refine bv (v := .pointer _) rfl ?_); clear HS; intro bL w1 hbL HS1; (simp only [Held.enc, Last.enc, segOf, aL, aC, aE] at HS1); have HS := Aside0.mk HS1; clear HS1; try simp only [aP, aN, aT, aZ, aS])) | ((fail_if_success (have _ := bC)); ((with_reducible refine gB rfl ?_); refine bx HS.out rfl rfl ?_; (first | refine bv (v := .agg (List.toArray _)) rfl ?_ | refine bv (v := .int _ _) rfl ?_ | refine bv (v := .slice _ _ _) rfl ?_ | refine bv (v := .bool _) rfl ?_ | refine bv (v := .pointer _) rfl ?_); clear HS; intro bC w1 hbC HS1; (simp only [Held.enc, Last.enc, segOf, aL, aC, aE] at HS1); have HS := Aside0.mk HS1; clear HS1; try simp only [aP, aN, aT, aZ, aS])) | ((fail_if_success (have _ := g6)); ((with_reducible refine gA rfl ?_); refine sh_alloc HS.out rfl rfl (zeT _ (by decide)) ?_; clear HS; intro g6 w1 hg6 HS1; (simp only [Held.enc, Last.enc, zeF, segOf, aL, aC, aE] at HS1); have HS := Aside0.mk HS1; clear HS1; try simp only [aP, aN, aT, aZ, aS])) | ((fail_if_success (have _ := g7)); ((with_reducible refine gA rfl ?_); refine sh_alloc HS.out rfl rfl (zeT _ (by decide)) ?_; clear HS; intro g7 w1 hg7 HS1; (simp only [Held.enc, Last.enc, zeF, segOf, aL, aC, aE] at HS1); have HS := Aside0.mk HS1; clear HS1; try simp only [aP, aN, aT, aZ, aS])) | ((first | ((first | ((with_reducible refine gA rfl ?_); refine sh_alloc HS.out rfl rfl (zeT _ (by decide)) ?_) | ((with_reducible refine gB rfl ?_); refine bx HS.out rfl rfl ?_; first | refine bv (v := .agg (List.toArray _)) rfl ?_ | refine bv (v := .int _ _) rfl ?_ | refine bv (v := .slice _ _ _) rfl ?_ | refine bv (v := .bool _) rfl ?_ | refine bv (v := .pointer _) rfl ?_) | ((with_reducible refine gL rfl ?_); refine sh_lit HS.out rfl rfl (by go_simp; exact ⟨⟨rfl, rfl⟩, rfl⟩) ?_)); clear HS; intro g w1 hg HS1; (simp only [Held.enc, Last.enc, zeF, segOf, aL, aC, aE] at HS1); have HS := Aside0.mk HS1; clear HS1) | ((with_reducible refine gLd rfl ?_); refine ld2 HS.out rfl rfl rfl (by repeat (first | exact AtI.here | apply AtI.there)) ?_; (first | refine LdK.one ((agT _ (by decide)).trans rfl) rfl ?_ | (refine LdK.agg ((agT _ (by decide)).trans rfl) (szT _ (by decide)) (lb rfl) ?_; try simp only [szL, aP, aN, aT, aZ, aS, aD, aF, aJ, aK, aM, aO]))) | ((with_reducible refine gSt rfl ?_); refine st2 HS.out rfl rfl rfl rfl (by repeat (first | exact AtI.here | apply AtI.there)) ?_; (first | refine sv (u := .agg (List.toArray _)) rfl ?_ | refine sv (u := .int _ _) rfl ?_ | refine sv (u := .slice _ _ _) rfl ?_ | refine sv (u := .bool _) rfl ?_ | refine sv (u := .pointer _) rfl ?_); refine sw (szT _ (by decide)) rfl (lb rfl) ?_; clear HS; intro w1 HS1; (simp only [Held.enc, Last.enc, segOf, aL, aZ, aS, putSeg] at HS1); have HS := Aside0.mk HS1; clear HS1)); try simp only [aP, aN, aT, aZ, aS]))
        go_upto_region 7 with (first | (go_at_call 85; (with_reducible refine (HCK.out _ (HR.out.sh HS.out) (HR'.out.sh HS.out)).mono ?_); rintro e w2 ⟨rfl, hb⟩;  have HS1 := HS.out.quiet hb; clear HS hb; have HS := Aside0.mk HS1; clear HS1) | (go_at_call 86; (with_reducible refine (HCM.out _ (HX.out.sh HS.out)).mono ?_); rintro e w2 ⟨rfl, hb⟩;  have HS1 := HS.out.quiet hb; clear HS hb; have HS := Aside0.mk HS1; clear HS1) | ((first | ((first | ((with_reducible refine gA rfl ?_); refine sh_alloc HS.out rfl rfl (zeT _ (by decide)) ?_) | ((with_reducible refine gB rfl ?_); refine bx HS.out rfl rfl ?_; first | refine bv (v := .agg (List.toArray _)) rfl ?_ | refine bv (v := .int _ _) rfl ?_ | refine bv (v := .slice _ _ _) rfl ?_ | refine bv (v := .bool _) rfl ?_ | refine bv (v := .pointer _) rfl ?_) | ((with_reducible refine gL rfl ?_); refine sh_lit HS.out rfl rfl (by go_simp; exact ⟨⟨rfl, rfl⟩, rfl⟩) ?_)); clear HS; intro g w1 hg HS1; (simp only [Held.enc, Last.enc, zeF, segOf, aL, aC, aE] at HS1); have HS := Aside0.mk HS1; clear HS1) | ((with_reducible refine gLd rfl ?_); refine ld2 HS.out rfl rfl rfl (by repeat (first | exact AtI.here | apply AtI.there)) ?_; (first | refine LdK.one ((agT _ (by decide)).trans rfl) rfl ?_ | (refine LdK.agg ((agT _ (by decide)).trans rfl) (szT _ (by decide)) (lb rfl) ?_; try simp only [szL, aP, aN, aT, aZ, aS, aD, aF, aJ, aK, aM, aO]))) | ((with_reducible refine gSt rfl ?_); refine st2 HS.out rfl rfl rfl rfl (by repeat (first | exact AtI.here | apply AtI.there)) ?_; (first | refine sv (u := .agg (List.toArray _)) rfl ?_ | refine sv (u := .int _ _) rfl ?_ | refine sv (u := .slice _ _ _) rfl ?_ | refine sv (u := .bool _) rfl ?_ | refine sv (u := .pointer _) rfl ?_); refine sw (szT _ (by decide)) rfl (lb rfl) ?_; clear HS; intro w1 HS1; (simp only [Held.enc, Last.enc, segOf, aL, aZ, aS, putSeg] at HS1); have HS := Aside0.mk HS1; clear HS1)); try simp only [aP, aN, aT, aZ, aS]))
        go_upto_region 8 with (first | (go_at_call 60; (with_reducible refine (refCopy' A B c d n m lim nxt l ml _ (HR.out.sh HS.out) (HR'.out.sh HS.out) (by omega) (by omega)).mono ?_); rintro e w2 ⟨v1, v2, S1, S2, rfl, HS1⟩; obtain ⟨A1, c1, hv1, hc1, _⟩ := row_rd HS1 0 rfl; obtain ⟨B1, d1, hv2, _, _⟩ := row_rd HS1 1 rfl; have HC1 := Aside0.mk (show n ≤ c1 by rw [← HLl.out]; exact hc1); clear hc1; (rw [HLl.out] at hv1); (rw [HLm.out] at hv2); subst hv1 hv2; have HS2 := HS.out.call HS1; clear HS HS1; simp only [aC, aE] at HS2; have HS := Aside0.mk HS2; clear HS2) | ((first | ((first | ((with_reducible refine gA rfl ?_); refine sh_alloc HS.out rfl rfl (zeT _ (by decide)) ?_) | ((with_reducible refine gB rfl ?_); refine bx HS.out rfl rfl ?_; first | refine bv (v := .agg (List.toArray _)) rfl ?_ | refine bv (v := .int _ _) rfl ?_ | refine bv (v := .slice _ _ _) rfl ?_ | refine bv (v := .bool _) rfl ?_ | refine bv (v := .pointer _) rfl ?_) | ((with_reducible refine gL rfl ?_); refine sh_lit HS.out rfl rfl (by go_simp; exact ⟨⟨rfl, rfl⟩, rfl⟩) ?_)); clear HS; intro g w1 hg HS1; (simp only [Held.enc, Last.enc, zeF, segOf, aL, aC, aE] at HS1); have HS := Aside0.mk HS1; clear HS1) | ((with_reducible refine gLd rfl ?_); refine ld2 HS.out rfl rfl rfl (by repeat (first | exact AtI.here | apply AtI.there)) ?_; (first | refine LdK.one ((agT _ (by decide)).trans rfl) rfl ?_ | (refine LdK.agg ((agT _ (by decide)).trans rfl) (szT _ (by decide)) (lb rfl) ?_; try simp only [szL, aP, aN, aT, aZ, aS, aD, aF, aJ, aK, aM, aO]))) | ((with_reducible refine gSt rfl ?_); refine st2 HS.out rfl rfl rfl rfl (by repeat (first | exact AtI.here | apply AtI.there)) ?_; (first | refine sv (u := .agg (List.toArray _)) rfl ?_ | refine sv (u := .int _ _) rfl ?_ | refine sv (u := .slice _ _ _) rfl ?_ | refine sv (u := .bool _) rfl ?_ | refine sv (u := .pointer _) rfl ?_); refine sw (szT _ (by decide)) rfl (lb rfl) ?_; clear HS; intro w1 HS1; (simp only [Held.enc, Last.enc, segOf, aL, aZ, aS, putSeg] at HS1); have HS := Aside0.mk HS1; clear HS1)); try simp only [aP, aN, aT, aZ, aS]))
        by_cases hk1 : x.kind = 1
        · have hbk : (x.kind == 1) = true := beq_iff_eq.2 hk1
          have hres := HU.out
          rw [if_pos (.inl hk1)] at hres
          have HRS := Aside0.mk hres
          clear hres hk1
          go_wp2_with (first | ((first | ((first | ((with_reducible refine gA rfl ?_); refine sh_alloc HS.out rfl rfl (zeT _ (by decide)) ?_) | ((with_reducible refine gB rfl ?_); refine bx HS.out rfl rfl ?_; first | refine bv (v := .agg (List.toArray _)) rfl ?_ | refine bv (v := .int _ _) rfl ?_ | refine bv (v := .slice _ _ _) rfl ?_ | refine bv (v := .bool _) rfl ?_ | refine bv (v := .pointer _) rfl ?_) | ((with_reducible refine gL rfl ?_); refine sh_lit HS.out rfl rfl (by go_simp; exact ⟨⟨rfl, rfl⟩, rfl⟩) ?_)); clear HS; intro g w1 hg HS1; (simp only [Held.enc, Last.enc, zeF, segOf, aL, aC, aE] at HS1); have HS := Aside0.mk HS1; clear HS1) | ((with_reducible refine gLd rfl ?_); refine ld2 HS.out rfl rfl rfl (by repeat (first | exact AtI.here | apply AtI.there)) ?_; (first | refine LdK.one ((agT _ (by decide)).trans rfl) rfl ?_ | (refine LdK.agg ((agT _ (by decide)).trans rfl) (szT _ (by decide)) (lb rfl) ?_; try simp only [szL, aP, aN, aT, aZ, aS, aD, aF, aJ, aK, aM, aO]))) | ((with_reducible refine gSt rfl ?_); refine st2 HS.out rfl rfl rfl rfl (by repeat (first | exact AtI.here | apply AtI.there)) ?_; (first | refine sv (u := .agg (List.toArray _)) rfl ?_ | refine sv (u := .int _ _) rfl ?_ | refine sv (u := .slice _ _ _) rfl ?_ | refine sv (u := .bool _) rfl ?_ | refine sv (u := .pointer _) rfl ?_); refine sw (szT _ (by decide)) rfl (lb rfl) ?_; clear HS; intro w1 HS1; (simp only [Held.enc, Last.enc, segOf, aL, aZ, aS, putSeg] at HS1); have HS := Aside0.mk HS1; clear HS1)); try simp only [aP, aN, aT, aZ, aS]))
          refine bodyPost_ret (results_list (rs := [.cell 6 27, .cell 7 74, .tmp 8]) rfl (by simp) (.cell _ _ _ _ _ rfl (HS.out.blk 2 rfl) Try.underlying27 rfl ((szT _ (by decide)).trans rfl) (.cell _ _ _ _ _ rfl (HS.out.blk 3 rfl) Try.underlying74 rfl ((szT _ (by decide)).trans rfl) (.tmp .nil)))) rfl ?_
          have hres := HRS.out
          subst hres
          exact apPost_mk ⟨_, _, _, _, _, _, _, _, rfl, HC1.out, twoRd (HS.out.pick [4, 5] rfl (by decide))⟩
        · have hbk : (x.kind == 1) = false := beq_eq_false_iff_ne.2 hk1
          by_cases hk2 : x.kind = 2
          · have hbk2 : (x.kind == 2) = true := beq_iff_eq.2 hk2
            have hres := HU.out
            rw [if_pos (.inr hk2)] at hres
            have HRS := Aside0.mk hres
            clear hres hk1 hk2
            go_wp2_with (first | ((first | ((first | ((with_reducible refine gA rfl ?_); refine sh_alloc HS.out rfl rfl (zeT _ (by decide)) ?_) | ((with_reducible refine gB rfl ?_); refine bx HS.out rfl rfl ?_; first | refine bv (v := .agg (List.toArray _)) rfl ?_ | refine bv (v := .int _ _) rfl ?_ | refine bv (v := .slice _ _ _) rfl ?_ | refine bv (v := .bool _) rfl ?_ | refine bv (v := .pointer _) rfl ?_) | ((with_reducible refine gL rfl ?_); refine sh_lit HS.out rfl rfl (by go_simp; exact ⟨⟨rfl, rfl⟩, rfl⟩) ?_)); clear HS; intro g w1 hg HS1; (simp only [Held.enc, Last.enc, zeF, segOf, aL, aC, aE] at HS1); have HS := Aside0.mk HS1; clear HS1) | ((with_reducible refine gLd rfl ?_); refine ld2 HS.out rfl rfl rfl (by repeat (first | exact AtI.here | apply AtI.there)) ?_; (first | refine LdK.one ((agT _ (by decide)).trans rfl) rfl ?_ | (refine LdK.agg ((agT _ (by decide)).trans rfl) (szT _ (by decide)) (lb rfl) ?_; try simp only [szL, aP, aN, aT, aZ, aS, aD, aF, aJ, aK, aM, aO]))) | ((with_reducible refine gSt rfl ?_); refine st2 HS.out rfl rfl rfl rfl (by repeat (first | exact AtI.here | apply AtI.there)) ?_; (first | refine sv (u := .agg (List.toArray _)) rfl ?_ | refine sv (u := .int _ _) rfl ?_ | refine sv (u := .slice _ _ _) rfl ?_ | refine sv (u := .bool _) rfl ?_ | refine sv (u := .pointer _) rfl ?_); refine sw (szT _ (by decide)) rfl (lb rfl) ?_; clear HS; intro w1 HS1; (simp only [Held.enc, Last.enc, segOf, aL, aZ, aS, putSeg] at HS1); have HS := Aside0.mk HS1; clear HS1)); try simp only [aP, aN, aT, aZ, aS]))
            refine bodyPost_ret (results_list (rs := [.cell 6 27, .cell 7 74, .tmp 8]) rfl (by simp) (.cell _ _ _ _ _ rfl (HS.out.blk 2 rfl) Try.underlying27 rfl ((szT _ (by decide)).trans rfl) (.cell _ _ _ _ _ rfl (HS.out.blk 3 rfl) Try.underlying74 rfl ((szT _ (by decide)).trans rfl) (.tmp .nil)))) rfl ?_
            have hres := HRS.out
            subst hres
            exact apPost_mk ⟨_, _, _, _, _, _, _, _, rfl, HC1.out, twoRd (HS.out.pick [4, 5] rfl (by decide))⟩
          · have hbk2 : (x.kind == 2) = false := beq_eq_false_iff_ne.2 hk2
            have hu := HU.out
            rw [if_neg (fun h => h.elim hk1 hk2)] at hu
            clear HU hk1 hk2
            by_cases hk6 : x.kind = 6
            · have hbk6 : (x.kind == 6) = true := beq_iff_eq.2 hk6
              rw [if_pos hk6] at hu
              unfold reclR at hu
              have HU := Aside0.mk hu
              clear hu hk6
              obtain ⟨o, ho⟩ : ∃ o, refFind l x.token = o := ⟨_, rfl⟩
              rw [ho] at HU
              cases o with
              | none =>
                have HFD := Aside0.mk (rdF n c1 m d1 l lim nxt x.token A1 B1 (by omega) false ⟨0, 0, 0, 0, 0⟩ (by rw [ho]; rfl) (by rw [ho]; rfl))
                clear ho
                go_wp2_with (first | (go_at_call 87; (with_reducible refine (HFD.out _ (row_rds (hl := Held.len) (h1 := Held.one) 4 rfl _ HS.out)).mono ?_); rintro e w2 ⟨rfl, hb⟩;  have HS1 := HS.out.quiet hb; clear HS hb; have HS := Aside0.mk HS1; clear HS1) | ((first | ((first | ((with_reducible refine gA rfl ?_); refine sh_alloc HS.out rfl rfl (zeT _ (by decide)) ?_) | ((with_reducible refine gB rfl ?_); refine bx HS.out rfl rfl ?_; first | refine bv (v := .agg (List.toArray _)) rfl ?_ | refine bv (v := .int _ _) rfl ?_ | refine bv (v := .slice _ _ _) rfl ?_ | refine bv (v := .bool _) rfl ?_ | refine bv (v := .pointer _) rfl ?_) | ((with_reducible refine gL rfl ?_); refine sh_lit HS.out rfl rfl (by go_simp; exact ⟨⟨rfl, rfl⟩, rfl⟩) ?_)); clear HS; intro g w1 hg HS1; (simp only [Held.enc, Last.enc, zeF, segOf, aL, aC, aE] at HS1); have HS := Aside0.mk HS1; clear HS1) | ((with_reducible refine gLd rfl ?_); refine ld2 HS.out rfl rfl rfl (by repeat (first | exact AtI.here | apply AtI.there)) ?_; (first | refine LdK.one ((agT _ (by decide)).trans rfl) rfl ?_ | (refine LdK.agg ((agT _ (by decide)).trans rfl) (szT _ (by decide)) (lb rfl) ?_; try simp only [szL, aP, aN, aT, aZ, aS, aD, aF, aJ, aK, aM, aO]))) | ((with_reducible refine gSt rfl ?_); refine st2 HS.out rfl rfl rfl rfl (by repeat (first | exact AtI.here | apply AtI.there)) ?_; (first | refine sv (u := .agg (List.toArray _)) rfl ?_ | refine sv (u := .int _ _) rfl ?_ | refine sv (u := .slice _ _ _) rfl ?_ | refine sv (u := .bool _) rfl ?_ | refine sv (u := .pointer _) rfl ?_); refine sw (szT _ (by decide)) rfl (lb rfl) ?_; clear HS; intro w1 HS1; (simp only [Held.enc, Last.enc, segOf, aL, aZ, aS, putSeg] at HS1); have HS := Aside0.mk HS1; clear HS1)); try simp only [aP, aN, aT, aZ, aS]))
                refine bodyPost_ret (results_list (rs := [.cell 6 27, .cell 7 74, .tmp 8]) rfl (by simp) (.cell _ _ _ _ _ rfl (HS.out.blk 2 rfl) Try.underlying27 rfl ((szT _ (by decide)).trans rfl) (.cell _ _ _ _ _ rfl (HS.out.blk 3 rfl) Try.underlying74 rfl ((szT _ (by decide)).trans rfl) (.tmp .nil)))) rfl ?_
                have hres := HU.out
                subst hres
                exact apPost_mk ⟨_, _, _, _, _, _, _, _, rfl, HC1.out, twoRd (HS.out.pick [4, 5] rfl (by decide))⟩
              | some z =>
                have HFD := Aside0.mk (rdF n c1 m d1 l lim nxt x.token A1 B1 (by omega) true z (by rw [ho]; rfl) (by rw [ho]; rfl))
                clear ho
                by_cases hs : z.serial = x.serial
                · have hbs : (z.serial != x.serial) = false := by simp [hs]
                  by_cases ht : z.stamp = x.stamp
                  · have hbt : (z.stamp != x.stamp) = false := by simp [ht]
                    have hres : (⟨lim, nxt, refWithout l x.token, ml, ⟨5, 0, 0⟩, 0⟩ : Ap) = r := by
                      rw [← HU.out]
                      show _ = (if z.serial = x.serial ∧ z.stamp = x.stamp then _ else _)
                      rw [if_pos (⟨hs, ht⟩ : z.serial = x.serial ∧ z.stamp = x.stamp)]
                    have HRS := Aside0.mk hres
                    clear hres hs ht
                    go_wp2_with (first | (go_at_call 87; (with_reducible refine (HFD.out _ (row_rds (hl := Held.len) (h1 := Held.one) 4 rfl _ HS.out)).mono ?_); rintro e w2 ⟨rfl, hb⟩;  have HS1 := HS.out.quiet hb; clear HS hb; have HS := Aside0.mk HS1; clear HS1) | (go_at_call 88; (with_reducible refine (without_any A1 c1 n x.token l _ (row_rds (hl := Held.len) (h1 := Held.one) 4 rfl _ HS.out) (by omega)).mono ?_); rintro e w2 ⟨v, S3, rfl, HS1⟩; obtain ⟨A3, c3, rfl, hc3, _⟩ := row_rd HS1 0 rfl; have HC3 := Aside0.mk hc3; clear hc3; have HS2 := HS.out.call HS1; clear HS HS1; simp only [aC, aE] at HS2; have HS := Aside0.mk HS2; clear HS2) | ((first | ((first | ((with_reducible refine gA rfl ?_); refine sh_alloc HS.out rfl rfl (zeT _ (by decide)) ?_) | ((with_reducible refine gB rfl ?_); refine bx HS.out rfl rfl ?_; first | refine bv (v := .agg (List.toArray _)) rfl ?_ | refine bv (v := .int _ _) rfl ?_ | refine bv (v := .slice _ _ _) rfl ?_ | refine bv (v := .bool _) rfl ?_ | refine bv (v := .pointer _) rfl ?_) | ((with_reducible refine gL rfl ?_); refine sh_lit HS.out rfl rfl (by go_simp; exact ⟨⟨rfl, rfl⟩, rfl⟩) ?_)); clear HS; intro g w1 hg HS1; (simp only [Held.enc, Last.enc, zeF, segOf, aL, aC, aE] at HS1); have HS := Aside0.mk HS1; clear HS1) | ((with_reducible refine gLd rfl ?_); refine ld2 HS.out rfl rfl rfl (by repeat (first | exact AtI.here | apply AtI.there)) ?_; (first | refine LdK.one ((agT _ (by decide)).trans rfl) rfl ?_ | (refine LdK.agg ((agT _ (by decide)).trans rfl) (szT _ (by decide)) (lb rfl) ?_; try simp only [szL, aP, aN, aT, aZ, aS, aD, aF, aJ, aK, aM, aO]))) | ((with_reducible refine gSt rfl ?_); refine st2 HS.out rfl rfl rfl rfl (by repeat (first | exact AtI.here | apply AtI.there)) ?_; (first | refine sv (u := .agg (List.toArray _)) rfl ?_ | refine sv (u := .int _ _) rfl ?_ | refine sv (u := .slice _ _ _) rfl ?_ | refine sv (u := .bool _) rfl ?_ | refine sv (u := .pointer _) rfl ?_); refine sw (szT _ (by decide)) rfl (lb rfl) ?_; clear HS; intro w1 HS1; (simp only [Held.enc, Last.enc, segOf, aL, aZ, aS, putSeg] at HS1); have HS := Aside0.mk HS1; clear HS1)); try simp only [aP, aN, aT, aZ, aS]))
                    refine bodyPost_ret (results_list (rs := [.cell 6 27, .cell 7 74, .tmp 8]) rfl (by simp) (.cell _ _ _ _ _ rfl (HS.out.blk 2 rfl) Try.underlying27 rfl ((szT _ (by decide)).trans rfl) (.cell _ _ _ _ _ rfl (HS.out.blk 3 rfl) Try.underlying74 rfl ((szT _ (by decide)).trans rfl) (.tmp .nil)))) rfl ?_
                    have hres := HRS.out
                    subst hres
                    exact apPost_mk ⟨_, _, _, _, _, _, _, _, rfl, HC3.out, twoRd (HS.out.pick [7, 5] rfl (by decide))⟩
                  · have hbt : (z.stamp != x.stamp) = true := by simp [ht]
                    have hres : (⟨lim, nxt, l, ml, ⟨4, 0, 0⟩, 0⟩ : Ap) = r := by
                      rw [← HU.out]
                      show _ = (if z.serial = x.serial ∧ z.stamp = x.stamp then _ else _)
                      have hno : ¬ (z.serial = x.serial ∧ z.stamp = x.stamp) := fun h => ht h.2
                      rw [if_neg hno]
                    have HRS := Aside0.mk hres
                    clear hres hs ht
                    go_wp2_with (first | (go_at_call 87; (with_reducible refine (HFD.out _ (row_rds (hl := Held.len) (h1 := Held.one) 4 rfl _ HS.out)).mono ?_); rintro e w2 ⟨rfl, hb⟩;  have HS1 := HS.out.quiet hb; clear HS hb; have HS := Aside0.mk HS1; clear HS1) | ((first | ((first | ((with_reducible refine gA rfl ?_); refine sh_alloc HS.out rfl rfl (zeT _ (by decide)) ?_) | ((with_reducible refine gB rfl ?_); refine bx HS.out rfl rfl ?_; first | refine bv (v := .agg (List.toArray _)) rfl ?_ | refine bv (v := .int _ _) rfl ?_ | refine bv (v := .slice _ _ _) rfl ?_ | refine bv (v := .bool _) rfl ?_ | refine bv (v := .pointer _) rfl ?_) | ((with_reducible refine gL rfl ?_); refine sh_lit HS.out rfl rfl (by go_simp; exact ⟨⟨rfl, rfl⟩, rfl⟩) ?_)); clear HS; intro g w1 hg HS1; (simp only [Held.enc, Last.enc, zeF, segOf, aL, aC, aE] at HS1); have HS := Aside0.mk HS1; clear HS1) | ((with_reducible refine gLd rfl ?_); refine ld2 HS.out rfl rfl rfl (by repeat (first | exact AtI.here | apply AtI.there)) ?_; (first | refine LdK.one ((agT _ (by decide)).trans rfl) rfl ?_ | (refine LdK.agg ((agT _ (by decide)).trans rfl) (szT _ (by decide)) (lb rfl) ?_; try simp only [szL, aP, aN, aT, aZ, aS, aD, aF, aJ, aK, aM, aO]))) | ((with_reducible refine gSt rfl ?_); refine st2 HS.out rfl rfl rfl rfl (by repeat (first | exact AtI.here | apply AtI.there)) ?_; (first | refine sv (u := .agg (List.toArray _)) rfl ?_ | refine sv (u := .int _ _) rfl ?_ | refine sv (u := .slice _ _ _) rfl ?_ | refine sv (u := .bool _) rfl ?_ | refine sv (u := .pointer _) rfl ?_); refine sw (szT _ (by decide)) rfl (lb rfl) ?_; clear HS; intro w1 HS1; (simp only [Held.enc, Last.enc, segOf, aL, aZ, aS, putSeg] at HS1); have HS := Aside0.mk HS1; clear HS1)); try simp only [aP, aN, aT, aZ, aS]))
                    refine bodyPost_ret (results_list (rs := [.cell 6 27, .cell 7 74, .tmp 8]) rfl (by simp) (.cell _ _ _ _ _ rfl (HS.out.blk 2 rfl) Try.underlying27 rfl ((szT _ (by decide)).trans rfl) (.cell _ _ _ _ _ rfl (HS.out.blk 3 rfl) Try.underlying74 rfl ((szT _ (by decide)).trans rfl) (.tmp .nil)))) rfl ?_
                    have hres := HRS.out
                    subst hres
                    exact apPost_mk ⟨_, _, _, _, _, _, _, _, rfl, HC1.out, twoRd (HS.out.pick [4, 5] rfl (by decide))⟩
                · have hbs : (z.serial != x.serial) = true := by simp [hs]
                  have hres : (⟨lim, nxt, l, ml, ⟨4, 0, 0⟩, 0⟩ : Ap) = r := by
                    rw [← HU.out]
                    show _ = (if z.serial = x.serial ∧ z.stamp = x.stamp then _ else _)
                    have hno : ¬ (z.serial = x.serial ∧ z.stamp = x.stamp) := fun h => hs h.1
                    rw [if_neg hno]
                  have HRS := Aside0.mk hres
                  clear hres hs
                  go_wp2_with (first | (go_at_call 87; (with_reducible refine (HFD.out _ (row_rds (hl := Held.len) (h1 := Held.one) 4 rfl _ HS.out)).mono ?_); rintro e w2 ⟨rfl, hb⟩;  have HS1 := HS.out.quiet hb; clear HS hb; have HS := Aside0.mk HS1; clear HS1) | ((first | ((first | ((with_reducible refine gA rfl ?_); refine sh_alloc HS.out rfl rfl (zeT _ (by decide)) ?_) | ((with_reducible refine gB rfl ?_); refine bx HS.out rfl rfl ?_; first | refine bv (v := .agg (List.toArray _)) rfl ?_ | refine bv (v := .int _ _) rfl ?_ | refine bv (v := .slice _ _ _) rfl ?_ | refine bv (v := .bool _) rfl ?_ | refine bv (v := .pointer _) rfl ?_) | ((with_reducible refine gL rfl ?_); refine sh_lit HS.out rfl rfl (by go_simp; exact ⟨⟨rfl, rfl⟩, rfl⟩) ?_)); clear HS; intro g w1 hg HS1; (simp only [Held.enc, Last.enc, zeF, segOf, aL, aC, aE] at HS1); have HS := Aside0.mk HS1; clear HS1) | ((with_reducible refine gLd rfl ?_); refine ld2 HS.out rfl rfl rfl (by repeat (first | exact AtI.here | apply AtI.there)) ?_; (first | refine LdK.one ((agT _ (by decide)).trans rfl) rfl ?_ | (refine LdK.agg ((agT _ (by decide)).trans rfl) (szT _ (by decide)) (lb rfl) ?_; try simp only [szL, aP, aN, aT, aZ, aS, aD, aF, aJ, aK, aM, aO]))) | ((with_reducible refine gSt rfl ?_); refine st2 HS.out rfl rfl rfl rfl (by repeat (first | exact AtI.here | apply AtI.there)) ?_; (first | refine sv (u := .agg (List.toArray _)) rfl ?_ | refine sv (u := .int _ _) rfl ?_ | refine sv (u := .slice _ _ _) rfl ?_ | refine sv (u := .bool _) rfl ?_ | refine sv (u := .pointer _) rfl ?_); refine sw (szT _ (by decide)) rfl (lb rfl) ?_; clear HS; intro w1 HS1; (simp only [Held.enc, Last.enc, segOf, aL, aZ, aS, putSeg] at HS1); have HS := Aside0.mk HS1; clear HS1)); try simp only [aP, aN, aT, aZ, aS]))
                  refine bodyPost_ret (results_list (rs := [.cell 6 27, .cell 7 74, .tmp 8]) rfl (by simp) (.cell _ _ _ _ _ rfl (HS.out.blk 2 rfl) Try.underlying27 rfl ((szT _ (by decide)).trans rfl) (.cell _ _ _ _ _ rfl (HS.out.blk 3 rfl) Try.underlying74 rfl ((szT _ (by decide)).trans rfl) (.tmp .nil)))) rfl ?_
                  have hres := HRS.out
                  subst hres
                  exact apPost_mk ⟨_, _, _, _, _, _, _, _, rfl, HC1.out, twoRd (HS.out.pick [4, 5] rfl (by decide))⟩
            · have hbk6 : (x.kind == 6) = false := beq_eq_false_iff_ne.2 hk6
              rw [if_neg hk6] at hu
              have HU := Aside0.mk hu
              clear hu hk6
              go_wp2_with (first | ((first | ((first | ((with_reducible refine gA rfl ?_); refine sh_alloc HS.out rfl rfl (zeT _ (by decide)) ?_) | ((with_reducible refine gB rfl ?_); refine bx HS.out rfl rfl ?_; first | refine bv (v := .agg (List.toArray _)) rfl ?_ | refine bv (v := .int _ _) rfl ?_ | refine bv (v := .slice _ _ _) rfl ?_ | refine bv (v := .bool _) rfl ?_ | refine bv (v := .pointer _) rfl ?_) | ((with_reducible refine gL rfl ?_); refine sh_lit HS.out rfl rfl (by go_simp; exact ⟨⟨rfl, rfl⟩, rfl⟩) ?_)); clear HS; intro g w1 hg HS1; (simp only [Held.enc, Last.enc, zeF, segOf, aL, aC, aE] at HS1); have HS := Aside0.mk HS1; clear HS1) | ((with_reducible refine gLd rfl ?_); refine ld2 HS.out rfl rfl rfl (by repeat (first | exact AtI.here | apply AtI.there)) ?_; (first | refine LdK.one ((agT _ (by decide)).trans rfl) rfl ?_ | (refine LdK.agg ((agT _ (by decide)).trans rfl) (szT _ (by decide)) (lb rfl) ?_; try simp only [szL, aP, aN, aT, aZ, aS, aD, aF, aJ, aK, aM, aO]))) | ((with_reducible refine gSt rfl ?_); refine st2 HS.out rfl rfl rfl rfl (by repeat (first | exact AtI.here | apply AtI.there)) ?_; (first | refine sv (u := .agg (List.toArray _)) rfl ?_ | refine sv (u := .int _ _) rfl ?_ | refine sv (u := .slice _ _ _) rfl ?_ | refine sv (u := .bool _) rfl ?_ | refine sv (u := .pointer _) rfl ?_); refine sw (szT _ (by decide)) rfl (lb rfl) ?_; clear HS; intro w1 HS1; (simp only [Held.enc, Last.enc, segOf, aL, aZ, aS, putSeg] at HS1); have HS := Aside0.mk HS1; clear HS1)); try simp only [aP, aN, aT, aZ, aS]))
              go_loopw [12, 76] (fun _ v76 wr => ∃ k : Nat, k ≤ m ∧ v76 = .int .i64 k ∧ Aside0 (∀ p, p < k → hit x (ml.getD p default) = none) ∧ Aside0 (SH w wr [blk bL [.int .i64 lim, .int .u64 nxt, .slice A1 n c1, .slice B1 m d1] 27, blk bC [.int .i64 x.kind, .int .i64 x.node, .int .i64 x.token, .slice x.A x.nodes.length x.c, .int .u64 x.boot, .int .u64 x.seq, .int .u64 x.serial, .int .u64 x.stamp] 50, blk g6 [.int .i64 0, .int .u64 0, .slice none 0 0, .slice none 0 0] 27, blk g7 [.int .i64 0, .int .i64 0, .int .u64 0] 74, row heldK 72 (.slice A1 n c1) l S1, row lastK 76 (.slice B1 m d1) ml S2])) (fun _ v76 _ => m - (intOf v76).toNat)
              case atStart => exact ⟨0, Nat.zero_le _, rfl, ⟨fun p h => by omega⟩, HS⟩
              case round =>
                clear HS
                obtain ⟨k, hk, rfl, HP, HS⟩ := hrel
                by_cases hlt : k < m
                · have HRL := Aside0.mk (row_rds (hl := Last.len) (h1 := Last.one) 5 rfl _ HS.out)
                  obtain ⟨ad, rfl⟩ := HRL.out.addr (by omega)
                  obtain ⟨y, hy⟩ : ∃ y, ml.getD k default = y := ⟨_, rfl⟩
                  have HX := Aside0.mk hy
                  clear hy
                  by_cases hn : y.node = x.node
                  · have hbn : (y.node != x.node) = false := by simp [hn]
                    by_cases hb1 : x.boot < y.boot
                    · have hbb : decide (x.boot < y.boot) = true := decide_eq_true hb1
                      have hr2 := HU.out
                      rw [find_some (by rw [HLm.out]; exact hlt) HX.out HP.out (a := ⟨6, 0, 0⟩) (by unfold hit; rw [if_pos hn, if_pos (.inl hb1)])] at hr2
                      have HRS := Aside0.mk hr2
                      clear hr2
                      clear hn hb1
                      go_wp2_with (first | ((with_reducible refine gLd rfl ?_); refine rd_load HRL.out rfl rfl (i := k) rfl hlt default Last.len ((agT _ (by decide)).trans rfl) (szT _ (by decide)) ?_; intro x hx; obtain rfl := HX.out.symm.trans hx; (try simp only [Held.enc, Last.enc, aP, aN, aT, aZ, aS])) | ((first | ((first | ((with_reducible refine gA rfl ?_); refine sh_alloc HS.out rfl rfl (zeT _ (by decide)) ?_) | ((with_reducible refine gB rfl ?_); refine bx HS.out rfl rfl ?_; first | refine bv (v := .agg (List.toArray _)) rfl ?_ | refine bv (v := .int _ _) rfl ?_ | refine bv (v := .slice _ _ _) rfl ?_ | refine bv (v := .bool _) rfl ?_ | refine bv (v := .pointer _) rfl ?_) | ((with_reducible refine gL rfl ?_); refine sh_lit HS.out rfl rfl (by go_simp; exact ⟨⟨rfl, rfl⟩, rfl⟩) ?_)); clear HS; intro g w1 hg HS1; (simp only [Held.enc, Last.enc, zeF, segOf, aL, aC, aE] at HS1); have HS := Aside0.mk HS1; clear HS1) | ((with_reducible refine gLd rfl ?_); refine ld2 HS.out rfl rfl rfl (by repeat (first | exact AtI.here | apply AtI.there)) ?_; (first | refine LdK.one ((agT _ (by decide)).trans rfl) rfl ?_ | (refine LdK.agg ((agT _ (by decide)).trans rfl) (szT _ (by decide)) (lb rfl) ?_; try simp only [szL, aP, aN, aT, aZ, aS, aD, aF, aJ, aK, aM, aO]))) | ((with_reducible refine gSt rfl ?_); refine st2 HS.out rfl rfl rfl rfl (by repeat (first | exact AtI.here | apply AtI.there)) ?_; (first | refine sv (u := .agg (List.toArray _)) rfl ?_ | refine sv (u := .int _ _) rfl ?_ | refine sv (u := .slice _ _ _) rfl ?_ | refine sv (u := .bool _) rfl ?_ | refine sv (u := .pointer _) rfl ?_); refine sw (szT _ (by decide)) rfl (lb rfl) ?_; clear HS; intro w1 HS1; (simp only [Held.enc, Last.enc, segOf, aL, aZ, aS, putSeg] at HS1); have HS := Aside0.mk HS1; clear HS1)); try simp only [aP, aN, aT, aZ, aS]))
                      refine bodyPost_ret (results_list (rs := [.cell 6 27, .cell 7 74, .tmp 8]) rfl (by simp) (.cell _ _ _ _ _ rfl (HS.out.blk 2 rfl) Try.underlying27 rfl ((szT _ (by decide)).trans rfl) (.cell _ _ _ _ _ rfl (HS.out.blk 3 rfl) Try.underlying74 rfl ((szT _ (by decide)).trans rfl) (.tmp .nil)))) rfl ?_
                      have hres := HRS.out
                      subst hres
                      exact apPost_mk ⟨_, _, _, _, _, _, _, _, rfl, HC1.out, twoRd (HS.out.pick [4, 5] rfl (by decide))⟩

                    · have hbb : decide (x.boot < y.boot) = false := decide_eq_false hb1
                      by_cases hb2 : y.boot = x.boot
                      · have hbe : (y.boot == x.boot) = true := beq_iff_eq.2 hb2
                        by_cases hs1 : x.seq < y.seq
                        · have hbs : decide (x.seq < y.seq) = true := decide_eq_true hs1
                          have hr2 := HU.out
                          rw [find_some (by rw [HLm.out]; exact hlt) HX.out HP.out (a := ⟨6, 0, 0⟩) (by unfold hit; rw [if_pos hn, if_pos (.inr ⟨hb2, hs1⟩)])] at hr2
                          have HRS := Aside0.mk hr2
                          clear hr2
                          clear hn hb1 hb2 hs1
                          go_wp2_with (first | ((with_reducible refine gLd rfl ?_); refine rd_load HRL.out rfl rfl (i := k) rfl hlt default Last.len ((agT _ (by decide)).trans rfl) (szT _ (by decide)) ?_; intro x hx; obtain rfl := HX.out.symm.trans hx; (try simp only [Held.enc, Last.enc, aP, aN, aT, aZ, aS])) | ((first | ((first | ((with_reducible refine gA rfl ?_); refine sh_alloc HS.out rfl rfl (zeT _ (by decide)) ?_) | ((with_reducible refine gB rfl ?_); refine bx HS.out rfl rfl ?_; first | refine bv (v := .agg (List.toArray _)) rfl ?_ | refine bv (v := .int _ _) rfl ?_ | refine bv (v := .slice _ _ _) rfl ?_ | refine bv (v := .bool _) rfl ?_ | refine bv (v := .pointer _) rfl ?_) | ((with_reducible refine gL rfl ?_); refine sh_lit HS.out rfl rfl (by go_simp; exact ⟨⟨rfl, rfl⟩, rfl⟩) ?_)); clear HS; intro g w1 hg HS1; (simp only [Held.enc, Last.enc, zeF, segOf, aL, aC, aE] at HS1); have HS := Aside0.mk HS1; clear HS1) | ((with_reducible refine gLd rfl ?_); refine ld2 HS.out rfl rfl rfl (by repeat (first | exact AtI.here | apply AtI.there)) ?_; (first | refine LdK.one ((agT _ (by decide)).trans rfl) rfl ?_ | (refine LdK.agg ((agT _ (by decide)).trans rfl) (szT _ (by decide)) (lb rfl) ?_; try simp only [szL, aP, aN, aT, aZ, aS, aD, aF, aJ, aK, aM, aO]))) | ((with_reducible refine gSt rfl ?_); refine st2 HS.out rfl rfl rfl rfl (by repeat (first | exact AtI.here | apply AtI.there)) ?_; (first | refine sv (u := .agg (List.toArray _)) rfl ?_ | refine sv (u := .int _ _) rfl ?_ | refine sv (u := .slice _ _ _) rfl ?_ | refine sv (u := .bool _) rfl ?_ | refine sv (u := .pointer _) rfl ?_); refine sw (szT _ (by decide)) rfl (lb rfl) ?_; clear HS; intro w1 HS1; (simp only [Held.enc, Last.enc, segOf, aL, aZ, aS, putSeg] at HS1); have HS := Aside0.mk HS1; clear HS1)); try simp only [aP, aN, aT, aZ, aS]))
                          refine bodyPost_ret (results_list (rs := [.cell 6 27, .cell 7 74, .tmp 8]) rfl (by simp) (.cell _ _ _ _ _ rfl (HS.out.blk 2 rfl) Try.underlying27 rfl ((szT _ (by decide)).trans rfl) (.cell _ _ _ _ _ rfl (HS.out.blk 3 rfl) Try.underlying74 rfl ((szT _ (by decide)).trans rfl) (.tmp .nil)))) rfl ?_
                          have hres := HRS.out
                          subst hres
                          exact apPost_mk ⟨_, _, _, _, _, _, _, _, rfl, HC1.out, twoRd (HS.out.pick [4, 5] rfl (by decide))⟩

                        · have hbs : decide (x.seq < y.seq) = false := decide_eq_false hs1
                          by_cases hs2 : y.seq = x.seq
                          · have hbq : (y.seq == x.seq) = true := beq_iff_eq.2 hs2
                            have hr2 := HU.out
                            rw [find_some (by rw [HLm.out]; exact hlt) HX.out HP.out (a := y.ans) (by unfold hit; rw [if_pos hn, if_neg (fun h => h.elim hb1 (fun h => hs1 h.2)), if_pos ⟨hb2, hs2⟩])] at hr2
                            have HRS := Aside0.mk hr2
                            clear hr2
                            clear hn hb1 hb2 hs1 hs2
                            go_upto_region 25 with (first | ((with_reducible refine gLd rfl ?_); refine rd_load HRL.out rfl rfl (i := k) rfl hlt default Last.len ((agT _ (by decide)).trans rfl) (szT _ (by decide)) ?_; intro x hx; obtain rfl := HX.out.symm.trans hx; (try simp only [Held.enc, Last.enc, aP, aN, aT, aZ, aS])) | ((first | ((first | ((with_reducible refine gA rfl ?_); refine sh_alloc HS.out rfl rfl (zeT _ (by decide)) ?_) | ((with_reducible refine gB rfl ?_); refine bx HS.out rfl rfl ?_; first | refine bv (v := .agg (List.toArray _)) rfl ?_ | refine bv (v := .int _ _) rfl ?_ | refine bv (v := .slice _ _ _) rfl ?_ | refine bv (v := .bool _) rfl ?_ | refine bv (v := .pointer _) rfl ?_) | ((with_reducible refine gL rfl ?_); refine sh_lit HS.out rfl rfl (by go_simp; exact ⟨⟨rfl, rfl⟩, rfl⟩) ?_)); clear HS; intro g w1 hg HS1; (simp only [Held.enc, Last.enc, zeF, segOf, aL, aC, aE] at HS1); have HS := Aside0.mk HS1; clear HS1) | ((with_reducible refine gLd rfl ?_); refine ld2 HS.out rfl rfl rfl (by repeat (first | exact AtI.here | apply AtI.there)) ?_; (first | refine LdK.one ((agT _ (by decide)).trans rfl) rfl ?_ | (refine LdK.agg ((agT _ (by decide)).trans rfl) (szT _ (by decide)) (lb rfl) ?_; try simp only [szL, aP, aN, aT, aZ, aS, aD, aF, aJ, aK, aM, aO]))) | ((with_reducible refine gSt rfl ?_); refine st2 HS.out rfl rfl rfl rfl (by repeat (first | exact AtI.here | apply AtI.there)) ?_; (first | refine sv (u := .agg (List.toArray _)) rfl ?_ | refine sv (u := .int _ _) rfl ?_ | refine sv (u := .slice _ _ _) rfl ?_ | refine sv (u := .bool _) rfl ?_ | refine sv (u := .pointer _) rfl ?_); refine sw (szT _ (by decide)) rfl (lb rfl) ?_; clear HS; intro w1 HS1; (simp only [Held.enc, Last.enc, segOf, aL, aZ, aS, putSeg] at HS1); have HS := Aside0.mk HS1; clear HS1)); try simp only [aP, aN, aT, aZ, aS]))
                            have HC := Aside0.mk (HS.out.pick [0, 6] rfl (by decide))
                            refine kheld_start [] mixed HC.out (fun HC1 => ?_)
                            have HS1 := HS.out.drew
                            clear HS HC
                            have HS := Aside0.mk HS1
                            have HC := Aside0.mk HC1
                            clear HS1 HC1
                            refine k_loads 0 (by simp only [aG, aH, aI]; rfl) (by kernel_rfl) (by kernel_rfl) (by kernel_rfl) (by kernel_rfl) (v := _) (by exact fun _ _ _ h => h) HC.out (by kernel_rfl) rfl rfl 0 rfl ((agT _ (by decide)).trans rfl) (szT _ (by decide)) (lb rfl) rfl ?_
                            (try simp only [szL, aP, aN, aT, aZ, aS, aD, aF, aJ, aK, aM, aO])
                            (try simp only [aP, aN, aT, aZ, aS])
                            refine k_any 1 (v := _) (by simp only [aG, aH, aI]; rfl) (by kernel_rfl) (by kernel_rfl) (by kernel_rfl) (by kernel_rfl) (by exact fun _ _ _ h => h) (.inr HC.out) (by kernel_rfl) (fun w => by (repeat (rename ∀ (_ : Act) (_ : World), _ => hK9; clear hK9)); go_simp; rfl) ?_
                            (try simp only [aP, aN, aT, aZ, aS])
                            refine k_loads 2 (by simp only [aG, aH, aI]; rfl) (by kernel_rfl) (by kernel_rfl) (by kernel_rfl) (by kernel_rfl) (v := _) (by exact fun _ _ _ h => h) HC.out (by kernel_rfl) rfl rfl 1 rfl ((agT _ (by decide)).trans rfl) (szT _ (by decide)) (lb rfl) rfl ?_
                            (try simp only [szL, aP, aN, aT, aZ, aS, aD, aF, aJ, aK, aM, aO])
                            (try simp only [aP, aN, aT, aZ, aS])
                            refine k_one 3 (by simp only [aG, aH, aI]; rfl) (by kernel_rfl) ?_
                            ((with_reducible refine gSt rfl ?_); refine st2 HS.out rfl rfl rfl rfl (by repeat (first | exact AtI.here | apply AtI.there)) ?_; (first | refine sv (u := .agg (List.toArray _)) rfl ?_ | refine sv (u := .int _ _) rfl ?_ | refine sv (u := .slice _ _ _) rfl ?_ | refine sv (u := .bool _) rfl ?_ | refine sv (u := .pointer _) rfl ?_); refine sw (szT _ (by decide)) rfl (lb rfl) ?_; clear HS; intro w1 HS1; (simp only [Held.enc, Last.enc, segOf, aL, aZ, aS, putSeg] at HS1); have HS := Aside0.mk HS1; clear HS1; try simp only [aP, aN, aT, aZ, aS])
                            have HC1 := HS.out.pick [0, 6] rfl (by decide)
                            clear HC
                            have HC := Aside0.mk HC1
                            clear HC1
                            refine k_nil (.inr HC.out) ?_
                            (try simp only [aP, aN, aT, aZ, aS])
                            refine k_one 4 (by simp only [aG, aH, aI]; rfl) (by kernel_rfl) ?_
                            ((with_reducible refine gSt rfl ?_); refine st2 HS.out rfl rfl rfl rfl (by repeat (first | exact AtI.here | apply AtI.there)) ?_; (first | refine sv (u := .agg (List.toArray _)) rfl ?_ | refine sv (u := .int _ _) rfl ?_ | refine sv (u := .slice _ _ _) rfl ?_ | refine sv (u := .bool _) rfl ?_ | refine sv (u := .pointer _) rfl ?_); refine sw (szT _ (by decide)) rfl (lb rfl) ?_; clear HS; intro w1 HS1; (simp only [Held.enc, Last.enc, segOf, aL, aZ, aS, putSeg] at HS1); have HS := Aside0.mk HS1; clear HS1; try simp only [aP, aN, aT, aZ, aS])
                            have HC1 := HS.out.pick [0, 6] rfl (by decide)
                            clear HC
                            have HC := Aside0.mk HC1
                            clear HC1
                            refine k_nil (.inr HC.out) ?_
                            (try simp only [aP, aN, aT, aZ, aS])
                            refine k_any 5 (v := _) (by simp only [aG, aH, aI]; rfl) (by kernel_rfl) (by kernel_rfl) (by kernel_rfl) (by kernel_rfl) (by exact fun _ _ _ h => h) (.inr HC.out) (by kernel_rfl) (fun w => by (repeat (rename ∀ (_ : Act) (_ : World), _ => hK9; clear hK9)); go_simp; rfl) ?_
                            (try simp only [aP, aN, aT, aZ, aS])
                            refine k_done (by kernel_rfl) ?_ _
                            go_wp2
                            refine bodyPost_ret (results_list (rs := [.cell 6 27, .cell 7 74, .tmp 8]) rfl (by simp) (.cell _ _ _ _ _ rfl (HS.out.blk 2 rfl) Try.underlying27 rfl ((szT _ (by decide)).trans rfl) (.cell _ _ _ _ _ rfl (HS.out.blk 3 rfl) Try.underlying74 rfl ((szT _ (by decide)).trans rfl) (.tmp .nil)))) rfl ?_
                            have hres := HRS.out
                            subst hres
                            exact apPost_mk ⟨_, _, _, _, _, _, _, _, rfl, HC1.out, twoRd (HS.out.pick [4, 5] rfl (by decide))⟩

                          · have hbq : (y.seq == x.seq) = false := beq_eq_false_iff_ne.2 hs2
                            have HN := Aside0.mk (show hit x y = none from by unfold hit; rw [if_pos hn, if_neg (fun h => h.elim hb1 (fun h => hs1 h.2)), if_neg (fun h => hs2 h.2)])
                            clear hn hb1 hb2 hs1 hs2
                            go_wp2_with (first | ((with_reducible refine gLd rfl ?_); refine rd_load HRL.out rfl rfl (i := k) rfl hlt default Last.len ((agT _ (by decide)).trans rfl) (szT _ (by decide)) ?_; intro x hx; obtain rfl := HX.out.symm.trans hx; (try simp only [Held.enc, Last.enc, aP, aN, aT, aZ, aS])) | ((first | ((first | ((with_reducible refine gA rfl ?_); refine sh_alloc HS.out rfl rfl (zeT _ (by decide)) ?_) | ((with_reducible refine gB rfl ?_); refine bx HS.out rfl rfl ?_; first | refine bv (v := .agg (List.toArray _)) rfl ?_ | refine bv (v := .int _ _) rfl ?_ | refine bv (v := .slice _ _ _) rfl ?_ | refine bv (v := .bool _) rfl ?_ | refine bv (v := .pointer _) rfl ?_) | ((with_reducible refine gL rfl ?_); refine sh_lit HS.out rfl rfl (by go_simp; exact ⟨⟨rfl, rfl⟩, rfl⟩) ?_)); clear HS; intro g w1 hg HS1; (simp only [Held.enc, Last.enc, zeF, segOf, aL, aC, aE] at HS1); have HS := Aside0.mk HS1; clear HS1) | ((with_reducible refine gLd rfl ?_); refine ld2 HS.out rfl rfl rfl (by repeat (first | exact AtI.here | apply AtI.there)) ?_; (first | refine LdK.one ((agT _ (by decide)).trans rfl) rfl ?_ | (refine LdK.agg ((agT _ (by decide)).trans rfl) (szT _ (by decide)) (lb rfl) ?_; try simp only [szL, aP, aN, aT, aZ, aS, aD, aF, aJ, aK, aM, aO]))) | ((with_reducible refine gSt rfl ?_); refine st2 HS.out rfl rfl rfl rfl (by repeat (first | exact AtI.here | apply AtI.there)) ?_; (first | refine sv (u := .agg (List.toArray _)) rfl ?_ | refine sv (u := .int _ _) rfl ?_ | refine sv (u := .slice _ _ _) rfl ?_ | refine sv (u := .bool _) rfl ?_ | refine sv (u := .pointer _) rfl ?_); refine sw (szT _ (by decide)) rfl (lb rfl) ?_; clear HS; intro w1 HS1; (simp only [Held.enc, Last.enc, segOf, aL, aZ, aS, putSeg] at HS1); have HS := Aside0.mk HS1; clear HS1)); try simp only [aP, aN, aT, aZ, aS]))
                            go_roundw
                            case rel =>
                              refine ⟨k + 1, by omega, by go_num, ⟨fun p hp => ?_⟩, ⟨HS.out.pick [0, 1, 2, 3, 4, 5] rfl (by decide)⟩⟩
                              by_cases hpk : p = k
                              · subst hpk
                                rw [HX.out]
                                exact HN.out
                              · exact HP.out p (by omega)
                            case measure => simp [intOf]; omega

                      · have hbe : (y.boot == x.boot) = false := beq_eq_false_iff_ne.2 hb2
                        have HN := Aside0.mk (show hit x y = none from by unfold hit; rw [if_pos hn, if_neg (fun h => h.elim hb1 (fun h => hb2 h.1)), if_neg (fun h => hb2 h.1)])
                        clear hn hb1 hb2
                        go_wp2_with (first | ((with_reducible refine gLd rfl ?_); refine rd_load HRL.out rfl rfl (i := k) rfl hlt default Last.len ((agT _ (by decide)).trans rfl) (szT _ (by decide)) ?_; intro x hx; obtain rfl := HX.out.symm.trans hx; (try simp only [Held.enc, Last.enc, aP, aN, aT, aZ, aS])) | ((first | ((first | ((with_reducible refine gA rfl ?_); refine sh_alloc HS.out rfl rfl (zeT _ (by decide)) ?_) | ((with_reducible refine gB rfl ?_); refine bx HS.out rfl rfl ?_; first | refine bv (v := .agg (List.toArray _)) rfl ?_ | refine bv (v := .int _ _) rfl ?_ | refine bv (v := .slice _ _ _) rfl ?_ | refine bv (v := .bool _) rfl ?_ | refine bv (v := .pointer _) rfl ?_) | ((with_reducible refine gL rfl ?_); refine sh_lit HS.out rfl rfl (by go_simp; exact ⟨⟨rfl, rfl⟩, rfl⟩) ?_)); clear HS; intro g w1 hg HS1; (simp only [Held.enc, Last.enc, zeF, segOf, aL, aC, aE] at HS1); have HS := Aside0.mk HS1; clear HS1) | ((with_reducible refine gLd rfl ?_); refine ld2 HS.out rfl rfl rfl (by repeat (first | exact AtI.here | apply AtI.there)) ?_; (first | refine LdK.one ((agT _ (by decide)).trans rfl) rfl ?_ | (refine LdK.agg ((agT _ (by decide)).trans rfl) (szT _ (by decide)) (lb rfl) ?_; try simp only [szL, aP, aN, aT, aZ, aS, aD, aF, aJ, aK, aM, aO]))) | ((with_reducible refine gSt rfl ?_); refine st2 HS.out rfl rfl rfl rfl (by repeat (first | exact AtI.here | apply AtI.there)) ?_; (first | refine sv (u := .agg (List.toArray _)) rfl ?_ | refine sv (u := .int _ _) rfl ?_ | refine sv (u := .slice _ _ _) rfl ?_ | refine sv (u := .bool _) rfl ?_ | refine sv (u := .pointer _) rfl ?_); refine sw (szT _ (by decide)) rfl (lb rfl) ?_; clear HS; intro w1 HS1; (simp only [Held.enc, Last.enc, segOf, aL, aZ, aS, putSeg] at HS1); have HS := Aside0.mk HS1; clear HS1)); try simp only [aP, aN, aT, aZ, aS]))
                        go_roundw
                        case rel =>
                          refine ⟨k + 1, by omega, by go_num, ⟨fun p hp => ?_⟩, ⟨HS.out.pick [0, 1, 2, 3, 4, 5] rfl (by decide)⟩⟩
                          by_cases hpk : p = k
                          · subst hpk
                            rw [HX.out]
                            exact HN.out
                          · exact HP.out p (by omega)
                        case measure => simp [intOf]; omega

                  · have hbn : (y.node != x.node) = true := by simp [hn]
                    have HN := Aside0.mk (show hit x y = none from by unfold hit; rw [if_neg hn])
                    clear hn
                    go_wp2_with (first | ((with_reducible refine gLd rfl ?_); refine rd_load HRL.out rfl rfl (i := k) rfl hlt default Last.len ((agT _ (by decide)).trans rfl) (szT _ (by decide)) ?_; intro x hx; obtain rfl := HX.out.symm.trans hx; (try simp only [Held.enc, Last.enc, aP, aN, aT, aZ, aS])) | ((first | ((first | ((with_reducible refine gA rfl ?_); refine sh_alloc HS.out rfl rfl (zeT _ (by decide)) ?_) | ((with_reducible refine gB rfl ?_); refine bx HS.out rfl rfl ?_; first | refine bv (v := .agg (List.toArray _)) rfl ?_ | refine bv (v := .int _ _) rfl ?_ | refine bv (v := .slice _ _ _) rfl ?_ | refine bv (v := .bool _) rfl ?_ | refine bv (v := .pointer _) rfl ?_) | ((with_reducible refine gL rfl ?_); refine sh_lit HS.out rfl rfl (by go_simp; exact ⟨⟨rfl, rfl⟩, rfl⟩) ?_)); clear HS; intro g w1 hg HS1; (simp only [Held.enc, Last.enc, zeF, segOf, aL, aC, aE] at HS1); have HS := Aside0.mk HS1; clear HS1) | ((with_reducible refine gLd rfl ?_); refine ld2 HS.out rfl rfl rfl (by repeat (first | exact AtI.here | apply AtI.there)) ?_; (first | refine LdK.one ((agT _ (by decide)).trans rfl) rfl ?_ | (refine LdK.agg ((agT _ (by decide)).trans rfl) (szT _ (by decide)) (lb rfl) ?_; try simp only [szL, aP, aN, aT, aZ, aS, aD, aF, aJ, aK, aM, aO]))) | ((with_reducible refine gSt rfl ?_); refine st2 HS.out rfl rfl rfl rfl (by repeat (first | exact AtI.here | apply AtI.there)) ?_; (first | refine sv (u := .agg (List.toArray _)) rfl ?_ | refine sv (u := .int _ _) rfl ?_ | refine sv (u := .slice _ _ _) rfl ?_ | refine sv (u := .bool _) rfl ?_ | refine sv (u := .pointer _) rfl ?_); refine sw (szT _ (by decide)) rfl (lb rfl) ?_; clear HS; intro w1 HS1; (simp only [Held.enc, Last.enc, segOf, aL, aZ, aS, putSeg] at HS1); have HS := Aside0.mk HS1; clear HS1)); try simp only [aP, aN, aT, aZ, aS]))
                    go_roundw
                    case rel =>
                      refine ⟨k + 1, by omega, by go_num, ⟨fun p hp => ?_⟩, ⟨HS.out.pick [0, 1, 2, 3, 4, 5] rfl (by decide)⟩⟩
                      by_cases hpk : p = k
                      · subst hpk
                        rw [HX.out]
                        exact HN.out
                      · exact HP.out p (by omega)
                    case measure => simp [intOf]; omega

                · obtain rfl : k = m := by omega
                  have hr2 := HU.out
                  rw [find_none (fun p hp => HP.out p (by rw [← HLm.out]; exact hp))] at hr2
                  have hr3 : doneR lim nxt l ml ix x = r := hr2
                  unfold doneR at hr3
                  obtain ⟨q, hq⟩ : ∃ q, requestR lim nxt l ix (toCmd x) = q := ⟨_, rfl⟩
                  rw [hq] at hr3
                  have HRS := Aside0.mk hr3
                  have HQR := Aside0.mk hq
                  clear hr2 hr3 hq HU
                  have HS1 := HS.out.toRd (hl := Held.len) (h1 := Held.one) 4 rfl
                  simp only [aZ, aS] at HS1
                  clear HS
                  have HS := Aside0.mk HS1
                  clear HS1
                  go_upto_region 28 with (first | (go_at_call 89; (with_reducible refine (refRequest_any A1 B1 c1 d1 k n lim nxt ix l S1 (toCmd x) _ (SH.pack (is := [_]) [_, _, _, _, _] (HS.out.pick [4, 0, 1, 2, 3, 5] rfl (by decide))) HC1.out (by omega) hnx0 hnx HPW.out HPO.out).mono ?_); rintro e w2 ⟨A3, N3, c3, S3, rfl, hc3, HS2⟩; have HC3 := Aside0.mk hc3; clear hc3; have HSN := (show SH w w2 [_, _, _, _, _, _] from (SH.unpack (is := [_]) [_, _, _, _, _] HS2).pick [1, 2, 3, 4, 0, 5] rfl (by decide)); clear HS HS2; (rw [HQR.out] at HSN ⊢); have HS := Aside0.mk HSN; clear HSN) | ((fail_if_success (have _ := b13)); ((with_reducible refine gA rfl ?_); refine sh_alloc HS.out rfl rfl (zeT _ (by decide)) ?_; clear HS; intro b13 w1 hb13 HS1; (simp only [Held.enc, Last.enc, zeF, segOf, aL, aC, aE] at HS1); have HS := Aside0.mk HS1; clear HS1; try simp only [aP, aN, aT, aZ, aS])) | ((fail_if_success (have _ := b14)); ((with_reducible refine gA rfl ?_); refine sh_alloc HS.out rfl rfl (zeT _ (by decide)) ?_; clear HS; intro b14 w1 hb14 HS1; (simp only [Held.enc, Last.enc, zeF, segOf, aL, aC, aE] at HS1); have HS := Aside0.mk HS1; clear HS1; try simp only [aP, aN, aT, aZ, aS])) | ((first | ((first | ((with_reducible refine gA rfl ?_); refine sh_alloc HS.out rfl rfl (zeT _ (by decide)) ?_) | ((with_reducible refine gB rfl ?_); refine bx HS.out rfl rfl ?_; first | refine bv (v := .agg (List.toArray _)) rfl ?_ | refine bv (v := .int _ _) rfl ?_ | refine bv (v := .slice _ _ _) rfl ?_ | refine bv (v := .bool _) rfl ?_ | refine bv (v := .pointer _) rfl ?_) | ((with_reducible refine gL rfl ?_); refine sh_lit HS.out rfl rfl (by go_simp; exact ⟨⟨rfl, rfl⟩, rfl⟩) ?_)); clear HS; intro g w1 hg HS1; (simp only [Held.enc, Last.enc, zeF, segOf, aL, aC, aE] at HS1); have HS := Aside0.mk HS1; clear HS1) | ((with_reducible refine gLd rfl ?_); refine ld2 HS.out rfl rfl rfl (by repeat (first | exact AtI.here | apply AtI.there)) ?_; (first | refine LdK.one ((agT _ (by decide)).trans rfl) rfl ?_ | (refine LdK.agg ((agT _ (by decide)).trans rfl) (szT _ (by decide)) (lb rfl) ?_; try simp only [szL, aP, aN, aT, aZ, aS, aD, aF, aJ, aK, aM, aO]))) | ((with_reducible refine gSt rfl ?_); refine st2 HS.out rfl rfl rfl rfl (by repeat (first | exact AtI.here | apply AtI.there)) ?_; (first | refine sv (u := .agg (List.toArray _)) rfl ?_ | refine sv (u := .int _ _) rfl ?_ | refine sv (u := .slice _ _ _) rfl ?_ | refine sv (u := .bool _) rfl ?_ | refine sv (u := .pointer _) rfl ?_); refine sw (szT _ (by decide)) rfl (lb rfl) ?_; clear HS; intro w1 HS1; (simp only [Held.enc, Last.enc, segOf, aL, aZ, aS, putSeg] at HS1); have HS := Aside0.mk HS1; clear HS1)); try simp only [aP, aN, aT, aZ, aS]))
                  go_upto_region 29 with (first | (go_at_call 90; (with_reducible refine (refLast_any B1 d1 k ⟨x.node, x.boot, x.seq, q.ans⟩ ml _ (row_rds (hl := Last.len) (h1 := Last.one) 5 rfl _ HS.out) (by omega)).mono ?_); rintro e w2 ⟨v, S4, rfl, HS1⟩; obtain ⟨A4, c4, rfl, _, _⟩ := row_rd HS1 0 rfl; have HS2 := HS.out.call HS1; clear HS HS1; simp only [aC, aE] at HS2; have HS := Aside0.mk HS2; clear HS2) | ((first | ((first | ((with_reducible refine gA rfl ?_); refine sh_alloc HS.out rfl rfl (zeT _ (by decide)) ?_) | ((with_reducible refine gB rfl ?_); refine bx HS.out rfl rfl ?_; first | refine bv (v := .agg (List.toArray _)) rfl ?_ | refine bv (v := .int _ _) rfl ?_ | refine bv (v := .slice _ _ _) rfl ?_ | refine bv (v := .bool _) rfl ?_ | refine bv (v := .pointer _) rfl ?_) | ((with_reducible refine gL rfl ?_); refine sh_lit HS.out rfl rfl (by go_simp; exact ⟨⟨rfl, rfl⟩, rfl⟩) ?_)); clear HS; intro g w1 hg HS1; (simp only [Held.enc, Last.enc, zeF, segOf, aL, aC, aE] at HS1); have HS := Aside0.mk HS1; clear HS1) | ((with_reducible refine gLd rfl ?_); refine ld2 HS.out rfl rfl rfl (by repeat (first | exact AtI.here | apply AtI.there)) ?_; (first | refine LdK.one ((agT _ (by decide)).trans rfl) rfl ?_ | (refine LdK.agg ((agT _ (by decide)).trans rfl) (szT _ (by decide)) (lb rfl) ?_; try simp only [szL, aP, aN, aT, aZ, aS, aD, aF, aJ, aK, aM, aO]))) | ((with_reducible refine gSt rfl ?_); refine st2 HS.out rfl rfl rfl rfl (by repeat (first | exact AtI.here | apply AtI.there)) ?_; (first | refine sv (u := .agg (List.toArray _)) rfl ?_ | refine sv (u := .int _ _) rfl ?_ | refine sv (u := .slice _ _ _) rfl ?_ | refine sv (u := .bool _) rfl ?_ | refine sv (u := .pointer _) rfl ?_); refine sw (szT _ (by decide)) rfl (lb rfl) ?_; clear HS; intro w1 HS1; (simp only [Held.enc, Last.enc, segOf, aL, aZ, aS, putSeg] at HS1); have HS := Aside0.mk HS1; clear HS1)); try simp only [aP, aN, aT, aZ, aS]))
                  have HC := Aside0.mk (HS.out.pick [6, 7] rfl (by decide))
                  refine kheld_start [] mixed HC.out (fun HC1 => ?_)
                  have HS1 := HS.out.drew
                  clear HS HC
                  have HS := Aside0.mk HS1
                  have HC := Aside0.mk HC1
                  clear HS1 HC1
                  refine k_loads 0 (by simp only [aG, aH, aI]; rfl) (by kernel_rfl) (by kernel_rfl) (by kernel_rfl) (by kernel_rfl) (v := _) (by exact fun _ _ _ h => h) HC.out (by kernel_rfl) rfl rfl 0 rfl ((agT _ (by decide)).trans rfl) (szT _ (by decide)) (lb rfl) rfl ?_
                  (try simp only [szL, aP, aN, aT, aZ, aS, aD, aF, aJ, aK, aM, aO])
                  (try simp only [aP, aN, aT, aZ, aS])
                  refine k_loads 1 (by simp only [aG, aH, aI]; rfl) (by kernel_rfl) (by kernel_rfl) (by kernel_rfl) (by kernel_rfl) (v := _) (by exact fun _ _ _ h => h) HC.out (by kernel_rfl) rfl rfl 1 rfl ((agT _ (by decide)).trans rfl) (szT _ (by decide)) (lb rfl) rfl ?_
                  (try simp only [szL, aP, aN, aT, aZ, aS, aD, aF, aJ, aK, aM, aO])
                  (try simp only [aP, aN, aT, aZ, aS])
                  refine k_one 2 (by simp only [aG, aH, aI]; rfl) (by kernel_rfl) ?_
                  ((with_reducible refine gSt rfl ?_); refine st2 HS.out rfl rfl rfl rfl (by repeat (first | exact AtI.here | apply AtI.there)) ?_; (first | refine sv (u := .agg (List.toArray _)) rfl ?_ | refine sv (u := .int _ _) rfl ?_ | refine sv (u := .slice _ _ _) rfl ?_ | refine sv (u := .bool _) rfl ?_ | refine sv (u := .pointer _) rfl ?_); refine sw (szT _ (by decide)) rfl (lb rfl) ?_; clear HS; intro w1 HS1; (simp only [Held.enc, Last.enc, segOf, aL, aZ, aS, putSeg] at HS1); have HS := Aside0.mk HS1; clear HS1; try simp only [aP, aN, aT, aZ, aS])
                  have HC1 := HS.out.pick [6, 7] rfl (by decide)
                  clear HC
                  have HC := Aside0.mk HC1
                  clear HC1
                  refine k_nil (.inr HC.out) ?_
                  (try simp only [aP, aN, aT, aZ, aS])
                  refine k_one 3 (by simp only [aG, aH, aI]; rfl) (by kernel_rfl) ?_
                  ((with_reducible refine gSt rfl ?_); refine st2 HS.out rfl rfl rfl rfl (by repeat (first | exact AtI.here | apply AtI.there)) ?_; (first | refine sv (u := .agg (List.toArray _)) rfl ?_ | refine sv (u := .int _ _) rfl ?_ | refine sv (u := .slice _ _ _) rfl ?_ | refine sv (u := .bool _) rfl ?_ | refine sv (u := .pointer _) rfl ?_); refine sw (szT _ (by decide)) rfl (lb rfl) ?_; clear HS; intro w1 HS1; (simp only [Held.enc, Last.enc, segOf, aL, aZ, aS, putSeg] at HS1); have HS := Aside0.mk HS1; clear HS1; try simp only [aP, aN, aT, aZ, aS])
                  have HC1 := HS.out.pick [6, 7] rfl (by decide)
                  clear HC
                  have HC := Aside0.mk HC1
                  clear HC1
                  refine k_nil (.inr HC.out) ?_
                  (try simp only [aP, aN, aT, aZ, aS])
                  refine k_any 4 (v := _) (by simp only [aG, aH, aI]; rfl) (by kernel_rfl) (by kernel_rfl) (by kernel_rfl) (by kernel_rfl) (by exact fun _ _ _ h => h) (.inr HC.out) (by kernel_rfl) (fun w => by (repeat (rename ∀ (_ : Act) (_ : World), _ => hK9; clear hK9)); go_simp; rfl) ?_
                  (try simp only [aP, aN, aT, aZ, aS])
                  refine k_done (by kernel_rfl) ?_ _
                  go_wp2
                  refine bodyPost_ret (results_list (rs := [.cell 6 27, .cell 7 74, .tmp 8]) rfl (by simp) (.cell _ _ _ _ _ rfl (HS.out.blk 2 rfl) Try.underlying27 rfl ((szT _ (by decide)).trans rfl) (.cell _ _ _ _ _ rfl (HS.out.blk 3 rfl) Try.underlying74 rfl ((szT _ (by decide)).trans rfl) (.tmp .nil)))) rfl ?_
                  have hres := HRS.out
                  subst hres
                  exact apPost_mk ⟨_, _, _, _, _, _, _, _, rfl, HC3.out, (HS.out.toRd (hl := Last.len) (h1 := Last.one) 8 rfl).pick [4, 8] rfl (by decide)⟩
    · have hcmd' : Rlo.cmdOk x = false := by simpa using hcmd
      have HCM := Aside0.mk (fun w (hx : x.ok w) => by
        have h := refCmd' x w hx
        rw [show (if Rlo.refCmd x then (0 : Int) else 40) = 40 by rw [hcm, hcmd']; rfl] at h
        exact h)
      have hres : r = ⟨0, 0, [], [], ⟨0, 0, 0⟩, 40⟩ := by rw [← HRES.out]; unfold applyR; rw [if_neg (by rw [hled]; decide), if_pos hcmd']
      subst hres
      go_enter Try.func61, Try.ntmps61
      go_upto_region 1 with (first | ((fail_if_success (have _ := bL)); ((with_reducible refine gB rfl ?_); refine bx HS.out rfl rfl ?_; (first | refine bv (v := .agg (List.toArray _)) rfl ?_ | refine bv (v := .int _ _) rfl ?_ | refine bv (v := .slice _ _ _) rfl ?_ | refine bv (v := .bool _) rfl ?_ | refine bv (v := .pointer _) rfl ?_); clear HS; intro bL w1 hbL HS1; (simp only [Held.enc, Last.enc, segOf, aL, aC, aE] at HS1); have HS := Aside0.mk HS1; clear HS1; try simp only [aP, aN, aT, aZ, aS])) | ((fail_if_success (have _ := bC)); ((with_reducible refine gB rfl ?_); refine bx HS.out rfl rfl ?_; (first | refine bv (v := .agg (List.toArray _)) rfl ?_ | refine bv (v := .int _ _) rfl ?_ | refine bv (v := .slice _ _ _) rfl ?_ | refine bv (v := .bool _) rfl ?_ | refine bv (v := .pointer _) rfl ?_); clear HS; intro bC w1 hbC HS1; (simp only [Held.enc, Last.enc, segOf, aL, aC, aE] at HS1); have HS := Aside0.mk HS1; clear HS1; try simp only [aP, aN, aT, aZ, aS])) | ((fail_if_success (have _ := g6)); ((with_reducible refine gA rfl ?_); refine sh_alloc HS.out rfl rfl (zeT _ (by decide)) ?_; clear HS; intro g6 w1 hg6 HS1; (simp only [Held.enc, Last.enc, zeF, segOf, aL, aC, aE] at HS1); have HS := Aside0.mk HS1; clear HS1; try simp only [aP, aN, aT, aZ, aS])) | ((fail_if_success (have _ := g7)); ((with_reducible refine gA rfl ?_); refine sh_alloc HS.out rfl rfl (zeT _ (by decide)) ?_; clear HS; intro g7 w1 hg7 HS1; (simp only [Held.enc, Last.enc, zeF, segOf, aL, aC, aE] at HS1); have HS := Aside0.mk HS1; clear HS1; try simp only [aP, aN, aT, aZ, aS])) | ((first | ((first | ((with_reducible refine gA rfl ?_); refine sh_alloc HS.out rfl rfl (zeT _ (by decide)) ?_) | ((with_reducible refine gB rfl ?_); refine bx HS.out rfl rfl ?_; first | refine bv (v := .agg (List.toArray _)) rfl ?_ | refine bv (v := .int _ _) rfl ?_ | refine bv (v := .slice _ _ _) rfl ?_ | refine bv (v := .bool _) rfl ?_ | refine bv (v := .pointer _) rfl ?_) | ((with_reducible refine gL rfl ?_); refine sh_lit HS.out rfl rfl (by go_simp; exact ⟨⟨rfl, rfl⟩, rfl⟩) ?_)); clear HS; intro g w1 hg HS1; (simp only [Held.enc, Last.enc, zeF, segOf, aL, aC, aE] at HS1); have HS := Aside0.mk HS1; clear HS1) | ((with_reducible refine gLd rfl ?_); refine ld2 HS.out rfl rfl rfl (by repeat (first | exact AtI.here | apply AtI.there)) ?_; (first | refine LdK.one ((agT _ (by decide)).trans rfl) rfl ?_ | (refine LdK.agg ((agT _ (by decide)).trans rfl) (szT _ (by decide)) (lb rfl) ?_; try simp only [szL, aP, aN, aT, aZ, aS, aD, aF, aJ, aK, aM, aO]))) | ((with_reducible refine gSt rfl ?_); refine st2 HS.out rfl rfl rfl rfl (by repeat (first | exact AtI.here | apply AtI.there)) ?_; (first | refine sv (u := .agg (List.toArray _)) rfl ?_ | refine sv (u := .int _ _) rfl ?_ | refine sv (u := .slice _ _ _) rfl ?_ | refine sv (u := .bool _) rfl ?_ | refine sv (u := .pointer _) rfl ?_); refine sw (szT _ (by decide)) rfl (lb rfl) ?_; clear HS; intro w1 HS1; (simp only [Held.enc, Last.enc, segOf, aL, aZ, aS, putSeg] at HS1); have HS := Aside0.mk HS1; clear HS1)); try simp only [aP, aN, aT, aZ, aS]))
      go_wp2_with (first | (go_at_call 85; (with_reducible refine (HCK.out _ (HR.out.sh HS.out) (HR'.out.sh HS.out)).mono ?_); rintro e w2 ⟨rfl, hb⟩;  have HS1 := HS.out.quiet hb; clear HS hb; have HS := Aside0.mk HS1; clear HS1) | (go_at_call 86; (with_reducible refine (HCM.out _ (HX.out.sh HS.out)).mono ?_); rintro e w2 ⟨rfl, hb⟩;  have HS1 := HS.out.quiet hb; clear HS hb; have HS := Aside0.mk HS1; clear HS1) | ((first | ((first | ((with_reducible refine gA rfl ?_); refine sh_alloc HS.out rfl rfl (zeT _ (by decide)) ?_) | ((with_reducible refine gB rfl ?_); refine bx HS.out rfl rfl ?_; first | refine bv (v := .agg (List.toArray _)) rfl ?_ | refine bv (v := .int _ _) rfl ?_ | refine bv (v := .slice _ _ _) rfl ?_ | refine bv (v := .bool _) rfl ?_ | refine bv (v := .pointer _) rfl ?_) | ((with_reducible refine gL rfl ?_); refine sh_lit HS.out rfl rfl (by go_simp; exact ⟨⟨rfl, rfl⟩, rfl⟩) ?_)); clear HS; intro g w1 hg HS1; (simp only [Held.enc, Last.enc, zeF, segOf, aL, aC, aE] at HS1); have HS := Aside0.mk HS1; clear HS1) | ((with_reducible refine gLd rfl ?_); refine ld2 HS.out rfl rfl rfl (by repeat (first | exact AtI.here | apply AtI.there)) ?_; (first | refine LdK.one ((agT _ (by decide)).trans rfl) rfl ?_ | (refine LdK.agg ((agT _ (by decide)).trans rfl) (szT _ (by decide)) (lb rfl) ?_; try simp only [szL, aP, aN, aT, aZ, aS, aD, aF, aJ, aK, aM, aO]))) | ((with_reducible refine gSt rfl ?_); refine st2 HS.out rfl rfl rfl rfl (by repeat (first | exact AtI.here | apply AtI.there)) ?_; (first | refine sv (u := .agg (List.toArray _)) rfl ?_ | refine sv (u := .int _ _) rfl ?_ | refine sv (u := .slice _ _ _) rfl ?_ | refine sv (u := .bool _) rfl ?_ | refine sv (u := .pointer _) rfl ?_); refine sw (szT _ (by decide)) rfl (lb rfl) ?_; clear HS; intro w1 HS1; (simp only [Held.enc, Last.enc, segOf, aL, aZ, aS, putSeg] at HS1); have HS := Aside0.mk HS1; clear HS1)); try simp only [aP, aN, aT, aZ, aS]))
      refine bodyPost_ret (results_list (rs := [.cell 6 27, .cell 7 74, .tmp 8]) rfl (by simp) (.cell _ _ _ _ _ rfl (HS.out.blk 2 rfl) Try.underlying27 rfl ((szT _ (by decide)).trans rfl) (.cell _ _ _ _ _ rfl (HS.out.blk 3 rfl) Try.underlying74 rfl ((szT _ (by decide)).trans rfl) (.tmp .nil)))) rfl ?_
      exact apPost_mk ⟨none, 0, 0, none, 0, 0, _, _, rfl, Nat.le_refl 0, twoRd (((HS.out.nil heldK 72).nil lastK 76).pick [4, 5] rfl (by decide))⟩

  · have hled' : isLed lim nxt l ml = false := by simpa using hled
    have HCK := Aside0.mk (fun w (hr : Rd Held.enc 5 w A n l) (hr' : Rd Last.enc 6 w B m ml) => by
      have h := refCk_any A B c d lim nxt l ml w hr hr' hc HSER.out
      rw [show (if isLed lim nxt l ml then (0 : Int) else 50) = 50 by rw [hled']; rfl] at h
      exact h)
    have hres : r = ⟨0, 0, [], [], ⟨0, 0, 0⟩, 50⟩ := by rw [← HRES.out]; unfold applyR; rw [if_pos hled']
    subst hres
    go_enter Try.func61, Try.ntmps61
    go_upto_region 1 with (first | ((fail_if_success (have _ := bL)); ((with_reducible refine gB rfl ?_); refine bx HS.out rfl rfl ?_; (first | refine bv (v := .agg (List.toArray _)) rfl ?_ | refine bv (v := .int _ _) rfl ?_ | refine bv (v := .slice _ _ _) rfl ?_ | refine bv (v := .bool _) rfl ?_ | refine bv (v := .pointer _) rfl ?_); clear HS; intro bL w1 hbL HS1; (simp only [Held.enc, Last.enc, segOf, aL, aC, aE] at HS1); have HS := Aside0.mk HS1; clear HS1; try simp only [aP, aN, aT, aZ, aS])) | ((fail_if_success (have _ := bC)); ((with_reducible refine gB rfl ?_); refine bx HS.out rfl rfl ?_; (first | refine bv (v := .agg (List.toArray _)) rfl ?_ | refine bv (v := .int _ _) rfl ?_ | refine bv (v := .slice _ _ _) rfl ?_ | refine bv (v := .bool _) rfl ?_ | refine bv (v := .pointer _) rfl ?_); clear HS; intro bC w1 hbC HS1; (simp only [Held.enc, Last.enc, segOf, aL, aC, aE] at HS1); have HS := Aside0.mk HS1; clear HS1; try simp only [aP, aN, aT, aZ, aS])) | ((fail_if_success (have _ := g6)); ((with_reducible refine gA rfl ?_); refine sh_alloc HS.out rfl rfl (zeT _ (by decide)) ?_; clear HS; intro g6 w1 hg6 HS1; (simp only [Held.enc, Last.enc, zeF, segOf, aL, aC, aE] at HS1); have HS := Aside0.mk HS1; clear HS1; try simp only [aP, aN, aT, aZ, aS])) | ((fail_if_success (have _ := g7)); ((with_reducible refine gA rfl ?_); refine sh_alloc HS.out rfl rfl (zeT _ (by decide)) ?_; clear HS; intro g7 w1 hg7 HS1; (simp only [Held.enc, Last.enc, zeF, segOf, aL, aC, aE] at HS1); have HS := Aside0.mk HS1; clear HS1; try simp only [aP, aN, aT, aZ, aS])) | ((first | ((first | ((with_reducible refine gA rfl ?_); refine sh_alloc HS.out rfl rfl (zeT _ (by decide)) ?_) | ((with_reducible refine gB rfl ?_); refine bx HS.out rfl rfl ?_; first | refine bv (v := .agg (List.toArray _)) rfl ?_ | refine bv (v := .int _ _) rfl ?_ | refine bv (v := .slice _ _ _) rfl ?_ | refine bv (v := .bool _) rfl ?_ | refine bv (v := .pointer _) rfl ?_) | ((with_reducible refine gL rfl ?_); refine sh_lit HS.out rfl rfl (by go_simp; exact ⟨⟨rfl, rfl⟩, rfl⟩) ?_)); clear HS; intro g w1 hg HS1; (simp only [Held.enc, Last.enc, zeF, segOf, aL, aC, aE] at HS1); have HS := Aside0.mk HS1; clear HS1) | ((with_reducible refine gLd rfl ?_); refine ld2 HS.out rfl rfl rfl (by repeat (first | exact AtI.here | apply AtI.there)) ?_; (first | refine LdK.one ((agT _ (by decide)).trans rfl) rfl ?_ | (refine LdK.agg ((agT _ (by decide)).trans rfl) (szT _ (by decide)) (lb rfl) ?_; try simp only [szL, aP, aN, aT, aZ, aS, aD, aF, aJ, aK, aM, aO]))) | ((with_reducible refine gSt rfl ?_); refine st2 HS.out rfl rfl rfl rfl (by repeat (first | exact AtI.here | apply AtI.there)) ?_; (first | refine sv (u := .agg (List.toArray _)) rfl ?_ | refine sv (u := .int _ _) rfl ?_ | refine sv (u := .slice _ _ _) rfl ?_ | refine sv (u := .bool _) rfl ?_ | refine sv (u := .pointer _) rfl ?_); refine sw (szT _ (by decide)) rfl (lb rfl) ?_; clear HS; intro w1 HS1; (simp only [Held.enc, Last.enc, segOf, aL, aZ, aS, putSeg] at HS1); have HS := Aside0.mk HS1; clear HS1)); try simp only [aP, aN, aT, aZ, aS]))
    go_wp2_with (first | (go_at_call 85; (with_reducible refine (HCK.out _ (HR.out.sh HS.out) (HR'.out.sh HS.out)).mono ?_); rintro e w2 ⟨rfl, hb⟩;  have HS1 := HS.out.quiet hb; clear HS hb; have HS := Aside0.mk HS1; clear HS1) | (go_at_call 86; (with_reducible refine (HCM.out _ (HX.out.sh HS.out)).mono ?_); rintro e w2 ⟨rfl, hb⟩;  have HS1 := HS.out.quiet hb; clear HS hb; have HS := Aside0.mk HS1; clear HS1) | ((first | ((first | ((with_reducible refine gA rfl ?_); refine sh_alloc HS.out rfl rfl (zeT _ (by decide)) ?_) | ((with_reducible refine gB rfl ?_); refine bx HS.out rfl rfl ?_; first | refine bv (v := .agg (List.toArray _)) rfl ?_ | refine bv (v := .int _ _) rfl ?_ | refine bv (v := .slice _ _ _) rfl ?_ | refine bv (v := .bool _) rfl ?_ | refine bv (v := .pointer _) rfl ?_) | ((with_reducible refine gL rfl ?_); refine sh_lit HS.out rfl rfl (by go_simp; exact ⟨⟨rfl, rfl⟩, rfl⟩) ?_)); clear HS; intro g w1 hg HS1; (simp only [Held.enc, Last.enc, zeF, segOf, aL, aC, aE] at HS1); have HS := Aside0.mk HS1; clear HS1) | ((with_reducible refine gLd rfl ?_); refine ld2 HS.out rfl rfl rfl (by repeat (first | exact AtI.here | apply AtI.there)) ?_; (first | refine LdK.one ((agT _ (by decide)).trans rfl) rfl ?_ | (refine LdK.agg ((agT _ (by decide)).trans rfl) (szT _ (by decide)) (lb rfl) ?_; try simp only [szL, aP, aN, aT, aZ, aS, aD, aF, aJ, aK, aM, aO]))) | ((with_reducible refine gSt rfl ?_); refine st2 HS.out rfl rfl rfl rfl (by repeat (first | exact AtI.here | apply AtI.there)) ?_; (first | refine sv (u := .agg (List.toArray _)) rfl ?_ | refine sv (u := .int _ _) rfl ?_ | refine sv (u := .slice _ _ _) rfl ?_ | refine sv (u := .bool _) rfl ?_ | refine sv (u := .pointer _) rfl ?_); refine sw (szT _ (by decide)) rfl (lb rfl) ?_; clear HS; intro w1 HS1; (simp only [Held.enc, Last.enc, segOf, aL, aZ, aS, putSeg] at HS1); have HS := Aside0.mk HS1; clear HS1)); try simp only [aP, aN, aT, aZ, aS]))
    refine bodyPost_ret (results_list (rs := [.cell 6 27, .cell 7 74, .tmp 8]) rfl (by simp) (.cell _ _ _ _ _ rfl (HS.out.blk 2 rfl) Try.underlying27 rfl ((szT _ (by decide)).trans rfl) (.cell _ _ _ _ _ rfl (HS.out.blk 3 rfl) Try.underlying74 rfl ((szT _ (by decide)).trans rfl) (.tmp .nil)))) rfl ?_
    exact apPost_mk ⟨none, 0, 0, none, 0, 0, _, _, rfl, Nat.le_refl 0, twoRd (((HS.out.nil heldK 72).nil lastK 76).pick [4, 5] rfl (by decide))⟩

end Go.Proofs.Ytekjihmepdhmeaa.Led
