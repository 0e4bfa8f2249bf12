import Derived.Test.YtekjihmepdhmeaaTyq
import Derived.WalkKit
import Derived.Outline
import Derived.Test.YtekjihmepdhmeaaSlXq
section
/- Lemmas towards the law: what of the text Led0 it needs. -/
namespace Go.Proofs.Ytekjihmepdhmeaa.Led
open Go.RowKit Go.Proofs.YtekjihmepdhmeaaW.PrintWords Go.Proofs.Ytekjihmepdhmeaa.Sl
structure Held where
  token : Int
  node : Int
  boot : Int
  serial : Int
  stamp : Int
  deriving DecidableEq, Inhabited
def Held.enc (h : Held) : List Value := [.int .i64 h.token, .int .i64 h.node, .int .u64 h.boot, .int .u64 h.serial, .int .u64 h.stamp]
theorem Held.len (h : Held) : h.enc.length = 5 := rfl
theorem Held.one (h : Held) : h.enc.all (·.oneCell') = true := rfl
def heldK : Kd Held := flk Held.enc 5 Held.len Held.one
structure Ans where
  code : Int
  token : Int
  serial : Int
  deriving DecidableEq, Inhabited
structure Last where
  node : Int
  boot : Int
  seq : Int
  ans : Ans
  deriving DecidableEq, Inhabited
def Last.enc (h : Last) : List Value := [.int .i64 h.node, .int .u64 h.boot, .int .u64 h.seq, .int .i64 h.ans.code, .int .i64 h.ans.token, .int .u64 h.ans.serial]
theorem Last.len (h : Last) : h.enc.length = 6 := rfl
theorem Last.one (h : Last) : h.enc.all (·.oneCell') = true := rfl
def lastK : Kd Last := flk Last.enc 6 Last.len Last.one
theorem take_succ_getD {α : Type} {l : List α} {k : Nat} (z : α) (h : k < l.length) : l.take (k + 1) = l.take k ++ [l.getD k z] := by
  rw [List.take_succ_eq_append_getElem h]
  simp [List.getD_eq_getElem?_getD, List.getElem?_eq_getElem h]
end Go.Proofs.Ytekjihmepdhmeaa.Led

end
section
/- Lemmas towards the law: what of the text Lec1 it needs. -/
namespace Go.Proofs.Ytekjihmepdhmeaa.Led
open Go.RowKit Go.Proofs.YtekjihmepdhmeaaW.PrintWords Go.Proofs.Ytekjihmepdhmeaa.Sl
set_option linter.unusedVariables false
set_option linter.unusedSimpArgs false
theorem u64_pred {s : Int} (h0 : 0 ≤ s) (h1 : s < 18446744073709551616) : IntKind.u64.wrap (s - 1) = if s = 0 then 18446744073709551615 else s - 1 := by
  by_cases h : s = 0
  · subst h; rfl
  · rw [if_neg h]
    simp [IntKind.wrap, IntKind.bits, IntKind.signed]
    omega
def isNode (n : Int) : Bool := decide (1 ≤ n) && decide (n ≤ 7)
def okAns (lim nxt : Int) (a : Ans) : Bool :=
  if a.code = 1 then decide (1 ≤ a.token) && decide (a.token ≤ lim) && decide (1 ≤ a.serial) && decide (a.serial < nxt)
  else decide (1 < a.code) && decide (a.code < 6) && decide (a.token = 0) && decide (a.serial = 0)
set_option maxHeartbeats 400000 in
theorem node_any (n : Int) (w : World) :
    Calls Try.prog 95 #[.int .i64 n] w (fun e w' => e = .returned (.bool (isNode n)) ∧ w = w') := by
  generalize hb : isNode n = b
  have HB := Aside0.mk hb
  clear hb
  go_enter Try.func95, Try.ntmps95
  go_wp2_with (first | ((with_reducible refine gGd rfl ?_); refine gsplit rfl rfl ?_ ?_ <;> (intro h; (fail_if_success guard_hyp h : true = true); (fail_if_success guard_hyp h : false = false); (fail_if_success guard_hyp h : true = false); (fail_if_success guard_hyp h : false = true); rewrite [h]; (try simp only [decide_eq_true_eq, decide_eq_false_iff_not, Bool.not_eq_true', Bool.not_eq_false', Int.not_lt, Int.not_le] at h);  (try first | contradiction | go_big_false); (try with_reducible refine WP.mk ?_))))
  all_goals
    go_ret
    exact ⟨by rw [← HB.out]; simp [isNode]; try omega, rfl⟩
set_option maxHeartbeats 400000 in
set_option maxRecDepth 100000 in
theorem answer_any (lim nxt : Int) (v2 v3 : Value) (x : Ans) (w : World) (hn : 1 ≤ nxt) (hn2 : nxt < 18446744073709551616) (hs : 0 ≤ x.serial) (hs2 : x.serial < 18446744073709551616) :
    Calls Try.prog 96 #[.agg #[.int .i64 lim, .int .u64 nxt, v2, v3], .agg #[.int .i64 x.code, .int .i64 x.token, .int .u64 x.serial]] w (fun e w' => e = .returned (.bool (okAns lim nxt x)) ∧ Below w.heap.size w w') := by
  generalize hb : okAns lim nxt x = b
  have HB := Aside0.mk hb
  clear hb
  have HS := Aside0.mk (SH.start w)
  go_enter Try.func96, Try.ntmps96
  go_wp2_with (first | ((with_reducible refine gGd rfl ?_); refine gsplit rfl rfl ?_ ?_ <;> (intro h; (fail_if_success guard_hyp h : true = true); (fail_if_success guard_hyp h : false = false); (fail_if_success guard_hyp h : true = false); (fail_if_success guard_hyp h : false = true); rewrite [h]; (try simp only [decide_eq_true_eq, decide_eq_false_iff_not, Bool.not_eq_true', Bool.not_eq_false', Int.not_lt, Int.not_le] at h);  (try first | contradiction | go_big_false); (try with_reducible refine WP.mk ?_))) | ((first | ((first | ((with_reducible refine gA rfl ?_); refine sh_alloc HS.out rfl rfl (zeT _ (by decide)) ?_) | ((with_reducible refine gB rfl ?_); refine bx HS.out rfl rfl ?_; first | refine bv (v := .agg (List.toArray _)) rfl ?_ | refine bv (v := .int _ _) rfl ?_ | refine bv (v := .slice _ _ _) rfl ?_ | refine bv (v := .bool _) rfl ?_ | refine bv (v := .pointer _) rfl ?_) | ((with_reducible refine gL rfl ?_); refine sh_lit HS.out rfl rfl (by go_simp; exact ⟨⟨rfl, rfl⟩, rfl⟩) ?_)); clear HS; intro g w1 hg HS1; (simp only [Held.enc, zeF, segOf, aL, aC, aE] at HS1); have HS := Aside0.mk HS1; clear HS1) | ((with_reducible refine gLd rfl ?_); refine ld2 HS.out rfl rfl rfl (by repeat (first | exact AtI.here | apply AtI.there)) ?_; (first | refine LdK.one ((agT _ (by decide)).trans rfl) rfl ?_ | (refine LdK.agg ((agT _ (by decide)).trans rfl) (szT _ (by decide)) (lb rfl) ?_; try simp only [szL, aP, aN, aT, aZ, aS, aD, aF, aJ, aK, aM, aO]))) | ((with_reducible refine gSt rfl ?_); refine st2 HS.out rfl rfl rfl rfl (by repeat (first | exact AtI.here | apply AtI.there)) ?_; (first | refine sv (u := .agg (List.toArray _)) rfl ?_ | refine sv (u := .int _ _) rfl ?_ | refine sv (u := .slice _ _ _) rfl ?_ | refine sv (u := .bool _) rfl ?_ | refine sv (u := .pointer _) rfl ?_); refine sw (szT _ (by decide)) rfl (lb rfl) ?_; clear HS; intro w1 HS1; (simp only [Held.enc, segOf, aL, aZ, aS, putSeg] at HS1); have HS := Aside0.mk HS1; clear HS1)); try simp only [aP, aN, aT, aZ, aS]))
  all_goals
    go_ret
    refine ⟨?_, HS.out.below⟩
    rw [← HB.out]
    refine congrArg (fun b => Ending.returned (Value.bool b)) ?_
    clear HS HB
    have hw := u64_pred hs hs2
    unfold okAns
    grind
end Go.Proofs.Ytekjihmepdhmeaa.Led

end
