/- Lemmas towards the law: what of the text Jur3 it needs. -/
import Derived.Test.YtkggchahhpmpbaaMapIq
import Derived.Test.YtkggchahhpmpbaaJue1q
namespace Go.Proofs.Ytkggchahhpmpbaa.Jue
open Go.RowKit Go.Proofs.YtkggchahhpmpbaaW.PrintWords Go.Proofs.Ytkggchahhpmpbaa.Sl Go.Shelf
set_option linter.unusedVariables false
set_option linter.unusedSimpArgs false
attribute [local go_sem] Oper.semAt_some
/-! The iterator over a map's keys, and what collects them: the code. -/
def cnAgg (x : Cn) : Value := .agg #[.int .i64 x.1, .int .i64 x.2]
theorem keys_any (gc : Nat) (w : World) : Calls Try.prog 36 #[.map (some gc)] w (fun e w' => ∃ gb, e = .returned (.func (.func 46) #[] #[.pointer (some ⟨gb, 0, none⟩)]) ∧ SH w w' [blk gb [.map (some gc)] 77]) := by
  have hmf : ∀ (fn : Fn) (first cap : Array Value) (w : World), (Instr.makeFunc fn first cap).run Try.prog w = .ok (.func fn first cap) w := fun _ _ _ _ => rfl
  have HS := Aside0.mk (SH.start w)
  go_enter Try.func36, Try.ntmps36
  go_wp2_with (first | ((fail_if_success (have _ := gb)); ((with_reducible refine gB rfl ?_); refine bx HS.out rfl rfl ?_; (first | refine bv (v := .agg (List.toArray _)) rfl ?_ | refine bv (v := .int _ _) rfl ?_ | refine bv (v := .slice _ _ _) rfl ?_ | refine bv (v := .bool _) rfl ?_ | refine bv (v := .pointer _) rfl ?_ | refine bv (v := .string _) rfl ?_ | refine bv (v := .map _) rfl ?_ | refine bv (v := .func _ _ _) rfl ?_); clear HS; intro gb w1 hgb HS1; (simp only [segOf, aL, aC, aE] at HS1); have HS := Aside0.mk HS1; clear HS1; try simp only [aP, aN, aT, aZ, aS])) | ((first | ((first | ((with_reducible refine gA rfl ?_); refine sh_alloc HS.out rfl rfl (zeT _ (by decide)) ?_) | ((with_reducible refine gB rfl ?_); refine bx HS.out rfl rfl ?_; first | refine bv (v := .agg (List.toArray _)) rfl ?_ | refine bv (v := .int _ _) rfl ?_ | refine bv (v := .slice _ _ _) rfl ?_ | refine bv (v := .bool _) rfl ?_ | refine bv (v := .pointer _) rfl ?_ | refine bv (v := .string _) rfl ?_ | refine bv (v := .map _) rfl ?_ | refine bv (v := .func _ _ _) rfl ?_) | ((with_reducible refine gL rfl ?_); refine sh_lit HS.out rfl rfl (by go_simp; exact ⟨⟨rfl, rfl⟩, rfl⟩) ?_)); clear HS; intro g w1 hg HS1; (simp only [zeF, segOf, aL, aC, aE] at HS1); have HS := Aside0.mk HS1; clear HS1)); try simp only [aP, aN, aT, aZ, aS]))
  go_ret
  exact ⟨gb, rfl, HS.out⟩
set_option maxRecDepth 100000 in
set_option maxHeartbeats 2000000 in
theorem keys1_in (F : Fence) (n : Nat) (hF : F.fn 46) (hro : F.round = none) (hn : 1 ≤ n) (l gb gc : Nat) (C : CM) (J Jx : List Cn → World → Prop)
    (hY : ∀ pre x W, J pre W → pre.length < C.length → YieldAt F (n - 1) Try.prog l #[cnAgg x] W fun e W' =>
      (e = .returned (.bool true) ∧ J (pre ++ [x]) W' ∧ KeepsWalks W W') ∨ (e = .returned (.bool false) ∧ Jx (pre ++ [x]) W'))
    (W : World) (hJ : AbidesFrom W.heap.size J) (hb : W.cell? ⟨gb, 0, none⟩ = some (.map (some gc))) (hok : (mpC gc C).ok W) (h0 : J [] W) :
    CallsIn F n Try.prog 46 #[.func (.yield l) #[] #[], .pointer (some ⟨gb, 0, none⟩)] W fun e W' => (∃ v, e = .returned v) ∧
      ((∃ xs : List Cn, xs.Perm (keysOf C) ∧ J xs W') ∨ (∃ pre : List Cn, True ∧ Jx pre W')) := by
  refine callsIn_of_wp Try.func46 rfl hF ?_ hro
  simp only [Try.ntmps46, List.size_toArray, List.length_cons, List.length_nil, Nat.reduceAdd, Nat.reduceSub, Array.replicate_succ, Array.replicate_zero, List.push_toArray, List.append_toArray, List.nil_append, List.cons_append]
  gi_wp2_with (first
    | (gi_at_range; refine rangeIn rfl _ 77 rfl rfl hok Try.underlying77 ?_; intro w0 hrg0 hg0 hs0)
    | gi_in)
  go_frame
  gi_loopw [3] (fun _ wr => ∃ (left pre : List Cn), (mpr gc W.heap.size pairKey (Value.int .i64) (fun _ => True) C left).ok wr ∧ W.heap.size < wr.heap.size ∧ (pre ++ left).Perm (keysOf C) ∧ J pre wr)
    (fun _ wr => leftN wr gc W.heap.size)
  case atStart =>
    exact ⟨_, [], hrg0, by omega, by simp, hJ [] W w0 none h0 hg0 (fun r e => by cases e)⟩
  case round =>
    obtain ⟨left, pre, hrg, hsz, hC, hJs⟩ := hrel
    gi_wp2_with (first
      | (gi_at_next; refine nextIn rfl _ rfl rfl hrg pairKey_inj ?_ ?_)
      | gi_in)
    · intro hc0
      subst hc0
      gi_wp2
      go_end0
      rw [List.append_nil] at hC
      exact ⟨⟨_, rfl⟩, .inl ⟨pre, hC, hJs⟩⟩
    · intro k1 k2 v l1 l2 w2 hl hv hrg2 hg2 hs2 hen
      obtain ⟨k, hk9⟩ : ∃ k : Cn, (k1, k2) = k := ⟨_, rfl⟩
      have e1 : k1 = k.1 := congrArg Prod.fst hk9
      have e2 : k2 = k.2 := congrArg Prod.snd hk9
      subst e1 e2
      clear hk9
      have hrg2 : (mpr gc W.heap.size pairKey (Value.int .i64) (fun _ => True) C (l1 ++ l2)).ok w2 := hrg2
      subst hl
      have hJ2 : J pre w2 := hJ pre wr w2 (some W.heap.size) hJs hg2 (fun r e => by cases e; exact ⟨Nat.le_refl _, mpr_walk hrg⟩)
      have hrg3 := mpr_alloc hrg2 (.cells #[.int .i64 k.1, .int .i64 k.2] 56)
      have hlen : pre.length < C.length := by
        have := hC.length_eq
        simp [keysOf] at this
        omega
      have hJ3 : J pre (w2.alloc (.cells #[.int .i64 k.1, .int .i64 k.2] 56)) := hJ pre w2 _ none hJ2 (World.grownBy_alloc w2 _ none) (fun r e => by cases e)
      obtain ⟨fn, tmps, assign, body, hy, hR⟩ := hY pre k _ hJ3 hlen
      unfold cnAgg at hy
      unfold pairKey at hen ⊢
      clear hs2
      gi_wp2
      refine hR.mono ?_
      rintro e W3 (⟨rfl, hJ4, hk4⟩ | ⟨rfl, hJx4⟩)
      · gi_wp2
        have hrg4 := mpr_keeps hrg3 hk4
        go_roundw
        case rel => exact ⟨_, pre ++ [k], hrg4, by have := hk4.size; simp at this; have := hg2.size; omega, (by rw [List.append_assoc, List.singleton_append]; exact (List.Perm.append_left pre List.perm_middle.symm).trans hC), hJ4⟩
        case measure => rw [leftN_eq hrg4, leftN_eq hrg]; simp
      · gi_wp2
        refine bodyPost_ret (results_none rfl _ _ _) rfl ?_
        exact ⟨⟨_, rfl⟩, .inr ⟨pre ++ [k], trivial, hJx4⟩⟩
theorem keys1_stops (n : Nat) (hn : 1 ≤ n) (gb gc : Nat) (C : CM) (w : World) (hgb : gb < w.heap.size) (hb : w.cell? ⟨gb, 0, none⟩ = some (.map (some gc))) (hok : (mpC gc C).ok w) :
    SeqStopsK Fence.wide n Try.prog 46 #[.pointer (some ⟨gb, 0, none⟩)] (fun x : Cn => #[cnAgg x]) KeepsWalks (fun xs => xs.Perm (keysOf C)) (fun _ => True) C.length w := fun l J Jx W hW hJ _ hY h0 =>
  keys1_in Fence.wide n trivial rfl hn l gb gc C J Jx hY W hJ ((hW.cell (p := ⟨gb, 0, none⟩) hgb).trans hb) (mp_below' hok hW) h0
end Go.Proofs.Ytkggchahhpmpbaa.Jue
