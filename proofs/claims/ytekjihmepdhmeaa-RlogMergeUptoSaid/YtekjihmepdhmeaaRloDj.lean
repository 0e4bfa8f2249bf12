import Derived.Test.YtekjihmepdhmeaaRloCj
import Derived.Test.YtekjihmepdhmeaaLed0j
import Derived.Test.YtekjihmepdhmeaaLec4j
import Derived.Laws.Rows
import Derived.Test.YtekjihmepdhmeaaSlXq
import Derived.Deep.DeepCutAuto
section
/- Lemmas towards the law: what of the text RloD it needs. -/
namespace Go.Proofs.Ytekjihmepdhmeaa.Rlo
open Go.RowKit Go.Proofs.YtekjihmepdhmeaaW.PrintWords Go.Proofs.Ytekjihmepdhmeaa.Sl
set_option linter.unusedVariables false
set_option linter.unusedSimpArgs false
theorem addf (a : Addr) (n j : Nat) (hj : j ≠ 0) : Value.pointer (some { block := (a.add n).block, off := (a.add n).off + j }) = Value.pointer (some (a.add (n + j))) := by
  unfold Addr.add
  by_cases h : n = 0
  · subst h
    simp [hj]
  · rw [if_neg h, if_neg (by omega)]
    simp [Nat.add_assoc]
set_option maxHeartbeats 400000 in
theorem clone_any (A : Option Addr) (c : Nat) (l : List Int) (w : World) {M : Nat} (hr : Rd (ints .i64) 1 w A M l) (hlim : M * 8 ≤ 140737488351232) :
    Calls Try.prog 44 #[.slice A M c] w (fun e w' => ∃ A1 c1 S, e = .returned (.slice A1 l.length c1) ∧ SH w w' [row (intK .i64) 3 (.slice A1 l.length c1) l S]) := by
  obtain rfl := hr.len.1
  have HR := Aside0.mk hr
  have hm := hr.len.2
  clear hr
  cases A with
  | none =>
    have h0 : l = [] := by
      cases l with
      | nil => rfl
      | cons x l => obtain ⟨ad, h⟩ := HR.out.addr (by simp); cases h
    subst h0
    have heq : ∀ w, (binOp .eql 23 (.slice none 0 c) (.slice none 0 0)).run Try.prog w = .ok (.bool true) w := fun w => Go.Lib.run_eql_slice_nil w 23 3 none 0 c 0 0 Try.underlying23
    have HS := Aside0.mk ((SH.start w).nil (intK .i64) 3)
    go_enter Try.func44, Try.ntmps44
    go_wp2
    go_ret
    exact ⟨_, _, _, rfl, HS.out⟩
  | some ad =>
    have heq : ∀ w, (binOp .eql 23 (.slice (some ad) l.length c) (.slice none 0 0)).run Try.prog w = .ok (.bool false) w := fun w => Go.Lib.run_eql_slice_nil w 23 3 (some ad) l.length c 0 0 Try.underlying23
    have HS := Aside0.mk (SH.start w)
    go_enter Try.func44, Try.ntmps44
    go_wp2_with (first | ((with_reducible refine gC (b := .append) rfl ?_); refine sh_append_blk (ints_len .i64) (ints_one .i64) HS.out rfl rfl 0 [] rfl rfl rfl rfl (HR.out.sh HS.out) Try.underlying23 infoInt rfl (by decide) (by decide) (by simp; omega) ?_; clear HS; intro v1 w1 S1 HS1; (simp only [aZ, aS] at HS1); have HS := Aside0.mk HS1; clear HS1; try simp only [aP, aN, aT, aZ, aS]; obtain ⟨A1, c1, rfl, hc1, _⟩ := row_rd HS.out 0 rfl) | ((first | ((first | ((with_reducible refine gA rfl ?_); refine sh_alloc HS.out rfl rfl (zeT _ (by decide)) ?_) | ((with_reducible refine gB rfl ?_); refine bx HS.out rfl rfl ?_; first | refine bv (v := .agg (List.toArray _)) rfl ?_ | refine bv (v := .int _ _) rfl ?_ | refine bv (v := .slice _ _ _) rfl ?_ | refine bv (v := .bool _) rfl ?_ | refine bv (v := .pointer _) rfl ?_) | ((with_reducible refine gL rfl ?_); refine sh_lit HS.out rfl rfl (by go_simp; exact ⟨⟨rfl, rfl⟩, rfl⟩) ?_)); clear HS; intro g w1 hg HS1; (simp only [Ent.enc, Led.Held.enc, Led.Last.enc, zeF, segOf, aL, aC, aE] at HS1); have HS := Aside0.mk HS1; clear HS1)); try simp only [aP, aN, aT, aZ, aS]))
    go_ret
    exact ⟨_, _, _, rfl, HS.out⟩
def confB (si u : Int) (l : List Ent) (z : Int × List Int) : Nat → Int × List Int
  | 0 => z
  | k + 1 => if si + k + 1 ≤ u ∧ (l.getD k default).kind = 2 then (si + k + 1, (l.getD k default).nodes) else confB si u l z k
def confG (d : Hrd) (u : Int) : Int × List Int := if hardOk d then confB d.s.si u d.log (d.s.si, d.s.nodes) d.log.length else (0, [])
end Go.Proofs.Ytekjihmepdhmeaa.Rlo

end
section
/- Lemmas towards the law: what of the text LedI it needs. -/
namespace Go.Proofs.Ytekjihmepdhmeaa.Led
open Go.RowKit Go.Proofs.YtekjihmepdhmeaaW.PrintWords Go.Proofs.Ytekjihmepdhmeaa.Sl
theorem infoHeld : (Try.prog.info? 72).map (fun i => (i.zero, i.size, i.bytes)) = some (some (.agg #[.int .i64 0, .int .i64 0, .int .u64 0, .int .u64 0, .int .u64 0]), 5, 40) := by kernel_rfl
end Go.Proofs.Ytekjihmepdhmeaa.Led

end
section
/- Lemmas towards the law: what of the text Lec5 it needs. -/
namespace Go.Proofs.Ytekjihmepdhmeaa.Led
open Go.RowKit Go.Proofs.YtekjihmepdhmeaaW.PrintWords Go.Proofs.Ytekjihmepdhmeaa.Sl
set_option linter.unusedVariables false
set_option linter.unusedSimpArgs false
theorem infoLast : (Try.prog.info? 76).map (fun i => (i.zero, i.size, i.bytes)) = some (some (.agg #[.int .i64 0, .int .u64 0, .int .u64 0, .int .i64 0, .int .i64 0, .int .u64 0]), 6, 48) := by kernel_rfl
end Go.Proofs.Ytekjihmepdhmeaa.Led

end
section
/- Lemmas towards the law: what of the text LeB it needs. -/
namespace Go.Proofs.Ytekjihmepdhmeaa.Led
open Go.RowKit Go.Proofs.YtekjihmepdhmeaaW.PrintWords Go.Proofs.Ytekjihmepdhmeaa.Sl
set_option linter.unusedVariables false
set_option linter.unusedSimpArgs false
theorem flat_take {α : Type} {enc : α → List Value} {sz : Nat} (hl : ∀ x, (enc x).length = sz) (xs : List α) (i : Nat) (hi : i ≤ xs.length) : ((xs.take i).flatMap enc).length = i * sz := by
  rw [length_flat hl, List.length_take, Nat.min_eq_left hi]
set_option maxRecDepth 100000 in
theorem cloneHeld_any (A : Option Addr) (n c : Nat) (l : List Held) (w : World) (hr : Rd Held.enc 5 w A n l) (hn : n ≤ 1000000) :
    Calls Try.prog 57 #[.slice A n c] w (fun e w' => ∃ v S, e = .returned v ∧ SH w w' [row heldK 72 v l S]) := by
  have HR := Aside0.mk hr
  have HS := Aside0.mk (SH.start w)
  cases A with
  | none =>
    have h0 : n = 0 := by
      rcases Nat.eq_zero_or_pos n with h | h
      · exact h
      · obtain ⟨ad, he⟩ := hr.addr h; cases he
    have hl : l = [] := List.length_eq_zero_iff.1 (hr.len.1.trans h0)
    subst h0 hl
    clear hr
    have HNIL := Aside0.mk (fun w => Go.Lib.run_eql_slice_nil (P := Try.prog) w 24 _ none 0 c 0 0 Try.underlying24)
    go_enter Try.func57, Try.ntmps57
    go_wp2_with (simp only [HNIL.out])
    go_ret
    first | exact ⟨_, _, rfl, HS.out.nil heldK 72⟩ | exact ⟨_, rfl, _, HS.out.nil heldK 72⟩
  | some ad =>
    clear hr
    have HNIL := Aside0.mk (fun w => Go.Lib.run_eql_slice_nil (P := Try.prog) w 24 _ (some ad) n c 0 0 Try.underlying24)
    go_enter Try.func57, Try.ntmps57
    go_wp2_with (first | (simp only [HNIL.out]) | ((with_reducible refine gC (b := .append) rfl ?_); refine sh_append_blk Held.len Held.one HS.out rfl rfl 0 ([] : List Held) rfl rfl rfl rfl (HR.out.sh HS.out) Try.underlying24 infoHeld rfl (by decide) (by decide) (by simp only [List.length_nil]; omega) ?_; clear HS; intro v1 w1 S1 HS1; (simp only [aZ, aS] at HS1); have HS := Aside0.mk HS1; clear HS1; try simp only [aP, aN, aT, aZ, aS]; obtain ⟨A1, c1, rfl, hc1, _⟩ := row_rd HS.out 0 rfl) | ((first | ((first | ((with_reducible refine gA rfl ?_); refine sh_alloc HS.out rfl rfl (zeT _ (by decide)) ?_) | ((with_reducible refine gB rfl ?_); refine bx HS.out rfl rfl ?_; first | refine bv (v := .agg (List.toArray _)) rfl ?_ | refine bv (v := .int _ _) rfl ?_ | refine bv (v := .slice _ _ _) rfl ?_ | refine bv (v := .bool _) rfl ?_ | refine bv (v := .pointer _) rfl ?_) | ((with_reducible refine gL rfl ?_); refine sh_lit HS.out rfl rfl (by go_simp; exact ⟨⟨rfl, rfl⟩, rfl⟩) ?_)); clear HS; intro g w1 hg HS1; (simp only [Held.enc, Last.enc, zeF, segOf, aL, aC, aE] at HS1); have HS := Aside0.mk HS1; clear HS1)); try simp only [aP, aN, aT, aZ, aS]))
    go_ret
    exact ⟨_, _, rfl, HS.out⟩
set_option maxRecDepth 100000 in
theorem cloneLast_any (A : Option Addr) (n c : Nat) (l : List Last) (w : World) (hr : Rd Last.enc 6 w A n l) (hn : n ≤ 1000000) :
    Calls Try.prog 58 #[.slice A n c] w (fun e w' => ∃ v S, e = .returned v ∧ SH w w' [row lastK 76 v l S]) := by
  have HR := Aside0.mk hr
  have HS := Aside0.mk (SH.start w)
  cases A with
  | none =>
    have h0 : n = 0 := by
      rcases Nat.eq_zero_or_pos n with h | h
      · exact h
      · obtain ⟨ad, he⟩ := hr.addr h; cases he
    have hl : l = [] := List.length_eq_zero_iff.1 (hr.len.1.trans h0)
    subst h0 hl
    clear hr
    have HNIL := Aside0.mk (fun w => Go.Lib.run_eql_slice_nil (P := Try.prog) w 25 _ none 0 c 0 0 Try.underlying25)
    go_enter Try.func58, Try.ntmps58
    go_wp2_with (simp only [HNIL.out])
    go_ret
    first | exact ⟨_, _, rfl, HS.out.nil lastK 76⟩ | exact ⟨_, rfl, _, HS.out.nil lastK 76⟩
  | some ad =>
    clear hr
    have HNIL := Aside0.mk (fun w => Go.Lib.run_eql_slice_nil (P := Try.prog) w 25 _ (some ad) n c 0 0 Try.underlying25)
    go_enter Try.func58, Try.ntmps58
    go_wp2_with (first | (simp only [HNIL.out]) | ((with_reducible refine gC (b := .append) rfl ?_); refine sh_append_blk Last.len Last.one HS.out rfl rfl 0 ([] : List Last) rfl rfl rfl rfl (HR.out.sh HS.out) Try.underlying25 infoLast rfl (by decide) (by decide) (by simp only [List.length_nil]; omega) ?_; clear HS; intro v1 w1 S1 HS1; (simp only [aZ, aS] at HS1); have HS := Aside0.mk HS1; clear HS1; try simp only [aP, aN, aT, aZ, aS]; obtain ⟨A1, c1, rfl, hc1, _⟩ := row_rd HS.out 0 rfl) | ((first | ((first | ((with_reducible refine gA rfl ?_); refine sh_alloc HS.out rfl rfl (zeT _ (by decide)) ?_) | ((with_reducible refine gB rfl ?_); refine bx HS.out rfl rfl ?_; first | refine bv (v := .agg (List.toArray _)) rfl ?_ | refine bv (v := .int _ _) rfl ?_ | refine bv (v := .slice _ _ _) rfl ?_ | refine bv (v := .bool _) rfl ?_ | refine bv (v := .pointer _) rfl ?_) | ((with_reducible refine gL rfl ?_); refine sh_lit HS.out rfl rfl (by go_simp; exact ⟨⟨rfl, rfl⟩, rfl⟩) ?_)); clear HS; intro g w1 hg HS1; (simp only [Held.enc, Last.enc, zeF, segOf, aL, aC, aE] at HS1); have HS := Aside0.mk HS1; clear HS1)); try simp only [aP, aN, aT, aZ, aS]))
    go_ret
    exact ⟨_, _, rfl, HS.out⟩
end Go.Proofs.Ytekjihmepdhmeaa.Led

end
