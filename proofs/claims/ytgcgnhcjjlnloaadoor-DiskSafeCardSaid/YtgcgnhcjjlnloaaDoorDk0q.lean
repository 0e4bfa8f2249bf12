/- Lemmas towards the law: what of the text Dk0 it needs. -/
import Derived.Test.YtgcgnhcjjlnloaaDoorSlXq
import Derived.Test.YtgcgnhcjjlnloaaDoorMapRq
import Derived.Test.YtgcgnhcjjlnloaaDoorTyq
namespace Go.Proofs.YtgcgnhcjjlnloaaDoor.Dk
open Go.RowKit Go.Proofs.YtgcgnhcjjlnloaaDoorW.PrintWords Go.Proofs.YtgcgnhcjjlnloaaDoor.Sl
set_option linter.unusedVariables false
set_option linter.unusedSimpArgs false
def u8K : Kd Int := flk (ints .u8) 1 (ints_len .u8) (ints_one .u8)
theorem infoU8 : (Tryd.prog.info? 5).map (fun i => (i.zero, i.size, i.bytes)) = some (some (.int .u8 0), 1, 1) := by kernel_rfl
set_option maxHeartbeats 400000 in
theorem clone_any (A : Option Addr) (c : Nat) (l : List Int) (w : World) {N : Nat} (hr : Rd (ints .u8) 1 w A N l) (hlim : N ≤ 140737488351232) :
    Calls Tryd.prog 35 #[.slice A N c] w (fun e w' => ∃ v S, e = .returned v ∧ SH w w' [row u8K 5 v l S]) := by
  obtain rfl := hr.len.1
  have HR := Aside0.mk hr
  have hm := hr.len.2
  clear hr
  cases A with
  | none =>
    have h0 : l = [] := by
      cases l with
      | nil => rfl
      | cons x l => obtain ⟨ad, h⟩ := HR.out.addr (by simp); cases h
    subst h0
    have heq : ∀ w, (binOp .eql 32 (.slice none 0 c) (.slice none 0 0)).run Tryd.prog w = .ok (.bool true) w := fun w => Go.Lib.run_eql_slice_nil w 32 5 none 0 c 0 0 Tryd.underlying32
    have HS := Aside0.mk ((SH.start w).nil (flk (ints .u8) 1 (ints_len .u8) (ints_one .u8)) 5)
    go_enter Tryd.func35, Tryd.ntmps35
    go_wp2
    go_ret
    exact ⟨_, _, rfl, HS.out⟩
  | some ad =>
    have heq : ∀ w, (binOp .eql 32 (.slice (some ad) l.length c) (.slice none 0 0)).run Tryd.prog w = .ok (.bool false) w := fun w => Go.Lib.run_eql_slice_nil w 32 5 (some ad) l.length c 0 0 Tryd.underlying32
    have HS := Aside0.mk (SH.start w)
    go_enter Tryd.func35, Tryd.ntmps35
    go_wp2_with (first | ((with_reducible refine gC (b := .append) rfl ?_); refine sh_append_blk (ints_len .u8) (ints_one .u8) HS.out rfl rfl 0 [] rfl rfl rfl rfl (HR.out.sh HS.out) Tryd.underlying32 infoU8 rfl (by decide) (by decide) (by simp; omega) ?_; clear HS; intro v1 w1 S1 HS1; (simp only [aZ, aS] at HS1); have HS := Aside0.mk HS1; clear HS1; try simp only [aP, aN, aT, aZ, aS]; obtain ⟨A1, c1, rfl, hc1, _⟩ := row_rd HS.out 0 rfl) | ((first | ((first | ((with_reducible refine gA rfl ?_); refine sh_alloc HS.out rfl rfl (zeT _ (by decide)) ?_) | ((with_reducible refine gB rfl ?_); refine bx HS.out rfl rfl ?_; first | refine bv (v := .agg (List.toArray _)) rfl ?_ | refine bv (v := .int _ _) rfl ?_ | refine bv (v := .slice _ _ _) rfl ?_ | refine bv (v := .bool _) rfl ?_ | refine bv (v := .pointer _) rfl ?_) | ((with_reducible refine gL rfl ?_); refine sh_lit HS.out rfl rfl (by go_simp; exact ⟨⟨rfl, rfl⟩, rfl⟩) ?_)); clear HS; intro g w1 hg HS1; (simp only [zeF, segOf, aL, aC, aE] at HS1); have HS := Aside0.mk HS1; clear HS1)); try simp only [aP, aN, aT, aZ, aS]))
    go_ret
    exact ⟨_, _, rfl, HS.out⟩
end Go.Proofs.YtgcgnhcjjlnloaaDoor.Dk
