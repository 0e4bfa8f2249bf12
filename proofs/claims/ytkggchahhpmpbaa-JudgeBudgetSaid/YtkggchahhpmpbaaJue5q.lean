/- Lemmas towards the law: what of the text Jue5 it needs. -/
import Derived.Test.YtkggchahhpmpbaaJue4q
namespace Go.Proofs.Ytkggchahhpmpbaa.Jue
open Go.RowKit Go.Proofs.YtkggchahhpmpbaaW.PrintWords Go.Proofs.Ytkggchahhpmpbaa.Sl
set_option linter.unusedVariables false
set_option linter.unusedSimpArgs false
def JudgePost (w : World) (z : Int × Int) (e : Ending) (w' : World) : Prop := e = .returned (.tuple #[.int .i64 z.1, .int .i64 z.2]) ∧ Below w.heap.size w w'
theorem judge_any (A : Option Addr) (N c : Nat) (lim : Int) (l : List Seen) (w : World) (hr : Rd Seen.enc 3 w A N l) :
    Calls Try.prog 9 #[.int .i64 lim, .slice A N c] w (JudgePost w (judgeS lim l [] 0)) := by
  have HR := Aside0.mk hr
  clear hr
  have HS := Aside0.mk (SH.start w)
  obtain ⟨z, hz⟩ : ∃ z, judgeS lim l [] 0 = z := ⟨_, rfl⟩
  have HP := Aside0.mk (fun w1 hr => play_any A N c lim l w1 hr)
  unfold PlayPost at HP
  rw [hz] at HP ⊢
  clear hz
  go_enter Try.func9, Try.ntmps9
  go_wp2_with (first | (go_at_call 24; (with_reducible refine (HP.out _ (HR.out.sh HS.out)).mono ?_); rintro e w2 (⟨hz2, hz1, gO, gc, go, gm, C, O, M, rfl, _, HS1⟩ | ⟨hz2, rfl, hb⟩)) | ((first | ((first | ((with_reducible refine gA rfl ?_); refine sh_alloc HS.out rfl rfl (zeT _ (by decide)) ?_) | ((with_reducible refine gB rfl ?_); refine bx HS.out rfl rfl ?_; first | refine bv (v := .agg (List.toArray _)) rfl ?_ | refine bv (v := .int _ _) rfl ?_ | refine bv (v := .slice _ _ _) rfl ?_ | refine bv (v := .bool _) rfl ?_ | refine bv (v := .pointer _) rfl ?_ | refine bv (v := .string _) rfl ?_ | refine bv (v := .map _) rfl ?_ | refine bv (v := .func _ _ _) rfl ?_) | ((with_reducible refine gL rfl ?_); refine sh_lit HS.out rfl rfl (by go_simp; exact ⟨⟨rfl, rfl⟩, rfl⟩) ?_)); clear HS; intro g w1 hg HS1; (simp only [Seen.enc, cnEnc, zeF, segOf, aL, aC, aE] at HS1); have HS := Aside0.mk HS1; clear HS1)); try simp only [aP, aN, aT, aZ, aS]))
  · have hb := HS1.below
    have HZ := Aside0.mk (And.intro hz1 hz2)
    clear hz1 hz2
    have HS1 := HS.out.quiet hb; clear HS hb; have HS := Aside0.mk HS1; clear HS1
    go_wp2_with (first | ((first | ((first | ((with_reducible refine gA rfl ?_); refine sh_alloc HS.out rfl rfl (zeT _ (by decide)) ?_) | ((with_reducible refine gB rfl ?_); refine bx HS.out rfl rfl ?_; first | refine bv (v := .agg (List.toArray _)) rfl ?_ | refine bv (v := .int _ _) rfl ?_ | refine bv (v := .slice _ _ _) rfl ?_ | refine bv (v := .bool _) rfl ?_ | refine bv (v := .pointer _) rfl ?_ | refine bv (v := .string _) rfl ?_ | refine bv (v := .map _) rfl ?_ | refine bv (v := .func _ _ _) rfl ?_) | ((with_reducible refine gL rfl ?_); refine sh_lit HS.out rfl rfl (by go_simp; exact ⟨⟨rfl, rfl⟩, rfl⟩) ?_)); clear HS; intro g w1 hg HS1; (simp only [Seen.enc, cnEnc, zeF, segOf, aL, aC, aE] at HS1); have HS := Aside0.mk HS1; clear HS1)); try simp only [aP, aN, aT, aZ, aS]))
    go_ret2
    exact ⟨by rw [HZ.out.1, HZ.out.2]; rfl, HS.out.below⟩
  · have HS1 := HS.out.quiet hb; clear HS hb; have HS := Aside0.mk HS1; clear HS1
    clear hz2
    go_wp2_with (first | ((first | ((first | ((with_reducible refine gA rfl ?_); refine sh_alloc HS.out rfl rfl (zeT _ (by decide)) ?_) | ((with_reducible refine gB rfl ?_); refine bx HS.out rfl rfl ?_; first | refine bv (v := .agg (List.toArray _)) rfl ?_ | refine bv (v := .int _ _) rfl ?_ | refine bv (v := .slice _ _ _) rfl ?_ | refine bv (v := .bool _) rfl ?_ | refine bv (v := .pointer _) rfl ?_ | refine bv (v := .string _) rfl ?_ | refine bv (v := .map _) rfl ?_ | refine bv (v := .func _ _ _) rfl ?_) | ((with_reducible refine gL rfl ?_); refine sh_lit HS.out rfl rfl (by go_simp; exact ⟨⟨rfl, rfl⟩, rfl⟩) ?_)); clear HS; intro g w1 hg HS1; (simp only [Seen.enc, cnEnc, zeF, segOf, aL, aC, aE] at HS1); have HS := Aside0.mk HS1; clear HS1)); try simp only [aP, aN, aT, aZ, aS]))
    go_ret2
    exact ⟨rfl, HS.out.below⟩
def cnEnc (c : Cn) : List Value := [.int .i64 c.1, .int .i64 c.2]
theorem cnLen (c : Cn) : (cnEnc c).length = 2 := rfl
theorem cnOne (c : Cn) : (cnEnc c).all (·.oneCell') = true := rfl
def cnK : Kd Cn := flk cnEnc 2 cnLen cnOne
theorem openS_len (l : List Seen) : ∀ k, k ≤ l.length → (openS (l.take k)).length ≤ k
  | 0, _ => by simp [openS]
  | k + 1, h => by
    have := openS_len l k (by omega)
    rw [openS_succ (x := l.getD k default) (by omega) rfl]
    unfold nextS
    split
    · simp; omega
    · exact Nat.le_trans (List.length_filter_le _ _) (by omega)
end Go.Proofs.Ytkggchahhpmpbaa.Jue
