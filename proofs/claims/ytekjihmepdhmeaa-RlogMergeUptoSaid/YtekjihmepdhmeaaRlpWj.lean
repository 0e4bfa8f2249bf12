import Derived.Test.YtekjihmepdhmeaaRlpUj
import Derived.Test.YtekjihmepdhmeaaRlo7j
import Derived.Deep.DeepCutAuto
import Derived.Test.YtekjihmepdhmeaaOp3q
import Derived.Test.YtekjihmepdhmeaaRlqFj
section
/- Lemmas towards the law: what of the text RlpW it needs. -/
namespace Go.Proofs.Ytekjihmepdhmeaa.Rlo
open Go.RowKit Go.Proofs.YtekjihmepdhmeaaW.PrintWords Go.Proofs.Ytekjihmepdhmeaa.Sl
set_option linter.unusedVariables false
set_option linter.unusedSimpArgs false
def wayS : Sh := .st (.cons (.int .u64) (.cons (.int .u64) (.cons (.int .u64) (.cons (.slice 52 entS) .nil))))
theorem sum_ge {α : Type} (f : α → Nat) (k : Nat) (h : ∀ x, k ≤ f x) : ∀ l : List α, l.length * k ≤ (l.map f).sum
  | [] => by simp
  | x :: l => by
    have h1 := h x
    have h2 := sum_ge f k h l
    simp only [List.length_cons, List.map_cons, List.sum_cons, Nat.add_mul]
    omega
theorem entS_bulk (x : entS.D) : 3 ≤ entS.bulk x := by
  show 3 ≤ 1 + (cmdS.bulk x.2.1 + 0) + 1
  have : 1 ≤ cmdS.bulk x.2.1 := by unfold cmdS; simp only [Sh.bulk]; omega
  omega
theorem ents_bulk (l : List entS.D) : l.length * 3 ≤ (Sh.slice 52 entS).bulk l := by
  have := sum_ge entS.bulk 3 entS_bulk l
  show l.length * 3 ≤ (l.map entS.bulk).sum + 1
  omega
theorem hardS_openB {w : World} {x : hardS.D} {cs : List Value} (h : hardS.kd.K w x cs) (hw : hardS.wf x) (hz : hardS.sized Try.prog x) : ∃ d : Hrd, cs = d.enc ∧ d.ok w ∧ d.szd ∧ d.log.length ≤ d.gc ∧ d.log.length * 3 ≤ hardS.bulk x := by
  have h0 := h
  obtain ⟨_, _, rfl, rfl, _, _, rfl, rfl, _, _, rfl, rfl, _, _, rfl, hs, _, _, hcs, ⟨A, c, rfl, hl, hC⟩, rfl⟩ := h
  subst hcs
  obtain ⟨d, hd, hk, hsz⟩ := hardS_open' h0 hw hz
  have hlen : d.log.length = x.2.2.2.2.1.length := by
    obtain ⟨s, rfl, _⟩ := shotS_open hs hw.2.2.2.1
    simp [Hrd.enc, Sht.enc] at hd
    omega
  refine ⟨d, hd, hk, hsz, ?_, ?_⟩
  · obtain ⟨s, rfl, _⟩ := shotS_open hs hw.2.2.2.1
    simp [Hrd.enc, Sht.enc] at hd
    omega
  · have h1 := ents_bulk x.2.2.2.2.1
    rw [hlen]
    show _ ≤ 1 + (1 + (1 + (shotS.bulk x.2.2.2.1 + ((Sh.slice 52 entS).bulk x.2.2.2.2.1 + 0)))) + 1
    omega
theorem wayS_open {w : World} {x : wayS.D} {cs : List Value} (h : wayS.kd.K w x cs) (hw : wayS.wf x) (hz : wayS.sized Try.prog x) : ∃ (A : Option Addr) (c : Nat) (l : List Ent), cs = [.int .u64 x.1, .int .u64 x.2.1, .int .u64 x.2.2.1, .slice A l.length c] ∧ ln x.1 ∧ ln x.2.1 ∧ ln x.2.2.1 ∧ Rd Ent.enc 9 w A l.length l ∧ (∀ e ∈ l, e.ok w) ∧ (∀ e ∈ l, e.nodes.length * 8 ≤ 140737488351232) ∧ l.length ≤ c ∧ l.length * 3 ≤ wayS.bulk x := by
  obtain ⟨_, _, rfl, rfl, _, _, rfl, rfl, _, _, rfl, rfl, _, _, rfl, ⟨A, c, rfl, hl, hC⟩, rfl⟩ := h
  obtain ⟨w1, w2, w3, w4, _⟩ := hw
  obtain ⟨_, _, _, z4, _⟩ := hz
  obtain ⟨ys, hys, hR, hE⟩ := C_mapR hC default (enc := Ent.enc) (sz := 9) rfl (R := fun e => e.ok w ∧ e.nodes.length * 8 ≤ 140737488351232) (fun y hy cs hcs => entS_open' hcs (w4.2 y hy) (z4.2 y hy))
  refine ⟨A, c, ys, ?_, ln_of w1, ln_of w2, ln_of w3, by rw [hys]; exact hR, fun e he => (hE e he).1, fun e he => (hE e he).2, by rw [hys]; exact hl, ?_⟩
  · simp [hys]
  · have h1 := ents_bulk x.2.2.2.1
    rw [hys]
    show _ ≤ 1 + (1 + (1 + ((Sh.slice 52 entS).bulk x.2.2.2.1 + 0))) + 1
    omega
end Go.Proofs.Ytekjihmepdhmeaa.Rlo

end
section
/- Lemmas towards the law: what of the text RlqG it needs. -/
namespace Go.Proofs.Ytekjihmepdhmeaa.Rlo
open Go.RowKit Go.Proofs.YtekjihmepdhmeaaW.PrintWords Go.Proofs.Ytekjihmepdhmeaa.Sl
set_option linter.unusedVariables false
set_option linter.unusedSimpArgs false
namespace LawMerge
theorem walk (W : World) (cs0 : List Value) (x0 : hardS.D) (hk0 : hardS.kd.K W x0 cs0) (hw0 : hardS.wf x0) (hz0 : hardS.sized Try.prog x0) (cs1 : List Value) (x1 : wayS.D) (hk1 : wayS.kd.K W x1 cs1) (hw1 : wayS.wf x1) (hz1 : wayS.sized Try.prog x1) (hb : hardS.bulk x0 + (wayS.bulk x1 + 0) ≤ 1048576) :
    Calls Try.prog 8 #[hardS.val cs0, wayS.val cs1] W fun e W' => e = .returned (.bool true) ∧ Below W.heap.size W W' := by
  obtain ⟨d, rfl, hd, hz, hc, hb0⟩ := hardS_openB hk0 hw0 hz0
  obtain ⟨A, c, l, rfl, l1, l2, l3, hr, he, hes, hcap, hb1⟩ := wayS_open hk1 hw1 hz1
  exact lawMerge_any d x1.1 x1.2.1 x1.2.2.1 A l.length c l W hd hz l1 l2 l3 hr he hes (by omega) hcap
end LawMerge
end Go.Proofs.Ytekjihmepdhmeaa.Rlo

end
