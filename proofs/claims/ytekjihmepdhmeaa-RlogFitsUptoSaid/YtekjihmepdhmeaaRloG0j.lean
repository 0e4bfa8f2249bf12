import Derived.Test.YtekjihmepdhmeaaRloEj
/- Lemmas towards the law: what of the text RloG0 it needs. -/
namespace Go.Proofs.Ytekjihmepdhmeaa.Rlo
open Go.RowKit Go.Proofs.YtekjihmepdhmeaaW.PrintWords Go.Proofs.Ytekjihmepdhmeaa.Sl
set_option linter.unusedVariables false
set_option linter.unusedSimpArgs false
theorem ints_szd {x : intsS.D} (h : intsS.sized Try.prog x) : x.length * 8 ≤ 140737488351232 := by
  have e : Try.prog.bytesOf 3 = 8 := by kernel_rfl
  have := h.1
  rw [e] at this
  exact this
theorem entS_open' {w : World} {x : entS.D} {cs : List Value} (h : entS.kd.K w x cs) (hw : entS.wf x) (hz : entS.sized Try.prog x) : ∃ e : Ent, cs = e.enc ∧ e.ok w ∧ e.nodes.length * 8 ≤ 140737488351232 := by
  obtain ⟨_, _, rfl, rfl, _, _, rfl, ⟨_, _, rfl, rfl, _, _, rfl, rfl, _, _, rfl, rfl, _, _, rfl, hI, _, _, rfl, rfl, _, _, rfl, rfl, _, _, rfl, rfl, _, _, rfl, rfl, rfl⟩, rfl⟩ := h
  obtain ⟨A, c, rfl, _, hr⟩ := ints_open (e := 3) (k := .i64) hI
  obtain ⟨w1, ⟨w2, w3, w4, w5, w6, w7, w8, w9, _⟩, _⟩ := hw
  obtain ⟨_, ⟨_, _, _, z5, _⟩, _⟩ := hz
  exact ⟨⟨x.1, x.2.1.1, x.2.1.2.1, x.2.1.2.2.1, A, c, x.2.1.2.2.2.1, x.2.1.2.2.2.2.1, x.2.1.2.2.2.2.2.1, x.2.1.2.2.2.2.2.2.1, x.2.1.2.2.2.2.2.2.2.1⟩, rfl, ⟨hr, ln_of w1, ln_of w6, ln_of w7, ln_of w8, ln_of w9, i64_hi w3, i64_hi w4⟩, ints_szd z5⟩
theorem shotS_open' {w : World} {x : shotS.D} {cs : List Value} (h : shotS.kd.K w x cs) (hw : shotS.wf x) (hz : shotS.sized Try.prog x) : ∃ s : Sht, cs = s.enc ∧ s.ok w ∧ s.szd := by
  obtain ⟨_, _, rfl, rfl, _, _, rfl, rfl, _, _, rfl, hI, _, _, rfl, ⟨_, _, rfl, rfl, _, _, rfl, rfl, _, _, rfl, ⟨A, c, rfl, hl, hC⟩, _, _, rfl, ⟨B, c', rfl, hl', hC'⟩, rfl⟩, rfl⟩ := h
  obtain ⟨A1, c1, rfl, _, hr⟩ := ints_open (e := 3) (k := .i64) hI
  obtain ⟨w1, w2, w3, ⟨w4, w5, w6, w7, _⟩, _⟩ := hw
  obtain ⟨_, _, z3, ⟨_, _, z6, z7, _⟩, _⟩ := hz
  have hr1 := C_map hC toHeld (sz := 5) rfl (fun y cs hy => heldS_K y cs hy)
  have hr2 := C_map hC' toLast (sz := 6) rfl (fun y cs hy => lastS_K y cs hy)
  refine ⟨⟨x.1, x.2.1, A1, c1, x.2.2.1, x.2.2.2.1.1, x.2.2.2.1.2.1, A, c, x.2.2.2.1.2.2.1.map toHeld, B, c', x.2.2.2.1.2.2.2.1.map toLast⟩, ?_, ⟨hr, by rw [List.length_map]; exact hr1, by rw [List.length_map]; exact hr2, by rw [List.length_map]; exact hl, ln_of w1, ln_of w2, ln_of w5, ?_⟩, ⟨ints_szd z3, ?_, ?_⟩⟩
  · simp [Sht.enc, List.length_map]
  · intro y hy
    obtain ⟨z, hz, rfl⟩ := List.mem_map.1 hy
    obtain ⟨_, _, _, ⟨_, _, h4, _⟩, _⟩ := w7.2 z hz
    exact ln_of h4
  · have e : Try.prog.bytesOf 72 = 40 := by kernel_rfl
    have := z6.1
    rw [e] at this
    rw [List.length_map]
    exact this
  · have e : Try.prog.bytesOf 76 = 48 := by kernel_rfl
    have := z7.1
    rw [e] at this
    rw [List.length_map]
    exact this
theorem hardS_open' {w : World} {x : hardS.D} {cs : List Value} (h : hardS.kd.K w x cs) (hw : hardS.wf x) (hz : hardS.sized Try.prog x) : ∃ d : Hrd, cs = d.enc ∧ d.ok w ∧ d.szd := by
  obtain ⟨_, _, rfl, rfl, _, _, rfl, rfl, _, _, rfl, rfl, _, _, rfl, hs, _, _, rfl, ⟨A, c, rfl, hl, hC⟩, rfl⟩ := h
  obtain ⟨w1, w2, w3, w4, w5, _⟩ := hw
  obtain ⟨_, _, _, z4, z5, _⟩ := hz
  obtain ⟨s, rfl, hsk, hsz⟩ := shotS_open' hs w4 z4
  obtain ⟨ys, hys, hR, hE⟩ := C_mapR hC default (enc := Ent.enc) (sz := 9) rfl (R := fun e => e.ok w ∧ e.nodes.length * 8 ≤ 140737488351232) (fun y hy cs hcs => entS_open' hcs (w5.2 y hy) (z5.2 y hy))
  refine ⟨⟨x.1, x.2.1, x.2.2.1, s, A, c, ys⟩, ?_, ⟨hsk, by rw [hys]; exact hR, fun e he => (hE e he).1, ln_of w1, ln_of w2⟩, ⟨hsz, ?_, fun e he => (hE e he).2⟩⟩
  · simp [Hrd.enc, Sht.enc, hys]
  · have e : Try.prog.bytesOf 52 = 88 := by kernel_rfl
    have := z5.1
    rw [e] at this
    rw [hys]
    exact this
end Go.Proofs.Ytekjihmepdhmeaa.Rlo

