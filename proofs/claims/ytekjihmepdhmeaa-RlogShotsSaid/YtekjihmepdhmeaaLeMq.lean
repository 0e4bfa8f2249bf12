/- Lemmas towards the law: what of the text LeM it needs. -/
import Derived.Test.YtekjihmepdhmeaaLeLq
namespace Go.Proofs.Ytekjihmepdhmeaa.Led
open Go.RowKit Go.Proofs.YtekjihmepdhmeaaW.PrintWords Go.Proofs.Ytekjihmepdhmeaa.Sl
set_option linter.unusedVariables false
set_option linter.unusedSimpArgs false
/-- the ways that a command may go, if the ledger may be -/
theorem apply_cases {lim nxt : Int} {l : List Held} {m : List Last} (h : LedOk lim nxt l m) (ix : Int) (x : Rlo.Ent) :
    (Rlo.cmdOk x = false ∧ applyC lim nxt l m ix x = ⟨0, 0, [], [], ⟨0, 0, 0⟩, 40⟩) ∨
    (Rlo.cmdOk x = true ∧ ix = 0 ∧ applyC lim nxt l m ix x = ⟨0, 0, [], [], ⟨0, 0, 0⟩, 1⟩) ∨
    (Rlo.cmdOk x = true ∧ ix ≠ 0 ∧ (x.kind = 1 ∨ x.kind = 2) ∧ applyC lim nxt l m ix x = ⟨lim, nxt, l, m, ⟨0, 0, 0⟩, 0⟩) ∨
    (Rlo.cmdOk x = true ∧ ix ≠ 0 ∧ x.kind = 6 ∧ (applyC lim nxt l m ix x = ⟨lim, nxt, l, m, ⟨4, 0, 0⟩, 0⟩ ∨ applyC lim nxt l m ix x = ⟨lim, nxt, l.eraseIdx (posHeld l x.token), m, ⟨5, 0, 0⟩, 0⟩)) ∨
    (Rlo.cmdOk x = true ∧ ix ≠ 0 ∧ (x.kind = 3 ∨ x.kind = 4 ∨ x.kind = 5) ∧
      ((∃ a y, m.find? (fun y => y.node == x.node) = some y ∧ hit x y = some a ∧ applyC lim nxt l m ix x = ⟨lim, nxt, l, m, a, 0⟩) ∨
       ((∀ y, m.find? (fun y => y.node == x.node) = some y → hit x y = none) ∧ applyC lim nxt l m ix x = doneR lim nxt l m ix x))) := by
  have hled := isLed_iff.2 h
  by_cases hc : Rlo.cmdOk x = true
  · have hg := (cmdGood hc).kind
    by_cases hi : ix = 0
    · right; left
      refine ⟨hc, hi, ?_⟩
      unfold applyC
      rw [if_neg (by rw [hled]; decide), if_neg (by rw [hc]; decide), if_pos hi]
    · by_cases hk : x.kind = 1 ∨ x.kind = 2
      · right; right; left
        refine ⟨hc, hi, hk, ?_⟩
        unfold applyC
        rw [if_neg (by rw [hled]; decide), if_neg (by rw [hc]; decide), if_neg hi, if_pos hk]
      · by_cases h6 : x.kind = 6
        · right; right; right; left
          refine ⟨hc, hi, h6, ?_⟩
          unfold applyC
          rw [if_neg (by rw [hled]; decide), if_neg (by rw [hc]; decide), if_neg hi, if_neg hk, if_pos h6]
          split
          · exact .inr rfl
          · exact .inl rfl
        · right; right; right; right
          refine ⟨hc, hi, by omega, ?_⟩
          rw [← apply_eq]
          have hu : applyR lim nxt l m ix x = (match m.findSome? (hit x) with
            | some a => ⟨lim, nxt, l, m, a, 0⟩
            | none => doneR lim nxt l m ix x) := by
            unfold applyR
            rw [if_neg (by rw [hled]; decide), if_neg (by rw [hc]; decide), if_neg hi, if_neg hk, if_neg h6]
            rfl
          rw [hu]
          have hfs : ∀ (m : List Last), m.Pairwise (fun a b => a.node < b.node) → m.findSome? (hit x) = (m.find? (fun y => y.node == x.node)).bind (hit x) := by
            intro m hs
            induction m with
            | nil => rfl
            | cons y m ih =>
              rw [List.pairwise_cons] at hs
              rw [List.findSome?_cons, List.find?_cons]
              by_cases hn : y.node = x.node
              · simp only [beq_iff_eq.2 hn]
                have hno : m.findSome? (hit x) = none := by
                  rw [List.findSome?_eq_none_iff]
                  intro z hz
                  have := hs.1 z hz
                  unfold hit
                  rw [if_neg (by omega)]
                rw [hno]
                show _ = hit x y
                cases hit x y <;> rfl
              · simp only [beq_eq_false_iff_ne.2 hn]
                have : hit x y = none := by unfold hit; rw [if_neg hn]
                rw [this]
                exact ih hs.2
          rw [hfs m h.srtL]
          cases hf : m.find? (fun y => y.node == x.node) with
          | none => exact .inr ⟨fun y hy => (by cases hy), rfl⟩
          | some y =>
            cases hh : hit x y with
            | none => exact .inr ⟨fun z hz => by cases hz; exact hh, by show (match hit x y with | some a => _ | none => _) = _; rw [hh]⟩
            | some a => exact .inl ⟨a, y, rfl, hh, by show (match hit x y with | some a => _ | none => _) = _; rw [hh]⟩
  · left
    have hc' : Rlo.cmdOk x = false := by simpa using hc
    refine ⟨hc', ?_⟩
    unfold applyC
    rw [if_neg (by rw [hled]; decide), if_pos hc']
theorem doneR_eq {lim nxt : Int} {l : List Held} {m : List Last} (h : LedOk lim nxt l m) (ix : Int) (x : Rlo.Ent) : doneR lim nxt l m ix x = ⟨lim, (requestC lim nxt l ix (toCmd x)).nxt, (requestC lim nxt l ix (toCmd x)).held, refLast m ⟨x.node, x.boot, x.seq, (requestC lim nxt l ix (toCmd x)).ans⟩, (requestC lim nxt l ix (toCmd x)).ans, 0⟩ := by
  unfold doneR
  rw [request_eq h.srt (fun y hy => by have := (h.held y hy).1; omega)]
/-- what comes out may be -/
theorem apply_keeps {lim nxt : Int} {l : List Held} {m : List Last} (h : LedOk lim nxt l m) {ix : Int} (hix : 0 ≤ ix) (x : Rlo.Ent) (he : (applyC lim nxt l m ix x).err = 0) :
    LedOk (applyC lim nxt l m ix x).lim (applyC lim nxt l m ix x).nxt (applyC lim nxt l m ix x).held (applyC lim nxt l m ix x).last ∧ (applyC lim nxt l m ix x).lim = lim ∧ nxt ≤ (applyC lim nxt l m ix x).nxt ∧ (nxt < 18446744073709551616 → (applyC lim nxt l m ix x).nxt < 18446744073709551616) := by
  rcases apply_cases h ix x with ⟨_, e⟩ | ⟨_, _, e⟩ | ⟨_, _, _, e⟩ | ⟨_, _, _, e | e⟩ | ⟨hc, hi, hk, ⟨a, y, _, _, e⟩ | ⟨_, e⟩⟩
  · rw [e] at he; cases he
  · rw [e] at he; cases he
  · rw [e]; exact ⟨h, rfl, Int.le_refl _, id⟩
  · rw [e]; exact ⟨h, rfl, Int.le_refl _, id⟩
  · rw [e]
    have hsub := List.eraseIdx_sublist l (posHeld l x.token)
    exact ⟨⟨h.lim1, h.lim2, h.nxt1, Nat.le_trans hsub.length_le h.len, h.srt.sublist hsub, fun y hy => h.held y (hsub.subset hy), h.ser.sublist hsub, h.srtL, h.last⟩, rfl, Int.le_refl _, id⟩
  · rw [e]; exact ⟨h, rfl, Int.le_refl _, id⟩
  · obtain ⟨hn1, hn2, hb, hs⟩ := (cmdGood hc).req hk
    obtain ⟨k1, k2, k3, k4⟩ := request_keeps h (ix := ix) (by omega) (x := toCmd x) ⟨hn1, hn2⟩ hb
    rw [e, doneR_eq h]
    refine ⟨⟨k1.lim1, k1.lim2, k1.nxt1, k1.len, k1.srt, k1.held, k1.ser, refLast_srt h.srtL, fun y hy => ?_⟩, rfl, k3, k4⟩
    rcases (refLast_mem h.srtL).1 hy with rfl | ⟨hy, _⟩
    · exact ⟨hn1, hn2, hb, hs, k2⟩
    · exact k1.last y hy
/-- what a node's last request came to -/
def lastOf (m : List Last) (n : Int) : Option Last := m.find? (fun y => y.node == n)
end Go.Proofs.Ytekjihmepdhmeaa.Led
