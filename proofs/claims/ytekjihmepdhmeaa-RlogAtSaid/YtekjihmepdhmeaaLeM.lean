import Derived.Test.YtekjihmepdhmeaaLeL
-- U5
namespace Go.Proofs.Ytekjihmepdhmeaa.Led
open Go.RowKit Go.Proofs.YtekjihmepdhmeaaW.PrintWords Go.Proofs.Ytekjihmepdhmeaa.Sl
set_option linter.unusedVariables false
set_option linter.unusedSimpArgs false
/-! What a command does to a ledger that may be: kept, told, others' rows, twice. -/
theorem roomSet_eq {m : List Last} (hs : m.Pairwise (fun a b => a.node < b.node)) (x : Last) : (roomC m x.node).set (posLast m x.node) x = refLast m x := (last_srt hs x).symm
/-- the ways that a command may go, if the ledger may be -/
theorem apply_cases {lim nxt : Int} {l : List Held} {m : List Last} (h : LedOk lim nxt l m) (ix : Int) (x : Rlo.Ent) :
    (Rlo.cmdOk x = false ∧ applyC lim nxt l m ix x = ⟨0, 0, [], [], ⟨0, 0, 0⟩, 40⟩) ∨
    (Rlo.cmdOk x = true ∧ ix = 0 ∧ applyC lim nxt l m ix x = ⟨0, 0, [], [], ⟨0, 0, 0⟩, 1⟩) ∨
    (Rlo.cmdOk x = true ∧ ix ≠ 0 ∧ (x.kind = 1 ∨ x.kind = 2) ∧ applyC lim nxt l m ix x = ⟨lim, nxt, l, m, ⟨0, 0, 0⟩, 0⟩) ∨
    (Rlo.cmdOk x = true ∧ ix ≠ 0 ∧ x.kind = 6 ∧ (applyC lim nxt l m ix x = ⟨lim, nxt, l, m, ⟨4, 0, 0⟩, 0⟩ ∨ applyC lim nxt l m ix x = ⟨lim, nxt, l.eraseIdx (posHeld l x.token), m, ⟨5, 0, 0⟩, 0⟩)) ∨
    (Rlo.cmdOk x = true ∧ ix ≠ 0 ∧ (x.kind = 3 ∨ x.kind = 4 ∨ x.kind = 5) ∧
      ((∃ a y, m.find? (fun y => y.node == x.node) = some y ∧ hit x y = some a ∧ applyC lim nxt l m ix x = ⟨lim, nxt, l, m, a, 0⟩) ∨
       ((∀ y, m.find? (fun y => y.node == x.node) = some y → hit x y = none) ∧ applyC lim nxt l m ix x = doneR lim nxt l m ix x))) := by
  have hled := isLed_iff.2 h
  by_cases hc : Rlo.cmdOk x = true
  · have hg := (cmdGood hc).kind
    by_cases hi : ix = 0
    · right; left
      refine ⟨hc, hi, ?_⟩
      unfold applyC
      rw [if_neg (by rw [hled]; decide), if_neg (by rw [hc]; decide), if_pos hi]
    · by_cases hk : x.kind = 1 ∨ x.kind = 2
      · right; right; left
        refine ⟨hc, hi, hk, ?_⟩
        unfold applyC
        rw [if_neg (by rw [hled]; decide), if_neg (by rw [hc]; decide), if_neg hi, if_pos hk]
      · by_cases h6 : x.kind = 6
        · right; right; right; left
          refine ⟨hc, hi, h6, ?_⟩
          unfold applyC
          rw [if_neg (by rw [hled]; decide), if_neg (by rw [hc]; decide), if_neg hi, if_neg hk, if_pos h6]
          split
          · exact .inr rfl
          · exact .inl rfl
        · right; right; right; right
          refine ⟨hc, hi, by omega, ?_⟩
          rw [← apply_eq]
          have hu : applyR lim nxt l m ix x = (match m.findSome? (hit x) with
            | some a => ⟨lim, nxt, l, m, a, 0⟩
            | none => doneR lim nxt l m ix x) := by
            unfold applyR
            rw [if_neg (by rw [hled]; decide), if_neg (by rw [hc]; decide), if_neg hi, if_neg hk, if_neg h6]
            rfl
          rw [hu]
          have hfs : ∀ (m : List Last), m.Pairwise (fun a b => a.node < b.node) → m.findSome? (hit x) = (m.find? (fun y => y.node == x.node)).bind (hit x) := by
            intro m hs
            induction m with
            | nil => rfl
            | cons y m ih =>
              rw [List.pairwise_cons] at hs
              rw [List.findSome?_cons, List.find?_cons]
              by_cases hn : y.node = x.node
              · simp only [beq_iff_eq.2 hn]
                have hno : m.findSome? (hit x) = none := by
                  rw [List.findSome?_eq_none_iff]
                  intro z hz
                  have := hs.1 z hz
                  unfold hit
                  rw [if_neg (by omega)]
                rw [hno]
                show _ = hit x y
                cases hit x y <;> rfl
              · simp only [beq_eq_false_iff_ne.2 hn]
                have : hit x y = none := by unfold hit; rw [if_neg hn]
                rw [this]
                exact ih hs.2
          rw [hfs m h.srtL]
          cases hf : m.find? (fun y => y.node == x.node) with
          | none => exact .inr ⟨fun y hy => (by cases hy), rfl⟩
          | some y =>
            cases hh : hit x y with
            | none => exact .inr ⟨fun z hz => by cases hz; exact hh, by show (match hit x y with | some a => _ | none => _) = _; rw [hh]⟩
            | some a => exact .inl ⟨a, y, rfl, hh, by show (match hit x y with | some a => _ | none => _) = _; rw [hh]⟩
  · left
    have hc' : Rlo.cmdOk x = false := by simpa using hc
    refine ⟨hc', ?_⟩
    unfold applyC
    rw [if_neg (by rw [hled]; decide), if_pos hc']
theorem doneR_eq {lim nxt : Int} {l : List Held} {m : List Last} (h : LedOk lim nxt l m) (ix : Int) (x : Rlo.Ent) : doneR lim nxt l m ix x = ⟨lim, (requestC lim nxt l ix (toCmd x)).nxt, (requestC lim nxt l ix (toCmd x)).held, refLast m ⟨x.node, x.boot, x.seq, (requestC lim nxt l ix (toCmd x)).ans⟩, (requestC lim nxt l ix (toCmd x)).ans, 0⟩ := by
  unfold doneR
  rw [request_eq h.srt (fun y hy => by have := (h.held y hy).1; omega)]
theorem apply_err {lim nxt : Int} {l : List Held} {m : List Last} (h : LedOk lim nxt l m) (ix : Int) (x : Rlo.Ent) : (applyC lim nxt l m ix x).err = 0 ∨ (applyC lim nxt l m ix x).err = 40 ∨ (applyC lim nxt l m ix x).err = 1 := by
  rcases apply_cases h ix x with ⟨_, e⟩ | ⟨_, _, e⟩ | ⟨_, _, _, e⟩ | ⟨_, _, _, e | e⟩ | ⟨_, _, _, ⟨a, y, _, _, e⟩ | ⟨_, e⟩⟩ <;> rw [e] <;> simp [doneR]
/-- what comes out may be -/
theorem apply_keeps {lim nxt : Int} {l : List Held} {m : List Last} (h : LedOk lim nxt l m) {ix : Int} (hix : 0 ≤ ix) (x : Rlo.Ent) (he : (applyC lim nxt l m ix x).err = 0) :
    LedOk (applyC lim nxt l m ix x).lim (applyC lim nxt l m ix x).nxt (applyC lim nxt l m ix x).held (applyC lim nxt l m ix x).last ∧ (applyC lim nxt l m ix x).lim = lim ∧ nxt ≤ (applyC lim nxt l m ix x).nxt ∧ (nxt < 18446744073709551616 → (applyC lim nxt l m ix x).nxt < 18446744073709551616) := by
  rcases apply_cases h ix x with ⟨_, e⟩ | ⟨_, _, e⟩ | ⟨_, _, _, e⟩ | ⟨_, _, _, e | e⟩ | ⟨hc, hi, hk, ⟨a, y, _, _, e⟩ | ⟨_, e⟩⟩
  · rw [e] at he; cases he
  · rw [e] at he; cases he
  · rw [e]; exact ⟨h, rfl, Int.le_refl _, id⟩
  · rw [e]; exact ⟨h, rfl, Int.le_refl _, id⟩
  · rw [e]
    have hsub := List.eraseIdx_sublist l (posHeld l x.token)
    exact ⟨⟨h.lim1, h.lim2, h.nxt1, Nat.le_trans hsub.length_le h.len, h.srt.sublist hsub, fun y hy => h.held y (hsub.subset hy), h.ser.sublist hsub, h.srtL, h.last⟩, rfl, Int.le_refl _, id⟩
  · rw [e]; exact ⟨h, rfl, Int.le_refl _, id⟩
  · obtain ⟨hn1, hn2, hb, hs⟩ := (cmdGood hc).req hk
    obtain ⟨k1, k2, k3, k4⟩ := request_keeps h (ix := ix) (by omega) (x := toCmd x) ⟨hn1, hn2⟩ hb
    rw [e, doneR_eq h]
    refine ⟨⟨k1.lim1, k1.lim2, k1.nxt1, k1.len, k1.srt, k1.held, k1.ser, refLast_srt h.srtL, fun y hy => ?_⟩, rfl, k3, k4⟩
    rcases (refLast_mem h.srtL).1 hy with rfl | ⟨hy, _⟩
    · exact ⟨hn1, hn2, hb, hs, k2⟩
    · exact k1.last y hy
theorem uniq_tok {l : List Held} (hs : l.Pairwise (fun a b => a.token < b.token)) {y z : Held} (hy : y ∈ l) (hz : z ∈ l) (he : y.token = z.token) : y = z := by
  obtain ⟨i, hi, rfl⟩ := List.getElem_of_mem hy
  obtain ⟨j, hj, rfl⟩ := List.getElem_of_mem hz
  rcases Nat.lt_trichotomy i j with h | h | h
  · have := List.pairwise_iff_getElem.1 hs i j hi hj h; omega
  · subst h; rfl
  · have := List.pairwise_iff_getElem.1 hs j i hj hi h; omega
/-- a request leaves the rows of other nodes -/
theorem request_others {lim nxt : Int} {l : List Held} {m : List Last} (h : LedOk lim nxt l m) (ix : Int) (x : Cmd) (n : Int) (hn : n ≠ x.node) :
    (requestC lim nxt l ix x).held.filter (fun h => h.node == n) = l.filter (fun h => h.node == n) := by
  have hpos : ∀ y ∈ l, 0 < y.token := fun y hy => by have := (h.held y hy).1; omega
  have hins : ∀ (l : List Held) (y : Held), y.node ≠ n → (refWith l y).filter (fun h => h.node == n) = l.filter (fun h => h.node == n) := by
    intro l y hy
    induction l with
    | nil => simp [refWith, hy]
    | cons g l ih =>
      rw [refWith_cons]
      split
      · simp [hy]
      · rw [List.filter_cons, List.filter_cons, ih]
  rw [← request_eq h.srt hpos]
  unfold requestR
  split
  · unfold grantR
    split
    · rfl
    · exact hins _ _ (by show x.node ≠ n; exact fun h => hn h.symm)
  · rw [find_srt h.srt]
    by_cases hi : isHeld l x.token = true
    · rw [if_pos hi]
      obtain ⟨hplt, htok⟩ := isHeld_lt hi
      have hzm : l.getD (posHeld l x.token) default ∈ l := by rw [getD_of hplt]; exact List.getElem_mem hplt
      generalize hz : l.getD (posHeld l x.token) default = z at *
      show ((if z.serial = x.serial ∧ z.node = x.node ∧ z.boot = x.boot then _ else _ : Gr).held).filter _ = _
      split
      · rename_i hq
        have hwo : (refWithout l x.token).filter (fun h => h.node == n) = l.filter (fun h => h.node == n) := by
          unfold refWithout
          rw [List.filter_filter]
          apply List.filter_congr
          intro y hy
          by_cases he : y.token = x.token
          · have : y = z := by
              exact uniq_tok h.srt hy hzm (he.trans htok.symm)
            subst this
            have : ¬ y.node = n := fun hh => hn (hh.symm.trans hq.2.1)
            simp [this]
          · simp [he]
        split
        · exact hwo
        · show (refWith (refWithout l x.token) { z with stamp := ix }).filter _ = _
          rw [hins _ _ (by show z.node ≠ n; exact fun hh => hn (hh.symm.trans hq.2.1)), hwo]
      · rfl
    · rw [if_neg hi]
theorem apply_others {lim nxt : Int} {l : List Held} {m : List Last} (h : LedOk lim nxt l m) (ix : Int) (x : Rlo.Ent) (he : (applyC lim nxt l m ix x).err = 0) (hk6 : x.kind ≠ 6) (n : Int) (hn : n ≠ x.node) :
    (applyC lim nxt l m ix x).held.filter (fun h => h.node == n) = l.filter (fun h => h.node == n) := by
  rcases apply_cases h ix x with ⟨_, e⟩ | ⟨_, _, e⟩ | ⟨_, _, _, e⟩ | ⟨_, _, h6, _⟩ | ⟨hc, hi, hk, ⟨a, y, _, _, e⟩ | ⟨_, e⟩⟩
  · rw [e] at he; cases he
  · rw [e] at he; cases he
  · rw [e]
  · exact absurd h6 hk6
  · rw [e]
  · rw [e, doneR_eq h]
    exact request_others h ix (toCmd x) n hn
/-- what a node's last request came to -/
def lastOf (m : List Last) (n : Int) : Option Last := m.find? (fun y => y.node == n)
theorem apply_last {lim nxt : Int} {l : List Held} {m : List Last} (h : LedOk lim nxt l m) (ix : Int) (x : Rlo.Ent) (he : (applyC lim nxt l m ix x).err = 0) (n : Int) (hn : n ≠ x.node) : lastOf (applyC lim nxt l m ix x).last n = lastOf m n := by
  rcases apply_cases h ix x with ⟨_, e⟩ | ⟨_, _, e⟩ | ⟨_, _, _, e⟩ | ⟨_, _, _, e | e⟩ | ⟨hc, hi, hk, ⟨a, y, _, _, e⟩ | ⟨_, e⟩⟩
  · rw [e] at he; cases he
  · rw [e] at he; cases he
  · rw [e]
  · rw [e]
  · rw [e]
  · rw [e]
  · rw [e, doneR_eq h]
    show (refLast m _).find? _ = _
    rw [refLast_find h.srtL, if_neg hn]
    rfl
/-- a request has been done: what it would be told again -/
def Told (m : List Last) (x : Rlo.Ent) (a : Ans) : Prop := ∃ y, lastOf m x.node = some y ∧ hit x y = some a
theorem told_of {lim nxt : Int} {l : List Held} {m : List Last} (h : LedOk lim nxt l m) (ix : Int) (x : Rlo.Ent) (he : (applyC lim nxt l m ix x).err = 0) (hk : x.kind = 3 ∨ x.kind = 4 ∨ x.kind = 5) : Rlo.cmdOk x = true ∧ Told (applyC lim nxt l m ix x).last x (applyC lim nxt l m ix x).ans := by
  rcases apply_cases h ix x with ⟨_, e⟩ | ⟨_, _, e⟩ | ⟨_, _, _, e⟩ | ⟨_, _, _, e⟩ | ⟨hc, hi, _, ⟨a, y, hy, hh, e⟩ | ⟨_, e⟩⟩
  · rw [e] at he; cases he
  · rw [e] at he; cases he
  · omega
  · omega
  · rw [e]; exact ⟨hc, y, hy, hh⟩
  · rw [e, doneR_eq h]
    refine ⟨hc, ⟨x.node, x.boot, x.seq, (requestC lim nxt l ix (toCmd x)).ans⟩, ?_, ?_⟩
    · show (refLast m _).find? _ = _
      rw [refLast_find h.srtL, if_pos rfl]
    · unfold hit
      rw [if_pos rfl, if_neg (by show ¬ (x.boot < x.boot ∨ x.boot = x.boot ∧ x.seq < x.seq); omega), if_pos ⟨rfl, rfl⟩]
theorem told_again {lim nxt : Int} {l : List Held} {m : List Last} (h : LedOk lim nxt l m) {ix : Int} (hix : ix ≠ 0) {x : Rlo.Ent} (hc : Rlo.cmdOk x = true) (hk : x.kind = 3 ∨ x.kind = 4 ∨ x.kind = 5) {a : Ans} (ht : Told m x a) : applyC lim nxt l m ix x = ⟨lim, nxt, l, m, a, 0⟩ := by
  obtain ⟨z, hz, hh⟩ := ht
  unfold lastOf at hz
  rcases apply_cases h ix x with ⟨e, _⟩ | ⟨_, e, _⟩ | ⟨_, _, e, _⟩ | ⟨_, _, e, _⟩ | ⟨_, _, _, ⟨b, y, hy, hb, e⟩ | ⟨hno, e⟩⟩
  · rw [hc] at e; cases e
  · exact absurd e hix
  · omega
  · omega
  · rw [hz] at hy
    cases hy
    rw [hh] at hb
    cases hb
    exact e
  · have := hno z hz
    rw [hh] at this
    cases this
/-- what a grant tells -/
theorem apply_grant {lim nxt : Int} {l : List Held} {m : List Last} (h : LedOk lim nxt l m) (ix : Int) (x : Rlo.Ent) (he : (applyC lim nxt l m ix x).err = 0) :
    (applyC lim nxt l m ix x).held.length ≤ l.length + 1 ∧ ((applyC lim nxt l m ix x).held.length : Int) ≤ lim ∧
    (l.length < (applyC lim nxt l m ix x).held.length → (applyC lim nxt l m ix x).ans.serial = nxt ∧ (applyC lim nxt l m ix x).nxt = nxt + 1 ∧ 1 ≤ (applyC lim nxt l m ix x).ans.token ∧ (applyC lim nxt l m ix x).ans.token ≤ lim ∧ refFind l (applyC lim nxt l m ix x).ans.token = none) := by
  have hpos : ∀ y ∈ l, 0 < y.token := fun y hy => by have := (h.held y hy).1; omega
  have hlen : (l.length : Int) ≤ lim := by
    have hstep : ∀ q, q < l.length → (q : Int) + 1 ≤ (l.getD q default).token := fun q hq => by
      induction q with
      | zero => have := (h.held _ (List.getElem_mem hq)).1; rw [getD_of hq]; omega
      | succ q ih =>
        have h1 := ih (by omega)
        have h2 := List.pairwise_iff_getElem.1 h.srt q (q + 1) (by omega) hq (by omega)
        rw [getD_of (by omega)] at h1
        rw [getD_of hq]
        omega
    rcases Nat.eq_zero_or_pos l.length with h0 | h0
    · have := h.lim1; omega
    · have h1 := hstep (l.length - 1) (by omega)
      rw [getD_of (by omega)] at h1
      have h2 := (h.held _ (List.getElem_mem (show l.length - 1 < l.length by omega))).2.1
      omega
  have same : l.length ≤ l.length + 1 ∧ (l.length : Int) ≤ lim := ⟨by omega, hlen⟩
  rcases apply_cases h ix x with ⟨_, e⟩ | ⟨_, _, e⟩ | ⟨_, _, _, e⟩ | ⟨_, _, _, e | e⟩ | ⟨hc, hi, hk, ⟨a, y, _, _, e⟩ | ⟨_, e⟩⟩
  · rw [e] at he; cases he
  · rw [e] at he; cases he
  · rw [e]; exact ⟨same.1, same.2, fun hl => absurd hl (Nat.lt_irrefl _)⟩
  · rw [e]; exact ⟨same.1, same.2, fun hl => absurd hl (Nat.lt_irrefl _)⟩
  · rw [e]
    have hsub := (List.eraseIdx_sublist l (posHeld l x.token)).length_le
    refine ⟨?_, ?_, fun hl => ?_⟩
    · show (l.eraseIdx _).length ≤ _; omega
    · show ((l.eraseIdx _).length : Int) ≤ _; omega
    · have hl' : l.length < (l.eraseIdx (posHeld l x.token)).length := hl
      omega
  · rw [e]; exact ⟨same.1, same.2, fun hl => absurd hl (Nat.lt_irrefl _)⟩
  · rw [e]
    unfold doneR
    show (requestR lim nxt l ix (toCmd x)).held.length ≤ _ ∧ ((requestR lim nxt l ix (toCmd x)).held.length : Int) ≤ lim ∧ (l.length < (requestR lim nxt l ix (toCmd x)).held.length → (requestR lim nxt l ix (toCmd x)).ans.serial = nxt ∧ (requestR lim nxt l ix (toCmd x)).nxt = nxt + 1 ∧ 1 ≤ (requestR lim nxt l ix (toCmd x)).ans.token ∧ (requestR lim nxt l ix (toCmd x)).ans.token ≤ lim ∧ refFind l (requestR lim nxt l ix (toCmd x)).ans.token = none)
    unfold requestR
    split
    · unfold grantR
      split
      · exact ⟨same.1, same.2, fun hl => absurd hl (Nat.lt_irrefl _)⟩
      · rename_i hno
        obtain ⟨hl1, hl2⟩ := gap_small (fun h => hno (.inl h)) h.lim1
        have hp := (refWith_perm l ⟨(gap l : Int) + 1, (toCmd x).node, (toCmd x).boot, nxt, ix⟩).length_eq
        rw [List.length_cons] at hp
        have hg := gap_le l
        refine ⟨?_, ?_, fun _ => ⟨rfl, rfl, ?_, ?_, ?_⟩⟩
        · show (refWith l _).length ≤ _; omega
        · show ((refWith l _).length : Int) ≤ _; omega
        · show 1 ≤ (gap l : Int) + 1; omega
        · show (gap l : Int) + 1 ≤ lim; omega
        · exact find_gapNo l 0 h.srt hpos
    · rw [find_srt h.srt]
      by_cases hi' : isHeld l (toCmd x).token = true
      · rw [if_pos hi']
        have hrn := fun z (hz : z.token = (toCmd x).token) => renew_srt h.srt (toCmd x).token z hz hi'
        obtain ⟨hplt, htok⟩ := isHeld_lt hi'
        have hw := without_srt h.srt (toCmd x).token
        rw [if_pos hi'] at hw
        generalize hz : l.getD (posHeld l (toCmd x).token) default = z at *
        have hsub := (List.eraseIdx_sublist l (posHeld l (toCmd x).token)).length_le
        by_cases hq : z.serial = (toCmd x).serial ∧ z.node = (toCmd x).node ∧ z.boot = (toCmd x).boot
        · simp only [if_pos hq]
          split
          · rw [hw]
            refine ⟨?_, ?_, fun hl => ?_⟩
            · show (l.eraseIdx _).length ≤ _; omega
            · show ((l.eraseIdx _).length : Int) ≤ _; omega
            · have hl' : l.length < (l.eraseIdx (posHeld l (toCmd x).token)).length := hl
              omega
          · rw [hrn { z with stamp := ix } htok]
            refine ⟨?_, ?_, fun hl => ?_⟩
            · show (l.set _ _).length ≤ _; rw [List.length_set]; omega
            · show ((l.set _ _).length : Int) ≤ _; rw [List.length_set]; omega
            · have hl' : l.length < (l.set (posHeld l (toCmd x).token) { z with stamp := ix }).length := hl
              rw [List.length_set] at hl'
              omega
        · simp only [if_neg hq]
          exact ⟨same.1, same.2, fun hl => absurd hl (Nat.lt_irrefl _)⟩
      · rw [if_neg hi']
        exact ⟨same.1, same.2, fun hl => absurd hl (Nat.lt_irrefl _)⟩
end Go.Proofs.Ytekjihmepdhmeaa.Led
