/- Lemmas towards the law: what of the text LeL it needs. -/
import Derived.Test.YtekjihmepdhmeaaLeG0q
namespace Go.Proofs.Ytekjihmepdhmeaa.Led
open Go.RowKit Go.Proofs.YtekjihmepdhmeaaW.PrintWords Go.Proofs.Ytekjihmepdhmeaa.Sl
set_option linter.unusedVariables false
set_option linter.unusedSimpArgs false
structure LedOk (lim nxt : Int) (l : List Held) (m : List Last) : Prop where
  lim1 : 1 ≤ lim
  lim2 : lim ≤ 65535
  nxt1 : 1 ≤ nxt
  len : l.length ≤ 64
  srt : l.Pairwise (fun a b => a.token < b.token)
  held : ∀ h ∈ l, 1 ≤ h.token ∧ h.token ≤ lim ∧ 1 ≤ h.node ∧ h.node ≤ 7 ∧ 1 ≤ h.boot ∧ 1 ≤ h.stamp ∧ 1 ≤ h.serial ∧ h.serial < nxt
  ser : l.Pairwise (fun a b => a.serial ≠ b.serial)
  srtL : m.Pairwise (fun a b => a.node < b.node)
  last : ∀ x ∈ m, 1 ≤ x.node ∧ x.node ≤ 7 ∧ 1 ≤ x.boot ∧ 1 ≤ x.seq ∧ okAns lim nxt x.ans = true
theorem getD_of {α : Type} [Inhabited α] {l : List α} {i : Nat} (hi : i < l.length) : l.getD i default = l[i] := by
  rw [List.getD_eq_getElem?_getD, List.getElem?_eq_getElem hi, Option.getD_some]
theorem hOk_iff {lim nxt : Int} {l : List Held} {i : Nat} : hOk lim nxt l i = true ↔ ((0 < i → (l.getD (i - 1) default).token < (l.getD i default).token) ∧ 1 ≤ (l.getD i default).token ∧ (l.getD i default).token ≤ lim ∧ 1 ≤ (l.getD i default).node ∧ (l.getD i default).node ≤ 7 ∧ 1 ≤ (l.getD i default).boot ∧ 1 ≤ (l.getD i default).stamp ∧ 1 ≤ (l.getD i default).serial ∧ (l.getD i default).serial < nxt) ∧ ∀ g ∈ l.take i, g.serial ≠ (l.getD i default).serial := by
  unfold hOk hOk0
  simp only [Bool.and_eq_true, Bool.not_eq_true', Bool.or_eq_false_iff, Bool.and_eq_false_iff, decide_eq_false_iff_not, List.any_eq_false, beq_iff_eq]
  grind
theorem lOk_iff {lim nxt : Int} {m : List Last} {i : Nat} : lOk lim nxt m i = true ↔ ((0 < i → (m.getD (i - 1) default).node < (m.getD i default).node) ∧ 1 ≤ (m.getD i default).node ∧ (m.getD i default).node ≤ 7 ∧ 1 ≤ (m.getD i default).boot ∧ 1 ≤ (m.getD i default).seq ∧ okAns lim nxt (m.getD i default).ans = true) := by
  unfold lOk
  simp only [Bool.not_eq_true', Bool.or_eq_false_iff, Bool.and_eq_false_iff, decide_eq_false_iff_not, Bool.not_eq_false']
  grind
theorem isLed_iff {lim nxt : Int} {l : List Held} {m : List Last} : isLed lim nxt l m = true ↔ LedOk lim nxt l m := by
  constructor
  · intro h
    obtain ⟨⟨h1, h2, h3, h4⟩, hA, hL⟩ := isLed_parts h
    have hA' := of_decide_eq_true hA
    have hL' := of_decide_eq_true hL
    refine ⟨h1, h2, h3, h4, srt_pw (srt_of hA), fun h hh => ?_, ?_, srtL_pw (srtL_of hL), fun x hx => ?_⟩
    · obtain ⟨i, hi, rfl⟩ := List.getElem_of_mem hh
      have := (hOk_iff.1 (hA' i hi)).1.2
      rwa [getD_of hi] at this
    · rw [List.pairwise_iff_getElem]
      intro i j hi hj hij
      have := (hOk_iff.1 (hA' j hj)).2 l[i] (List.mem_take_iff_getElem.2 ⟨i, by omega, rfl⟩)
      rwa [getD_of hj] at this
    · obtain ⟨i, hi, rfl⟩ := List.getElem_of_mem hx
      have := (lOk_iff.1 (hL' i hi)).2
      rwa [getD_of hi] at this
  · intro h
    unfold isLed good0
    simp only [Bool.and_eq_true, decide_eq_true_eq]
    refine ⟨⟨⟨⟨⟨h.lim1, h.lim2⟩, h.nxt1⟩, h.len⟩, ?_⟩, ?_⟩
    · unfold hAll
      rw [decide_eq_true_eq]
      intro i hi
      refine hOk_iff.2 ⟨⟨fun h0 => ?_, ?_⟩, fun g hg => ?_⟩
      · rw [getD_of hi, getD_of (show i - 1 < l.length by omega)]
        exact List.pairwise_iff_getElem.1 h.srt (i - 1) i (by omega) hi (by omega)
      · rw [getD_of hi]
        exact h.held _ (List.getElem_mem hi)
      · obtain ⟨j, hj, rfl⟩ := List.mem_take_iff_getElem.1 hg
        rw [getD_of hi]
        exact List.pairwise_iff_getElem.1 h.ser j i (by omega) hi (by omega)
    · unfold lAll
      rw [decide_eq_true_eq]
      intro i hi
      refine lOk_iff.2 ⟨fun h0 => ?_, ?_⟩
      · rw [getD_of hi, getD_of (show i - 1 < m.length by omega)]
        exact List.pairwise_iff_getElem.1 h.srtL (i - 1) i (by omega) hi (by omega)
      · rw [getD_of hi]
        exact h.last _ (List.getElem_mem hi)
theorem refWith_cons {h : Held} {l : List Held} {x : Held} : refWith (h :: l) x = if x.token < h.token then x :: h :: l else h :: refWith l x := by
  unfold refWith
  by_cases hx : x.token < h.token <;> simp [hx]
theorem refWith_perm (l : List Held) (x : Held) : (refWith l x).Perm (x :: l) := by
  induction l with
  | nil => simp [refWith]
  | cons h l ih =>
    rw [refWith_cons]
    split
    · exact List.Perm.refl _
    · exact (List.Perm.cons h ih).trans (List.Perm.swap x h l)
theorem refWith_srt {l : List Held} {x : Held} (hs : l.Pairwise (fun a b => a.token < b.token)) (hx : ∀ y ∈ l, y.token ≠ x.token) : (refWith l x).Pairwise (fun a b => a.token < b.token) := by
  induction l with
  | nil => simp [refWith]
  | cons h l ih =>
    rw [List.pairwise_cons] at hs
    rw [refWith_cons]
    have hne := hx h (List.mem_cons_self ..)
    split
    · rename_i hlt
      refine List.Pairwise.cons (fun y hy => ?_) (List.Pairwise.cons hs.1 hs.2)
      rcases List.mem_cons.1 hy with rfl | hy
      · exact hlt
      · have := hs.1 y hy; omega
    · rename_i hlt
      refine List.Pairwise.cons (fun y hy => ?_) (ih hs.2 (fun y hy => hx y (List.mem_cons_of_mem _ hy)))
      rcases List.mem_cons.1 ((refWith_perm l x).mem_iff.1 hy) with rfl | hy
      · omega
      · exact hs.1 y hy
theorem refLast_cons {h : Last} {m : List Last} {x : Last} : refLast (h :: m) x = if x.node ≤ h.node then x :: (h :: m).filter (fun y => y.node != x.node) else h :: refLast m x := by
  unfold refLast
  by_cases hx : x.node ≤ h.node <;> simp [hx]
theorem refLast_mem {m : List Last} {x y : Last} (hs : m.Pairwise (fun a b => a.node < b.node)) : y ∈ refLast m x ↔ y = x ∨ (y ∈ m ∧ y.node ≠ x.node) := by
  induction m with
  | nil => simp [refLast]
  | cons h m ih =>
    rw [List.pairwise_cons] at hs
    rw [refLast_cons]
    split
    · simp only [List.mem_cons, List.mem_filter, bne_iff_ne]
    · rw [List.mem_cons, ih hs.2]
      constructor
      · rintro (rfl | rfl | ⟨h1, h2⟩)
        · exact .inr ⟨List.mem_cons_self .., by omega⟩
        · exact .inl rfl
        · exact .inr ⟨List.mem_cons_of_mem _ h1, h2⟩
      · rintro (rfl | ⟨h1, h2⟩)
        · exact .inr (.inl rfl)
        · rcases List.mem_cons.1 h1 with rfl | h1
          · exact .inl rfl
          · exact .inr (.inr ⟨h1, h2⟩)
theorem refLast_srt {m : List Last} {x : Last} (hs : m.Pairwise (fun a b => a.node < b.node)) : (refLast m x).Pairwise (fun a b => a.node < b.node) := by
  induction m with
  | nil => simp [refLast]
  | cons h m ih =>
    have hs0 := hs
    rw [List.pairwise_cons] at hs
    rw [refLast_cons]
    split
    · rename_i hle
      refine List.Pairwise.cons (fun y hy => ?_) (hs0.filter _)
      rw [List.mem_filter, bne_iff_ne] at hy
      rcases List.mem_cons.1 hy.1 with rfl | h1
      · have := hy.2; omega
      · have := hs.1 y h1; omega
    · rename_i hle
      refine List.Pairwise.cons (fun y hy => ?_) (ih hs.2)
      rcases (refLast_mem hs.2).1 hy with rfl | ⟨h1, _⟩
      · omega
      · exact hs.1 y h1
structure CmdGood (x : Rlo.Ent) : Prop where
  kind : 1 ≤ x.kind ∧ x.kind ≤ 6
  req : (x.kind = 3 ∨ x.kind = 4 ∨ x.kind = 5) → 1 ≤ x.node ∧ x.node ≤ 7 ∧ 1 ≤ x.boot ∧ 1 ≤ x.seq
  non : ¬ (x.kind = 3 ∨ x.kind = 4 ∨ x.kind = 5) → x.node = 0
theorem cmdGood {x : Rlo.Ent} (h : Rlo.cmdOk x = true) : CmdGood x := by
  rw [Rlo.cmdOk_parts] at h
  simp only [Bool.and_eq_true] at h
  obtain ⟨⟨⟨⟨h1, _⟩, h2⟩, _⟩, _⟩ := h
  unfold Rlo.kI at h1
  rw [Bool.and_eq_true, decide_eq_true_eq, decide_eq_true_eq] at h1
  have hk : Rlo.kR x.kind = true ↔ (x.kind = 3 ∨ x.kind = 4 ∨ x.kind = 5) := by
    unfold Rlo.kR
    simp only [Bool.or_eq_true, beq_iff_eq]
    omega
  refine ⟨h1, fun h => ?_, fun h => ?_⟩
  · have hr := hk.2 h
    unfold Rlo.reqOk at h2
    rw [if_pos hr] at h2
    simp only [Bool.and_eq_true, decide_eq_true_eq] at h2
    omega
  · have hr : ¬ Rlo.kR x.kind = true := fun h' => h (hk.1 h')
    unfold Rlo.reqOk at h2
    rw [if_neg hr] at h2
    simp only [Bool.and_eq_true, beq_iff_eq] at h2
    exact h2.1.1
theorem okAns_mono {lim nxt nxt' : Int} {a : Ans} (hle : nxt ≤ nxt') (h : okAns lim nxt a = true) : okAns lim nxt' a = true := by
  unfold okAns at h ⊢
  split at h
  · rename_i hc
    rw [if_pos hc]
    simp only [Bool.and_eq_true, decide_eq_true_eq] at h ⊢
    omega
  · rename_i hc
    rw [if_neg hc]
    exact h
theorem gap_small {lim : Int} {l : List Held} (h : freeI lim l.length ≠ 0) (h1 : 1 ≤ lim) : l.length < 64 ∧ (l.length : Int) < lim := by
  unfold freeI at h
  omega
/-- what a request makes of the rows -/
theorem request_keeps {lim nxt : Int} {l : List Held} {m : List Last} (h : LedOk lim nxt l m) {ix : Int} (hix : 1 ≤ ix) {x : Cmd} (hnode : 1 ≤ x.node ∧ x.node ≤ 7) (hboot : 1 ≤ x.boot) :
    LedOk lim (requestC lim nxt l ix x).nxt (requestC lim nxt l ix x).held m ∧ okAns lim (requestC lim nxt l ix x).nxt (requestC lim nxt l ix x).ans = true ∧ nxt ≤ (requestC lim nxt l ix x).nxt ∧ (nxt < 18446744073709551616 → (requestC lim nxt l ix x).nxt < 18446744073709551616) := by
  have hpos : ∀ y ∈ l, 0 < y.token := fun y hy => by have := (h.held y hy).1; omega
  rw [← request_eq h.srt hpos]
  have same : ∀ c, 2 ≤ c → c ≤ 5 → LedOk lim nxt l m ∧ okAns lim nxt ⟨c, 0, 0⟩ = true ∧ nxt ≤ nxt ∧ (nxt < 18446744073709551616 → nxt < 18446744073709551616) := fun c h1 h2 =>
    ⟨h, by
      unfold okAns
      rw [if_neg (show ¬ c = 1 by omega)]
      simp
      omega, Int.le_refl _, id⟩
  unfold requestR
  split
  · unfold grantR
    split
    · exact same 2 (by omega) (by omega)
    · rename_i hno
      have hf : freeI lim l.length ≠ 0 := fun h => hno (.inl h)
      have hmx : nxt ≠ 18446744073709551615 := fun h => hno (.inr h)
      obtain ⟨hl1, hl2⟩ := gap_small hf h.lim1
      have hg := gap_le l
      have hno2 := find_gapNo l 0 h.srt hpos
      unfold refFind at hno2
      rw [List.find?_eq_none] at hno2
      have hfr : ∀ y ∈ l, y.token ≠ (gap l : Int) + 1 := fun y hy he => by
        have := hno2 y hy
        simp only [beq_iff_eq] at this
        exact this he
      have hp := refWith_perm l ⟨(gap l : Int) + 1, x.node, x.boot, nxt, ix⟩
      refine ⟨⟨h.lim1, h.lim2, by show 1 ≤ nxt + 1; have := h.nxt1; omega, ?_, refWith_srt h.srt hfr, fun y hy => ?_, ?_, h.srtL, fun y hy => ?_⟩, ?_, by show nxt ≤ nxt + 1; omega, fun hb => by show nxt + 1 < _; omega⟩
      · show (refWith l _).length ≤ 64
        rw [hp.length_eq, List.length_cons]; omega
      · have hn1 := h.nxt1
        rcases List.mem_cons.1 (hp.mem_iff.1 hy) with rfl | hy
        · show 1 ≤ (gap l : Int) + 1 ∧ (gap l : Int) + 1 ≤ lim ∧ 1 ≤ x.node ∧ x.node ≤ 7 ∧ 1 ≤ x.boot ∧ 1 ≤ ix ∧ 1 ≤ nxt ∧ nxt < nxt + 1
          omega
        · have := h.held y hy
          show 1 ≤ y.token ∧ y.token ≤ lim ∧ 1 ≤ y.node ∧ y.node ≤ 7 ∧ 1 ≤ y.boot ∧ 1 ≤ y.stamp ∧ 1 ≤ y.serial ∧ y.serial < nxt + 1
          omega
      · refine (hp.pairwise_iff (fun {a b} hab => Ne.symm hab)).2 (List.Pairwise.cons (fun y hy => ?_) h.ser)
        have := (h.held y hy).2.2.2.2.2.2.2
        show nxt ≠ y.serial
        omega
      · obtain ⟨h1, h2, h3, h4, h5⟩ := h.last y hy
        exact ⟨h1, h2, h3, h4, okAns_mono (by show nxt ≤ nxt + 1; omega) h5⟩
      · unfold okAns
        rw [if_pos rfl]
        simp only [Bool.and_eq_true, decide_eq_true_eq]
        have hn1 := h.nxt1
        omega
  · rw [find_srt h.srt]
    by_cases hi : isHeld l x.token = true
    · rw [if_pos hi]
      obtain ⟨hplt, htok⟩ := isHeld_lt hi
      have hw := without_srt h.srt x.token
      rw [if_pos hi] at hw
      have hrn := renew_srt h.srt x.token { l.getD (posHeld l x.token) default with stamp := ix } htok hi
      generalize hz : l.getD (posHeld l x.token) default = z at *
      show (LedOk lim (if z.serial = x.serial ∧ z.node = x.node ∧ z.boot = x.boot then _ else _ : Gr).nxt (if z.serial = x.serial ∧ z.node = x.node ∧ z.boot = x.boot then _ else _ : Gr).held m ∧ okAns lim (if z.serial = x.serial ∧ z.node = x.node ∧ z.boot = x.boot then _ else _ : Gr).nxt (if z.serial = x.serial ∧ z.node = x.node ∧ z.boot = x.boot then _ else _ : Gr).ans = true ∧ nxt ≤ (if z.serial = x.serial ∧ z.node = x.node ∧ z.boot = x.boot then _ else _ : Gr).nxt ∧ (nxt < 18446744073709551616 → (if z.serial = x.serial ∧ z.node = x.node ∧ z.boot = x.boot then _ else _ : Gr).nxt < 18446744073709551616))
      split
      · split
        · rw [hw]
          obtain ⟨_, ha, hb, hc⟩ := same 5 (by omega) (by omega)
          have hsub := List.eraseIdx_sublist l (posHeld l x.token)
          exact ⟨⟨h.lim1, h.lim2, h.nxt1, Nat.le_trans hsub.length_le h.len, h.srt.sublist hsub, fun y hy => h.held y (hsub.subset hy), h.ser.sublist hsub, h.srtL, h.last⟩, ha, hb, hc⟩
        · rw [hrn]
          obtain ⟨_, ha, hb, hc⟩ := same 3 (by omega) (by omega)
          have hzg : l[posHeld l x.token]? = some z := by
            rw [List.getD_eq_getElem?_getD, List.getElem?_eq_getElem hplt, Option.getD_some] at hz
            rw [List.getElem?_eq_getElem hplt, hz]
          have hmap : ∀ (f : Held → Int), f { z with stamp := ix } = f z → (l.set (posHeld l x.token) { z with stamp := ix }).map f = l.map f := fun f hf => by
            rw [List.map_set, hf]
            apply List.ext_getElem?
            intro j
            rw [List.getElem?_set]
            split
            · rename_i e
              subst e
              rw [List.length_map, if_pos hplt, List.getElem?_map, hzg]
              rfl
            · rfl
          refine ⟨⟨h.lim1, h.lim2, h.nxt1, by rw [List.length_set]; exact h.len, ?_, fun y hy => ?_, ?_, h.srtL, h.last⟩, ha, hb, hc⟩
          · have h1 : (l.map (·.token)).Pairwise (· < ·) := List.pairwise_map.2 h.srt
            rw [← hmap (·.token) rfl] at h1
            exact List.pairwise_map.1 h1
          · rcases List.mem_or_eq_of_mem_set hy with hy | rfl
            · exact h.held y hy
            · have := h.held z (List.mem_of_getElem? hzg)
              show 1 ≤ z.token ∧ z.token ≤ lim ∧ 1 ≤ z.node ∧ z.node ≤ 7 ∧ 1 ≤ z.boot ∧ 1 ≤ ix ∧ 1 ≤ z.serial ∧ z.serial < nxt
              omega
          · have h1 : (l.map (·.serial)).Pairwise (· ≠ ·) := List.pairwise_map.2 h.ser
            rw [← hmap (·.serial) rfl] at h1
            exact List.pairwise_map.1 h1
      · exact same 4 (by omega) (by omega)
    · rw [if_neg hi]
      exact same 4 (by omega) (by omega)
end Go.Proofs.Ytekjihmepdhmeaa.Led
