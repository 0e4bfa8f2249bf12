/- Lemmas towards the law: what of the text LeG0 it needs. -/
import Derived.Test.YtekjihmepdhmeaaLeF0q
namespace Go.Proofs.Ytekjihmepdhmeaa.Led
open Go.RowKit Go.Proofs.YtekjihmepdhmeaaW.PrintWords Go.Proofs.Ytekjihmepdhmeaa.Sl
set_option linter.unusedVariables false
set_option linter.unusedSimpArgs false
def refFind (l : List Held) (t : Int) : Option Held := l.find? (fun h => h.token == t)
def refWithout (l : List Held) (t : Int) : List Held := l.filter (fun h => h.token != t)
def refWith (l : List Held) (x : Held) : List Held := l.takeWhile (fun h => !decide (x.token < h.token)) ++ x :: l.dropWhile (fun h => !decide (x.token < h.token))
def refLast (m : List Last) (x : Last) : List Last := m.takeWhile (fun y => !decide (x.node ≤ y.node)) ++ x :: (m.dropWhile (fun y => !decide (x.node ≤ y.node))).filter (fun y => y.node != x.node)
theorem srt_pw {l : List Held} (h : srtHeld l) : l.Pairwise (fun a b => a.token < b.token) := by
  rw [List.pairwise_iff_getElem]
  intro i j hi hj hij
  have := h i j hij hj
  rwa [List.getD_eq_getElem?_getD, List.getD_eq_getElem?_getD, List.getElem?_eq_getElem hi, List.getElem?_eq_getElem hj] at this
theorem srtL_pw {l : List Last} (h : srtLast l) : l.Pairwise (fun a b => a.node < b.node) := by
  rw [List.pairwise_iff_getElem]
  intro i j hi hj hij
  have := h i j hij hj
  rwa [List.getD_eq_getElem?_getD, List.getD_eq_getElem?_getD, List.getElem?_eq_getElem hi, List.getElem?_eq_getElem hj] at this
theorem posHeld_cons (h : Held) (l : List Held) (t : Int) : posHeld (h :: l) t = if h.token < t then posHeld l t + 1 else 0 := by
  unfold posHeld
  by_cases hx : h.token < t <;> simp [hx]
theorem posLast_cons (h : Last) (l : List Last) (t : Int) : posLast (h :: l) t = if h.node < t then posLast l t + 1 else 0 := by
  unfold posLast
  by_cases hx : h.node < t <;> simp [hx]
theorem isHeld_cons (h : Held) (l : List Held) (t : Int) : isHeld (h :: l) t = if h.token < t then isHeld l t else decide (h.token = t) := by
  unfold isHeld
  rw [posHeld_cons]
  by_cases hx : h.token < t <;> simp [hx]
theorem isLast_cons (h : Last) (l : List Last) (t : Int) : isLast (h :: l) t = if h.node < t then isLast l t else decide (h.node = t) := by
  unfold isLast
  rw [posLast_cons]
  by_cases hx : h.node < t <;> simp [hx]
theorem getHeld_cons (h : Held) (l : List Held) (t : Int) (hx : h.token < t) : (h :: l).getD (posHeld (h :: l) t) default = l.getD (posHeld l t) default := by
  rw [posHeld_cons, if_pos hx]
  simp
theorem find_srt {l : List Held} (hs : l.Pairwise (fun a b => a.token < b.token)) (t : Int) : refFind l t = if isHeld l t = true then some (l.getD (posHeld l t) default) else none := by
  induction l with
  | nil => simp [refFind, isHeld]
  | cons h l ih =>
    rw [List.pairwise_cons] at hs
    have ih := ih hs.2
    unfold refFind at ih ⊢
    rw [isHeld_cons, List.find?_cons]
    by_cases hx : h.token < t
    · have hne : (h.token == t) = false := beq_eq_false_iff_ne.2 (by omega)
      rw [hne, ih, if_pos hx, getHeld_cons h l t hx]
    · rw [if_neg hx]
      by_cases he : h.token = t
      · have hq : (h.token == t) = true := beq_iff_eq.2 he
        rw [hq, posHeld_cons, if_neg hx]
        simp [he]
      · have hne : (h.token == t) = false := beq_eq_false_iff_ne.2 he
        rw [hne, if_neg (by simp [he])]
        rw [List.find?_eq_none]
        intro y hy
        have := hs.1 y hy
        simp
        omega
theorem filter_ne {l : List Held} {t : Int} (h : ∀ y ∈ l, t < y.token) : l.filter (fun h => h.token != t) = l := by
  rw [List.filter_eq_self]
  intro y hy
  have := h y hy
  simp
  omega
theorem without_srt {l : List Held} (hs : l.Pairwise (fun a b => a.token < b.token)) (t : Int) : refWithout l t = if isHeld l t = true then l.eraseIdx (posHeld l t) else l := by
  induction l with
  | nil => simp [refWithout, isHeld]
  | cons h l ih =>
    rw [List.pairwise_cons] at hs
    have ih := ih hs.2
    unfold refWithout at ih ⊢
    rw [isHeld_cons, posHeld_cons]
    by_cases hx : h.token < t
    · have hne : (h.token != t) = true := by simp; omega
      rw [List.filter_cons, if_pos hne, ih, if_pos hx, if_pos hx]
      split <;> simp
    · rw [if_neg hx, if_neg hx]
      by_cases he : h.token = t
      · have hne : ¬ (h.token != t) = true := by simp [he]
        rw [List.filter_cons, if_neg hne, filter_ne (fun y hy => by have := hs.1 y hy; omega)]
        simp [he]
      · have hne : (h.token != t) = true := by simp [he]
        rw [List.filter_cons, if_pos hne, filter_ne (fun y hy => by have := hs.1 y hy; omega), if_neg (by simp [he])]
theorem refWith_lt {l : List Held} {x : Held} (h : ∀ y ∈ l, x.token < y.token) : refWith l x = x :: l := by
  cases l with
  | nil => rfl
  | cons y l => simp [refWith, h y (List.mem_cons_self ..)]
theorem refWith_le {h : Held} {l : List Held} {x : Held} (hx : ¬ x.token < h.token) : refWith (h :: l) x = h :: refWith l x := by
  simp [refWith, hx]
theorem renew_srt {l : List Held} (hs : l.Pairwise (fun a b => a.token < b.token)) (t : Int) (y : Held) (hy : y.token = t) (hi : isHeld l t = true) : refWith (refWithout l t) y = l.set (posHeld l t) y := by
  induction l with
  | nil => simp [isHeld] at hi
  | cons h l ih =>
    rw [List.pairwise_cons] at hs
    rw [isHeld_cons] at hi
    rw [posHeld_cons]
    unfold refWithout at ih ⊢
    by_cases hx : h.token < t
    · rw [if_pos hx] at hi
      have hne : (h.token != t) = true := by simp; omega
      rw [List.filter_cons, if_pos hne, refWith_le (by omega), ih hs.2 hi, if_pos hx]
      simp
    · rw [if_neg hx, decide_eq_true_eq] at hi
      have hne : ¬ (h.token != t) = true := by simp [hi]
      rw [List.filter_cons, if_neg hne, filter_ne (fun y hy => by have := hs.1 y hy; omega), if_neg hx, refWith_lt (fun z hz => by have := hs.1 z hz; omega)]
      simp
/-- the row that grant makes stands at the gap -/
theorem with_gap (l : List Held) (i : Nat) (hs : l.Pairwise (fun a b => a.token < b.token)) (h1 : ∀ y ∈ l, (i : Int) < y.token) (x : Held) (hx : x.token = (gapGo l i : Int) + 1) : refWith l x = l.take (gapGo l i - i) ++ x :: l.drop (gapGo l i - i) := by
  induction l generalizing i with
  | nil => simp [refWith]
  | cons h l ih =>
    rw [List.pairwise_cons] at hs
    have h0 := h1 h (List.mem_cons_self ..)
    by_cases ht : h.token = (i : Int) + 1
    · have hg : gapGo (h :: l) i = gapGo l (i + 1) := by simp [gapGo, ht]
      have hle := (gapGo_le l (i + 1)).1
      rw [hg] at hx ⊢
      rw [refWith_le (by omega), ih (i + 1) hs.2 (fun y hy => by have := hs.1 y hy; omega) hx]
      rw [show gapGo l (i + 1) - i = (gapGo l (i + 1) - (i + 1)) + 1 by omega]
      simp
    · have hg : gapGo (h :: l) i = i := by simp [gapGo, ht]
      rw [hg] at hx ⊢
      rw [refWith_lt (fun y hy => by
        rcases List.mem_cons.1 hy with rfl | hy
        · omega
        · have := hs.1 y hy; omega)]
      simp
theorem find_gapNo (l : List Held) (i : Nat) (hs : l.Pairwise (fun a b => a.token < b.token)) (h1 : ∀ y ∈ l, (i : Int) < y.token) : refFind l ((gapGo l i : Int) + 1) = none := by
  induction l generalizing i with
  | nil => rfl
  | cons h l ih =>
    rw [List.pairwise_cons] at hs
    have h0 := h1 h (List.mem_cons_self ..)
    unfold refFind at ih ⊢
    by_cases ht : h.token = (i : Int) + 1
    · have hg : gapGo (h :: l) i = gapGo l (i + 1) := by simp [gapGo, ht]
      have hle := (gapGo_le l (i + 1)).1
      rw [hg, List.find?_cons]
      have : (h.token == (gapGo l (i + 1) : Int) + 1) = false := beq_eq_false_iff_ne.2 (by omega)
      rw [this]
      exact ih (i + 1) hs.2 (fun y hy => by have := hs.1 y hy; omega)
    · have hg : gapGo (h :: l) i = i := by simp [gapGo, ht]
      rw [hg, List.find?_eq_none]
      intro y hy
      rcases List.mem_cons.1 hy with rfl | hy
      · simp [ht]
      · have := hs.1 y hy
        simp
        omega
theorem filterL_ne {l : List Last} {t : Int} (h : ∀ y ∈ l, t < y.node) : l.filter (fun h => h.node != t) = l := by
  rw [List.filter_eq_self]
  intro y hy
  have := h y hy
  simp
  omega
theorem last_srt {m : List Last} (hs : m.Pairwise (fun a b => a.node < b.node)) (x : Last) : refLast m x = (roomC m x.node).set (posLast m x.node) x := by
  induction m with
  | nil => simp [refLast, roomC, isLast, posLast]
  | cons h m ih =>
    rw [List.pairwise_cons] at hs
    have ih := ih hs.2
    by_cases hx : h.node < x.node
    · have e1 : refLast (h :: m) x = h :: refLast m x := by simp [refLast, Int.not_le.2 hx]
      rw [e1, ih, posLast_cons, if_pos hx]
      unfold roomC
      rw [isLast_cons, if_pos hx, posLast_cons, if_pos hx]
      split <;> simp
    · have e1 : refLast (h :: m) x = x :: (h :: m).filter (fun y => y.node != x.node) := by simp [refLast, Int.not_lt.1 hx]
      rw [e1, posLast_cons, if_neg hx]
      unfold roomC
      rw [isLast_cons, if_neg hx, posLast_cons, if_neg hx]
      by_cases he : h.node = x.node
      · rw [List.filter_cons, if_neg (by simp [he]), filterL_ne (fun y hy => by have := hs.1 y hy; omega)]
        simp [he]
      · rw [List.filter_cons, if_pos (by simp [he]), filterL_ne (fun y hy => by have := hs.1 y hy; omega)]
        simp [he]
def grantR (lim nxt : Int) (l : List Held) (ix node boot : Int) : Gr :=
  if freeI lim l.length = 0 ∨ nxt = 18446744073709551615 then ⟨nxt, l, ⟨2, 0, 0⟩⟩
  else ⟨nxt + 1, refWith l ⟨(gap l : Int) + 1, node, boot, nxt, ix⟩, ⟨1, (gap l : Int) + 1, nxt⟩⟩
def requestR (lim nxt : Int) (l : List Held) (ix : Int) (x : Cmd) : Gr :=
  if x.kind = 3 then grantR lim nxt l ix x.node x.boot
  else match refFind l x.token with
    | none => ⟨nxt, l, ⟨4, 0, 0⟩⟩
    | some h => if h.serial = x.serial ∧ h.node = x.node ∧ h.boot = x.boot then (if x.kind = 5 then ⟨nxt, refWithout l x.token, ⟨5, 0, 0⟩⟩ else ⟨nxt, refWith (refWithout l x.token) { h with stamp := ix }, ⟨3, 0, 0⟩⟩) else ⟨nxt, l, ⟨4, 0, 0⟩⟩
/-- what a row of a node's last request answers: stale, or its own answer; nothing: go on -/
def hit (x : Rlo.Ent) (y : Last) : Option Ans :=
  if y.node = x.node then
    (if x.boot < y.boot ∨ (y.boot = x.boot ∧ x.seq < y.seq) then some ⟨6, 0, 0⟩ else if y.boot = x.boot ∧ y.seq = x.seq then some y.ans else none)
  else none
def doneR (lim nxt : Int) (l : List Held) (m : List Last) (ix : Int) (x : Rlo.Ent) : Ap :=
  ⟨lim, (requestR lim nxt l ix (toCmd x)).nxt, (requestR lim nxt l ix (toCmd x)).held, refLast m ⟨x.node, x.boot, x.seq, (requestR lim nxt l ix (toCmd x)).ans⟩, (requestR lim nxt l ix (toCmd x)).ans, 0⟩
def reclR (lim nxt : Int) (l : List Held) (m : List Last) (x : Rlo.Ent) : Ap :=
  match refFind l x.token with
  | none => ⟨lim, nxt, l, m, ⟨4, 0, 0⟩, 0⟩
  | some h => if h.serial = x.serial ∧ h.stamp = x.stamp then ⟨lim, nxt, refWithout l x.token, m, ⟨5, 0, 0⟩, 0⟩ else ⟨lim, nxt, l, m, ⟨4, 0, 0⟩, 0⟩
def applyR (lim nxt : Int) (l : List Held) (m : List Last) (ix : Int) (x : Rlo.Ent) : Ap :=
  if isLed lim nxt l m = false then ⟨0, 0, [], [], ⟨0, 0, 0⟩, 50⟩
  else if Rlo.cmdOk x = false then ⟨0, 0, [], [], ⟨0, 0, 0⟩, 40⟩
  else if ix = 0 then ⟨0, 0, [], [], ⟨0, 0, 0⟩, 1⟩
  else if x.kind = 1 ∨ x.kind = 2 then ⟨lim, nxt, l, m, ⟨0, 0, 0⟩, 0⟩
  else if x.kind = 6 then reclR lim nxt l m x
  else match m.findSome? (hit x) with
    | some a => ⟨lim, nxt, l, m, a, 0⟩
    | none => doneR lim nxt l m ix x
theorem hit_srt {m : List Last} (hs : m.Pairwise (fun a b => a.node < b.node)) (x : Rlo.Ent) : m.findSome? (hit x) = if isLast m x.node = true then hit x (m.getD (posLast m x.node) default) else none := by
  induction m with
  | nil => simp [isLast]
  | cons h m ih =>
    rw [List.pairwise_cons] at hs
    have ih := ih hs.2
    rw [isLast_cons, List.findSome?_cons, posLast_cons]
    by_cases hx : h.node < x.node
    · have e : hit x h = none := by unfold hit; rw [if_neg (by omega)]
      rw [e, if_pos hx, if_pos hx, ih]
      simp
    · rw [if_neg hx, if_neg hx]
      by_cases he : h.node = x.node
      · have hn : m.findSome? (hit x) = none := by
          rw [List.findSome?_eq_none_iff]
          intro y hy
          have := hs.1 y hy
          unfold hit
          rw [if_neg (by omega)]
        rw [hn, if_pos (by simp [he])]
        simp only [aD]
        cases hit x h <;> rfl
      · have hn : m.findSome? (hit x) = none := by
          rw [List.findSome?_eq_none_iff]
          intro y hy
          have := hs.1 y hy
          unfold hit
          rw [if_neg (by omega)]
        have e : hit x h = none := by unfold hit; rw [if_neg he]
        rw [e, hn, if_neg (by simp [he])]
theorem ordS_neg (x : Rlo.Ent) (y : Last) : ordS x y = -1 ↔ (x.boot < y.boot ∨ (y.boot = x.boot ∧ x.seq < y.seq)) := by
  unfold ordS cmpI
  grind
theorem ordS_zero (x : Rlo.Ent) (y : Last) : ordS x y = 0 ↔ (y.boot = x.boot ∧ y.seq = x.seq) := by
  unfold ordS cmpI
  grind
theorem request_eq {lim nxt : Int} {l : List Held} (hs : l.Pairwise (fun a b => a.token < b.token)) (h1 : ∀ y ∈ l, 0 < y.token) (ix : Int) (x : Cmd) : requestR lim nxt l ix x = requestC lim nxt l ix x := by
  unfold requestR requestC
  by_cases hk : x.kind = 3
  · rw [if_pos hk, if_pos hk]
    unfold grantR grantC
    rw [with_gap l 0 hs h1 _ rfl]
    rfl
  · rw [if_neg hk, if_neg hk, find_srt hs]
    by_cases hi : isHeld l x.token = true
    · rw [if_pos hi]
      obtain ⟨_, htok⟩ := isHeld_lt hi
      have hw := without_srt hs x.token
      rw [if_pos hi] at hw
      have hr := fun y hy => renew_srt hs x.token y hy hi
      have hr := hr { l.getD (posHeld l x.token) default with stamp := ix } htok
      generalize hz : l.getD (posHeld l x.token) default = z at *
      have ho : (ownB l x = false) ↔ ¬ (z.serial = x.serial ∧ z.node = x.node ∧ z.boot = x.boot) := by
        unfold ownB
        rw [hi, hz]
        simp
        grind
      by_cases hq : z.serial = x.serial ∧ z.node = x.node ∧ z.boot = x.boot
      · rw [if_neg (fun h => (ho.1 h) hq)]
        show (if z.serial = x.serial ∧ z.node = x.node ∧ z.boot = x.boot then _ else _) = _
        rw [if_pos hq, hr, hw]
      · rw [if_pos (ho.2 hq)]
        show (if z.serial = x.serial ∧ z.node = x.node ∧ z.boot = x.boot then _ else _) = _
        rw [if_neg hq]
    · rw [if_neg hi, if_pos (by unfold ownB; simp [hi])]
theorem recl_eq {lim nxt : Int} {l : List Held} {m : List Last} (hs : l.Pairwise (fun a b => a.token < b.token)) (x : Rlo.Ent) : reclR lim nxt l m x = (if reclB l x = true then ⟨lim, nxt, l.eraseIdx (posHeld l x.token), m, ⟨5, 0, 0⟩, 0⟩ else ⟨lim, nxt, l, m, ⟨4, 0, 0⟩, 0⟩) := by
  unfold reclR
  rw [find_srt hs]
  have hw := without_srt hs x.token
  by_cases hi : isHeld l x.token = true
  · rw [if_pos hi] at hw ⊢
    have ho : (reclB l x = true) ↔ ((l.getD (posHeld l x.token) default).serial = x.serial ∧ (l.getD (posHeld l x.token) default).stamp = x.stamp) := by
      unfold reclB
      rw [hi]
      simp
    generalize hz : l.getD (posHeld l x.token) default = z at *
    by_cases hq : z.serial = x.serial ∧ z.stamp = x.stamp
    · rw [if_pos (ho.2 hq)]
      show (if z.serial = x.serial ∧ z.stamp = x.stamp then _ else _) = _
      rw [if_pos hq, hw]
    · rw [if_neg (fun h => hq (ho.1 h))]
      show (if z.serial = x.serial ∧ z.stamp = x.stamp then _ else _) = _
      rw [if_neg hq]
  · rw [if_neg hi, if_neg (by unfold reclB; simp [hi])]
theorem tok_pos {lim nxt : Int} {l : List Held} (h : hAll lim nxt l l.length = true) : ∀ y ∈ l, 0 < y.token := by
  intro y hy
  obtain ⟨i, hi, rfl⟩ := List.getElem_of_mem hy
  have := (of_decide_eq_true h) i hi
  unfold hOk hOk0 at this
  rw [List.getD_eq_getElem?_getD, List.getElem?_eq_getElem hi, Option.getD_some] at this
  grind
theorem apply_eq (lim nxt : Int) (l : List Held) (m : List Last) (ix : Int) (x : Rlo.Ent) : applyR lim nxt l m ix x = applyC lim nxt l m ix x := by
  unfold applyR applyC
  by_cases hl : isLed lim nxt l m = false
  · rw [if_pos hl, if_pos hl]
  rw [if_neg hl, if_neg hl]
  have hl' : isLed lim nxt l m = true := by simpa using hl
  obtain ⟨_, hA, hLA⟩ := isLed_parts hl'
  have hs := srt_pw (srt_of hA)
  have hsL := srtL_pw (srtL_of hLA)
  have ht := tok_pos hA
  by_cases hc : Rlo.cmdOk x = false
  · rw [if_pos hc, if_pos hc]
  rw [if_neg hc, if_neg hc]
  by_cases hi : ix = 0
  · rw [if_pos hi, if_pos hi]
  rw [if_neg hi, if_neg hi]
  by_cases hk : x.kind = 1 ∨ x.kind = 2
  · rw [if_pos hk, if_pos hk]
  rw [if_neg hk, if_neg hk]
  by_cases h6 : x.kind = 6
  · rw [if_pos h6, if_pos h6, recl_eq hs]
  rw [if_neg h6, if_neg h6, hit_srt hsL]
  have hd : doneR lim nxt l m ix x = doneC lim nxt l m ix x := by
    unfold doneR doneC
    rw [request_eq hs ht, last_srt hsL]
  rw [hd]
  by_cases hL : isLast m x.node = true
  · rw [if_pos hL, if_pos hL]
    have hn : (m.getD (posLast m x.node) default).node = x.node := by
      unfold isLast at hL
      rw [Bool.and_eq_true, decide_eq_true_eq, decide_eq_true_eq] at hL
      exact hL.2
    generalize m.getD (posLast m x.node) default = y at *
    unfold hit
    rw [if_pos hn]
    by_cases h1 : ordS x y = -1
    · rw [if_pos ((ordS_neg x y).1 h1), if_pos h1]
    · rw [if_neg (fun h => h1 ((ordS_neg x y).2 h)), if_neg h1]
      by_cases h0 : ordS x y = 0
      · rw [if_pos ((ordS_zero x y).1 h0), if_pos h0]
      · rw [if_neg (fun h => h0 ((ordS_zero x y).2 h)), if_neg h0]
  · rw [if_neg hL, if_neg hL]
end Go.Proofs.Ytekjihmepdhmeaa.Led
