/- Lemmas towards the law: what of the text Js0 it needs. -/
import Derived.Test.YtkggchahhpmpbaaJud1q
namespace Go.Proofs.Ytkggchahhpmpbaa.Jud
open Go.Proofs.Ytkggchahhpmpbaa.Sl
set_option linter.unusedVariables false
set_option linter.unusedSimpArgs false
/-- a session: its stream's bytes, whether it is broken, the frames ahead, the state, whether it is for a Query alone, its text, the replies -/
structure Ss where
  b : ByteArray
  bad : Bool
  ahead : List Frm
  state : Int
  alone : Bool
  text : ByteArray
  told : List Rep
def Ss.tell (s : Ss) (r : Rep) : Ss := { s with told := s.told ++ [r] }
def rep0 (k : Int) : Rep := ⟨k, 0, noText⟩
def freeS (s : Ss) (f : Frm) : Ss × Int :=
  if f.kind = 69 then (s.tell (rep0 7), 0) else ({ s with state := 1, alone := f.kind == 81, text := f.text }, 1)
def boundS (s : Ss) (f : Frm) : Ss × Int :=
  if f.kind = 66 then (s.tell (rep0 7), 0) else if f.kind = 81 then ({ s with state := 4, alone := false, text := f.text }, 2) else ({ s.tell (rep0 3) with state := 0 }, 3)
def deadS (s : Ss) : Ss := { s.tell (rep0 6) with state := 0 }
def stepS (s : Ss) (f : Frm) : Ss × Int := if s.state = 0 then freeS s f else if s.state = 2 then boundS s f else (deadS s, 0)
def takes (s : Ss) : Bool := (s.state == 0) || (s.state == 2) || (s.state == 6)
def goS (s : Ss) : List Frm → Ss
  | [] => { s with ahead := [] }
  | f :: rest => if takes s then (if (stepS { s with ahead := rest } f).2 = 0 then goS (stepS { s with ahead := rest } f).1 rest else (stepS { s with ahead := rest } f).1) else { s with ahead := f :: rest }
def nextSs (s : Ss) : Ss := if s.state = 3 then { s with state := 4 } else if s.state = 5 then { s with state := 0 } else goS s s.ahead
def gotS (s : Ss) : Ss := if s.alone then { s with state := 3 } else { s.tell (rep0 1) with state := 2 }
def turnS (s : Ss) : Ss := { s.tell (rep0 4) with state := 0 }
def answerS (s : Ss) (t : ByteArray) : Ss := { s.tell ⟨2, 0, t⟩ with state := if s.alone then 5 else 2 }
def lostS (s : Ss) : Ss := if s.state = 2 then { s with state := 6 } else { s.tell (rep0 6) with state := 0 }
/-- a frame that may be -/
def valid (f : Frm) : Prop := rFrame f = true
structure Good (sent : List Frm) (served : List ByteArray) (told : List Rep) (wi : Bool) : Prop where
  fits : pGo sent served told 0 false 0 = (-1, 0)
  within : told.foldl nxt false = wi
  used : told.foldl used 0 = served.length
  len : told.length ≤ sent.length
theorem pGo_append (sent : List Frm) (served : List ByteArray) : ∀ (l1 l2 : List Rep) (i : Nat) (wi : Bool) (n : Nat), pGo sent served l1 i wi n = (-1, 0) → pGo sent served (l1 ++ l2) i wi n = pGo sent served l2 (i + l1.length) (l1.foldl nxt wi) (l1.foldl Jud.used n)
  | [], l2, i, wi, n, _ => rfl
  | r :: l1, l2, i, wi, n, h => by
    have ih := pGo_append sent served l1 l2 (i + 1) (nxt wi r) (Jud.used n r)
    rw [List.cons_append]
    unfold pGo at h ⊢
    have hi : ¬ ((i : Int) = -1) := by omega
    split at h
    · injection h with h _; exact absurd h hi
    · split at h
      · injection h with h _; exact absurd h hi
      · split at h
        · injection h with h _; exact absurd h hi
        · split at h
          · injection h with h _; exact absurd h hi
          · rename_i a1 a2 a3 a4
            rw [if_neg a1, if_neg a2, if_neg a3, if_neg a4, ih h]
            rw [List.length_cons, List.foldl_cons, List.foldl_cons, show i + (l1.length + 1) = i + 1 + l1.length by omega]
            cases l2 <;> rfl
theorem servedOk_more {served : List ByteArray} (x : List ByteArray) {n : Nat} {r : Rep} (h : servedOk served n r = true) : servedOk (served ++ x) n r = true := by
  unfold servedOk at h ⊢
  cases hk : (r.kind == 2) with
  | false => rfl
  | true =>
    rw [hk] at h
    simp only [Bool.not_true, Bool.false_or, Bool.and_eq_true, decide_eq_true_eq] at h ⊢
    refine ⟨by rw [List.length_append]; omega, ?_⟩
    have e : (served ++ x).getD n noText = served.getD n noText := by
      rw [List.getD_eq_getElem?_getD, List.getD_eq_getElem?_getD, List.getElem?_append_left h.1]
    rw [e]
    exact h.2
theorem pGo_more (sent : List Frm) (served x : List ByteArray) : ∀ (l : List Rep) (i : Nat) (wi : Bool) (n : Nat), pGo sent served l i wi n = (-1, 0) → pGo sent (served ++ x) l i wi n = (-1, 0)
  | [], i, wi, n, _ => rfl
  | r :: l, i, wi, n, h => by
    have ih := pGo_more sent served x l (i + 1) (nxt wi r) (Jud.used n r)
    unfold pGo at h ⊢
    have hi : ¬ ((i : Int) = -1) := by omega
    split at h
    · injection h with h _; exact absurd h hi
    · split at h
      · injection h with h _; exact absurd h hi
      · split at h
        · injection h with h _; exact absurd h hi
        · split at h
          · injection h with h _; exact absurd h hi
          · rename_i a1 a2 a3 a4
            have a5 : servedOk served n r = true := by simpa using a4
            rw [if_neg a1, if_neg a2, if_neg a3, if_neg (by rw [servedOk_more x a5]; decide), ih h]
theorem Good.start (sent : List Frm) : Good sent [] [] false := ⟨rfl, rfl, rfl, Nat.zero_le _⟩
/-- one reply more that is no Result -/
theorem Good.snoc {sent : List Frm} {served : List ByteArray} {told : List Rep} {wi : Bool} (h : Good sent served told wi) {f : Frm} (hf : sent[told.length]? = some f) (hv : valid f) {r : Rep} (ha : pArg wi f r = true) (hk : (r.kind == 2) = false) : Good sent served (told ++ [r]) (nxt wi r) := by
  have hlt := (List.getElem?_eq_some_iff.1 hf).1
  have hg : sent.getD told.length default = f := by rw [List.getD_eq_getElem?_getD, hf]; rfl
  refine ⟨?_, by rw [List.foldl_append, h.within]; rfl, ?_, by rw [List.length_append, List.length_singleton]; omega⟩
  · rw [pGo_append sent served told [r] 0 false 0 h.fits, Nat.zero_add, h.within]
    unfold pGo
    have hp : pFrame f = true := by rw [frame_eq]; exact hv
    have hs : ∀ n, servedOk served n r = true := fun n => by unfold servedOk; rw [hk]; rfl
    rw [if_neg (by omega), hg, hp, ha, hs]
    rfl
  · rw [List.foldl_append, h.used]
    show Jud.used served.length r = _
    unfold Jud.used
    rw [hk]
    rfl
/-- one Result more, and its text among those that were served -/
theorem Good.result {sent : List Frm} {served : List ByteArray} {told : List Rep} {wi : Bool} (h : Good sent served told wi) {f : Frm} (hf : sent[told.length]? = some f) (hv : valid f) {t : ByteArray} (ha : pArg wi f ⟨2, 0, t⟩ = true) : Good sent (served ++ [t]) (told ++ [⟨2, 0, t⟩]) wi := by
  have hlt := (List.getElem?_eq_some_iff.1 hf).1
  have hg : sent.getD told.length default = f := by rw [List.getD_eq_getElem?_getD, hf]; rfl
  have hm := pGo_more sent served [t] told 0 false 0 h.fits
  refine ⟨?_, by rw [List.foldl_append, h.within]; rfl, ?_, by rw [List.length_append, List.length_singleton]; omega⟩
  · rw [pGo_append sent (served ++ [t]) told _ 0 false 0 hm, Nat.zero_add, h.within, h.used]
    unfold pGo
    have hp : pFrame f = true := by rw [frame_eq]; exact hv
    have hs : servedOk (served ++ [t]) served.length ⟨2, 0, t⟩ = true := by
      unfold servedOk
      have e : (served ++ [t]).getD served.length noText = t := by rw [List.getD_eq_getElem?_getD]; simp
      simp [e]
    rw [if_neg (by omega), hg, hp, ha, hs]
    rfl
  · rw [List.foldl_append, h.used]
    show Jud.used served.length ⟨2, 0, t⟩ = _
    rw [List.length_append]
    rfl
/-- what a session is told fits what it was sent: between any two calls -/
structure Inv (sent : List Frm) (served : List ByteArray) (told : List Rep) (s : Ss) : Prop where
  val : ∀ f ∈ sent, valid f
  range : 0 ≤ s.state ∧ s.state ≤ 6
  cur : (s.state = 1 ∨ s.state = 3 ∨ s.state = 4) → ∃ f, sent[told.length]? = some f ∧ s.ahead = sent.drop (told.length + 1) ∧ ((f.kind = 66 ∧ s.state = 1 ∧ s.alone = false) ∨ (f.kind = 81 ∧ (s.state ≠ 4 → s.alone = true)))
  rest : ¬(s.state = 1 ∨ s.state = 3 ∨ s.state = 4) → s.ahead = sent.drop told.length
  good : Good sent served told (if s.state = 2 ∨ s.state = 6 then true else if s.state = 4 then !s.alone else false)
theorem valid_kind {f : Frm} (h : valid f) : f.kind = 81 ∨ f.kind = 66 ∨ f.kind = 69 := by
  unfold valid rFrame at h
  by_cases h1 : f.kind = 81
  · exact .inl h1
  · by_cases h2 : f.kind = 66
    · exact .inr (.inl h2)
    · by_cases h3 : f.kind = 69
      · exact .inr (.inr h3)
      · simp [h1, h2, h3] at h
theorem isEmpty_noText : noText.toList.isEmpty = true := by decide +kernel
theorem pArg_rep {wi : Bool} {f : Frm} {k fk : Int} (hf : f.kind = fk) (hk : (isIn (mayBe wi fk) k && !(k == 5)) = true) : pArg wi f (rep0 k) = true := by
  rw [Bool.and_eq_true, Bool.not_eq_true'] at hk
  unfold pArg pNode rep0
  rw [hf]
  simp only [hk.1, hk.2, isEmpty_noText]
  simp
theorem pArg_res {wi : Bool} {f : Frm} (hf : f.kind = 81) (t : ByteArray) : pArg wi f ⟨2, 0, t⟩ = true := by
  unfold pArg pNode
  rw [hf]
  cases wi <;> rfl
theorem app_assoc {T l : List Rep} {r : Rep} : T ++ (l ++ [r]) = (T ++ l) ++ [r] := (List.append_assoc T l [r]).symm
theorem drop_at {sent : List Frm} {k : Nat} {f : Frm} {rest : List Frm} (h : f :: rest = sent.drop k) : sent[k]? = some f ∧ rest = sent.drop (k + 1) := by
  constructor
  · have := congrArg (·[0]?) h
    simp only [aI, List.getElem?_drop, Nat.add_zero] at this
    exact this.symm
  · have := congrArg List.tail h
    simpa [List.tail_drop] using this
theorem inv_start (sent : List Frm) (b : ByteArray) (bad al : Bool) (tx : ByteArray) (h : ∀ f ∈ sent, valid f) : Inv sent [] [] ⟨b, bad, sent, 0, al, tx, []⟩ :=
  ⟨h, ⟨by simp, by simp⟩, fun h => by simp at h, fun _ => rfl, Good.start sent⟩
theorem mem_of_at {sent : List Frm} {k : Nat} {f : Frm} (h : sent[k]? = some f) : f ∈ sent := List.mem_of_getElem? h
section
variable {sent : List Frm} {served : List ByteArray} {T : List Rep} {s : Ss}
theorem inv_got (h : Inv sent served (T ++ s.told) s) (h1 : s.state = 1) : Inv sent served (T ++ (gotS s).told) (gotS s) := by
  obtain ⟨f, hf, ha, hk⟩ := h.cur (.inl h1)
  have hg := h.good
  rw [if_neg (by omega), if_neg (by omega)] at hg
  unfold gotS
  rcases hk with ⟨hk, _, hal⟩ | ⟨hk, hal⟩
  · rw [hal]
    have hg2 := hg.snoc hf (h.val f (mem_of_at hf)) (r := rep0 1) (pArg_rep hk (by decide)) rfl
    simp only [Bool.false_eq_true, if_false, Ss.tell, app_assoc]
    refine ⟨h.val, ⟨by simp, by simp⟩, fun h => by simp at h, fun _ => ?_, by simpa [nxt, rep0] using hg2⟩
    rw [List.length_append, List.length_singleton]
    exact ha
  · rw [hal (by omega)]
    simp only [if_true]
    exact ⟨h.val, ⟨by simp, by simp⟩, fun _ => ⟨f, hf, ha, .inr ⟨hk, fun _ => rfl⟩⟩, fun h => by simp at h, by simpa using hg⟩
theorem inv_turn (h : Inv sent served (T ++ s.told) s) (h1 : s.state = 1) : Inv sent served (T ++ (turnS s).told) (turnS s) := by
  obtain ⟨f, hf, ha, hk⟩ := h.cur (.inl h1)
  have hg := h.good
  rw [if_neg (by omega), if_neg (by omega)] at hg
  have ha4 : pArg false f (rep0 4) = true := by
    rcases hk with ⟨hk, _⟩ | ⟨hk, _⟩
    · exact pArg_rep hk (by decide)
    · exact pArg_rep hk (by decide)
  have hg2 := hg.snoc hf (h.val f (mem_of_at hf)) ha4 rfl
  unfold turnS
  simp only [Ss.tell, app_assoc]
  refine ⟨h.val, ⟨by simp, by simp⟩, fun h => by simp at h, fun _ => ?_, by simpa [nxt, rep0] using hg2⟩
  rw [List.length_append, List.length_singleton]
  exact ha
theorem inv_answer (h : Inv sent served (T ++ s.told) s) (h1 : s.state = 4) (t : ByteArray) : Inv sent (served ++ [t]) (T ++ (answerS s t).told) (answerS s t) := by
  obtain ⟨f, hf, ha, hk⟩ := h.cur (.inr (.inr h1))
  have hg := h.good
  rw [if_neg (by omega), if_pos h1] at hg
  have hk : f.kind = 81 := by
    rcases hk with ⟨_, hk, _⟩ | ⟨hk, _⟩
    · omega
    · exact hk
  have hg2 := hg.result hf (h.val f (mem_of_at hf)) (pArg_res hk t)
  unfold answerS
  cases hal : s.alone
  all_goals
    rw [hal] at hg2
    simp only [Ss.tell, app_assoc, Bool.false_eq_true, if_false, if_true]
    refine ⟨h.val, ⟨by simp, by simp⟩, fun h => by simp at h, fun _ => ?_, by simpa using hg2⟩
    rw [List.length_append, List.length_singleton]
    exact ha
theorem inv_lost (h : Inv sent served (T ++ s.told) s) (h1 : s.state = 4 ∨ s.state = 2) : Inv sent served (T ++ (lostS s).told) (lostS s) := by
  have hg := h.good
  unfold lostS
  by_cases h2 : s.state = 2
  · rw [if_pos h2]
    rw [if_pos (.inl h2)] at hg
    exact ⟨h.val, ⟨by simp, by simp⟩, fun h => by simp at h, fun _ => h.rest (by omega), by simpa using hg⟩
  · have h4 : s.state = 4 := by omega
    rw [if_neg h2]
    obtain ⟨f, hf, ha, hk⟩ := h.cur (.inr (.inr h4))
    have hk : f.kind = 81 := by
      rcases hk with ⟨_, hk, _⟩ | ⟨hk, _⟩
      · omega
      · exact hk
    rw [if_neg (by omega), if_pos h4] at hg
    have ha6 : pArg (!s.alone) f (rep0 6) = true := by
      cases s.alone
      · exact pArg_rep hk (by decide)
      · exact pArg_rep hk (by decide)
    have hg2 := hg.snoc hf (h.val f (mem_of_at hf)) ha6 rfl
    simp only [Ss.tell, app_assoc]
    refine ⟨h.val, ⟨by simp, by simp⟩, fun h => by simp at h, fun _ => ?_, by simpa [nxt, rep0] using hg2⟩
    rw [List.length_append, List.length_singleton]
    exact ha
/-- one frame is taken -/
theorem inv_step (h : Inv sent served (T ++ s.told) s) (ht : takes s = true) {f : Frm} {rest : List Frm} (ha : s.ahead = f :: rest) : Inv sent served (T ++ (stepS { s with ahead := rest } f).1.told) (stepS { s with ahead := rest } f).1 ∧ (stepS { s with ahead := rest } f).1.ahead = rest ∧ ((stepS { s with ahead := rest } f).2 = 0 ∨ (stepS { s with ahead := rest } f).2 = 1 ∨ (stepS { s with ahead := rest } f).2 = 2 ∨ (stepS { s with ahead := rest } f).2 = 3) := by
  unfold takes at ht
  simp only [Bool.or_eq_true, beq_iff_eq] at ht
  have hd := h.rest (by omega)
  rw [ha] at hd
  obtain ⟨hf, hr⟩ := drop_at hd
  have hv := h.val f (mem_of_at hf)
  have hg := h.good
  rw [if_neg (show ¬ s.state = 4 by omega)] at hg
  unfold stepS
  by_cases h0 : s.state = 0
  · rw [if_neg (by omega)] at hg
    simp only [h0, if_true]
    unfold freeS
    by_cases hk : f.kind = 69
    · have hg2 := hg.snoc hf hv (r := rep0 7) (pArg_rep hk (by decide)) rfl
      simp only [hk, if_true, Ss.tell, app_assoc]
      refine ⟨⟨h.val, ⟨by simp [h0], by simp [h0]⟩, fun h => by simp [h0] at h, fun _ => ?_, by simpa [nxt, rep0, h0] using hg2⟩, trivial, .inl trivial⟩
      rw [List.length_append, List.length_singleton]
      exact hr
    · simp only [hk, if_false]
      refine ⟨⟨h.val, ⟨by simp, by simp⟩, fun _ => ⟨f, hf, hr, ?_⟩, fun h => by simp at h, by simpa using hg⟩, by trivial, .inr (by simp)⟩
      rcases valid_kind hv with e | e | e
      · exact .inr ⟨e, fun _ => by simp [e]⟩
      · exact .inl ⟨e, rfl, by simp [e]⟩
      · exact absurd e hk
  · simp only [h0, if_false]
    by_cases h2 : s.state = 2
    · rw [if_pos (.inl h2)] at hg
      simp only [h2, if_true]
      unfold boundS
      by_cases hk : f.kind = 66
      · have hg2 := hg.snoc hf hv (r := rep0 7) (pArg_rep hk (by decide)) rfl
        simp only [hk, if_true, Ss.tell, app_assoc]
        refine ⟨⟨h.val, ⟨by simp [h2], by simp [h2]⟩, fun h => by simp [h2] at h, fun _ => ?_, by simpa [nxt, rep0, h2] using hg2⟩, by trivial, .inl (by trivial)⟩
        rw [List.length_append, List.length_singleton]
        exact hr
      · simp only [hk, if_false]
        by_cases hk2 : f.kind = 81
        · simp only [hk2, if_true]
          exact ⟨⟨h.val, ⟨by simp, by simp⟩, fun _ => ⟨f, hf, hr, .inr ⟨hk2, fun h => by simp at h⟩⟩, fun h => by simp at h, by simpa using hg⟩, by trivial, .inr (by simp)⟩
        · simp only [hk2, if_false]
          have hk3 : f.kind = 69 := by rcases valid_kind hv with e | e | e <;> first | exact absurd e hk2 | exact absurd e hk | exact e
          have hg2 := hg.snoc hf hv (r := rep0 3) (pArg_rep hk3 (by decide)) rfl
          simp only [Ss.tell, app_assoc]
          refine ⟨⟨h.val, ⟨by simp, by simp⟩, fun h => by simp at h, fun _ => ?_, by simpa [nxt, rep0] using hg2⟩, by trivial, .inr (by simp)⟩
          rw [List.length_append, List.length_singleton]
          exact hr
    · have h6 : s.state = 6 := by omega
      rw [if_pos (.inr h6)] at hg
      simp only [h2, if_false]
      have ha6 : pArg true f (rep0 6) = true := by rcases valid_kind hv with e | e | e <;> exact pArg_rep e (by decide)
      have hg2 := hg.snoc hf hv ha6 rfl
      unfold deadS
      simp only [Ss.tell, app_assoc]
      refine ⟨⟨h.val, ⟨by simp, by simp⟩, fun h => by simp at h, fun _ => ?_, by simpa [nxt, rep0] using hg2⟩, by trivial, .inl (by trivial)⟩
      rw [List.length_append, List.length_singleton]
      exact hr
end
theorem inv_ahead {sent : List Frm} {served : List ByteArray} {all : List Rep} {s : Ss} {l : List Frm} (h : Inv sent served all s) (e : s.ahead = l) : Inv sent served all { s with ahead := l } := by
  subst e; exact h
theorem inv_go {sent : List Frm} {served : List ByteArray} {T : List Rep} : ∀ (l : List Frm) (s : Ss), s.ahead = l → Inv sent served (T ++ s.told) s → Inv sent served (T ++ (goS s l).told) (goS s l)
  | [], s, e, h => inv_ahead h e
  | f :: rest, s, e, h => by
    unfold goS
    cases ht : takes s with
    | false =>
      simp only [Bool.false_eq_true, if_false]
      exact inv_ahead h e
    | true =>
      simp only [if_true]
      have hs := inv_step h ht e
      split
      · exact inv_go rest _ hs.2.1 hs.1
      · exact hs.1
theorem inv_next {sent : List Frm} {served : List ByteArray} {T : List Rep} {s : Ss} (h : Inv sent served (T ++ s.told) s) : Inv sent served (T ++ (nextSs s).told) (nextSs s) := by
  unfold nextSs
  by_cases h3 : s.state = 3
  · rw [if_pos h3]
    obtain ⟨f, hf, ha, hk⟩ := h.cur (.inr (.inl h3))
    have hg := h.good
    rw [if_neg (by omega), if_neg (by omega)] at hg
    have hk : f.kind = 81 ∧ s.alone = true := by
      rcases hk with ⟨_, hk, _⟩ | ⟨hk, hal⟩
      · omega
      · exact ⟨hk, hal (by omega)⟩
    exact ⟨h.val, ⟨by simp, by simp⟩, fun _ => ⟨f, hf, ha, .inr ⟨hk.1, fun h => by simp at h⟩⟩, fun h => by simp at h, by simpa [hk.2] using hg⟩
  · rw [if_neg h3]
    by_cases h5 : s.state = 5
    · rw [if_pos h5]
      have hg := h.good
      rw [if_neg (by omega), if_neg (by omega)] at hg
      exact ⟨h.val, ⟨by simp, by simp⟩, fun h => by simp at h, fun _ => h.rest (by omega), by simpa using hg⟩
    · rw [if_neg h5]
      exact inv_go _ s rfl h
end Go.Proofs.Ytkggchahhpmpbaa.Jud
