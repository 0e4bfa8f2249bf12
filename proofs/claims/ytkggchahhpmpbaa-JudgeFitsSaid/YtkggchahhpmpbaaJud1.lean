import Derived.Test.YtkggchahhpmpbaaJud0
namespace Go.Proofs.Ytkggchahhpmpbaa.Jud
open Go.RowKit Go.Proofs.YtkggchahhpmpbaaW.PrintWords Go.Proofs.Ytkggchahhpmpbaa.Sl
set_option linter.unusedVariables false
set_option linter.unusedSimpArgs false
/-! Whether replies fit frames: what the code reckons, and what the document does, are the same. -/
def mayBe (within : Bool) (k : Int) : List Int :=
  if (k == 66) && within then [7, 6] else if k == 66 then [1, 4, 5] else if (k == 81) && within then [2, 6] else if k == 81 then [2, 4, 5, 6] else if within then [3, 6] else [7]
def isIn (l : List Int) (n : Int) : Bool := decide (n ∈ l)
def pFrame (f : Frm) : Bool := !((!(f.kind == 81) && !(f.kind == 66) && !(f.kind == 69)) || (!(f.kind == 81) && !f.text.toList.isEmpty) || decide (48 < (f.text.size : Int)))
def pNode (r : Rep) : Bool := if r.kind == 5 then decide (1 ≤ r.node) && decide (r.node ≤ 7) else r.node == 0
def pArg (within : Bool) (f : Frm) (r : Rep) : Bool := !(!(isIn (mayBe within f.kind) r.kind) || !pNode r || (r.kind != 2 && !r.text.toList.isEmpty))
def nxt (within : Bool) (r : Rep) : Bool := if r.kind == 1 then true else if r.kind == 3 then false else if r.kind == 6 then false else within
def servedOk (served : List ByteArray) (n : Nat) (r : Rep) : Bool := !(r.kind == 2) || (decide (n < served.length) && (served.getD n noText).toList == r.text.toList)
def used (n : Nat) (r : Rep) : Nat := if r.kind == 2 then n + 1 else n
/-- the code's -/
def pGo (sent : List Frm) (served : List ByteArray) : List Rep → Nat → Bool → Nat → Int × Int
  | [], _, _, _ => (-1, 0)
  | r :: rs, i, within, n =>
    if sent.length ≤ i then ((i : Int), 6) else if !pFrame (sent.getD i default) then ((i : Int), 90) else if !pArg within (sent.getD i default) r then ((i : Int), 1) else if !servedOk served n r then ((i : Int), 220)
    else pGo sent served rs (i + 1) (nxt within r) (used n r)
def rFrame (f : Frm) : Bool := if f.kind == 81 then decide ((f.text.size : Int) ≤ 48) else ((f.kind == 66) || (f.kind == 69)) && f.text.toList.isEmpty
/-- the document's -/
def rAfter (within : Bool) (f : Frm) (r : Rep) : Bool × Bool :=
  if (r.kind == 5) && (decide (r.node < 1) || decide (7 < r.node) || !r.text.toList.isEmpty) then (within, false)
  else if !(r.kind == 5) && (r.node != 0 || (r.kind != 2 && !r.text.toList.isEmpty)) then (within, false)
  else if within then
    if f.kind == 66 then (r.kind == 7, (r.kind == 7) || (r.kind == 6)) else if f.kind == 81 then (r.kind == 2, (r.kind == 2) || (r.kind == 6)) else (false, (r.kind == 3) || (r.kind == 6))
  else if f.kind == 66 then (r.kind == 1, (r.kind == 1) || (r.kind == 4) || (r.kind == 5)) else if f.kind == 81 then (false, (r.kind == 2) || (r.kind == 6) || (r.kind == 4) || (r.kind == 5)) else (false, r.kind == 7)
def rGo (sent : List Frm) (served : List ByteArray) : List Rep → Nat → Bool → Nat → Int × Int
  | [], _, _, _ => (-1, 0)
  | r :: rs, i, within, n =>
    if sent.length ≤ i then ((i : Int), 6) else if !rFrame (sent.getD i default) then ((i : Int), 90) else if !(rAfter within (sent.getD i default) r).2 then ((i : Int), 1) else if !servedOk served n r then ((i : Int), 220)
    else rGo sent served rs (i + 1) (rAfter within (sent.getD i default) r).1 (used n r)
theorem noText_size {t : ByteArray} (h : t.toList.isEmpty = true) : t.size = 0 := by
  rw [ByteArray.toList_eq, List.isEmpty_iff] at h
  have : t.data.toList.length = 0 := by rw [h]; rfl
  simpa using this
theorem frame_eq (f : Frm) : pFrame f = rFrame f := by
  unfold pFrame rFrame
  generalize hb : (f.text.toList.isEmpty) = b
  have hs : b = true → f.text.size = 0 := fun h => noText_size (hb.trans h)
  generalize f.text.size = m at hs
  generalize f.kind = k
  clear hb
  by_cases h1 : k = 81
  · subst h1
    cases b <;> simp <;> grind
  · by_cases h2 : k = 66
    · subst h2
      cases b <;> simp <;> grind
    · by_cases h3 : k = 69
      · subst h3
        cases b <;> simp <;> grind
      · have e1 : (k == 81) = false := beq_eq_false_iff_ne.2 h1
        have e2 : (k == 66) = false := beq_eq_false_iff_ne.2 h2
        have e3 : (k == 69) = false := beq_eq_false_iff_ne.2 h3
        rw [e1, e2, e3]
        cases b <;> simp
theorem arg_eq {within : Bool} {f : Frm} {r : Rep} (hf : pFrame f = true) : pArg within f r = (rAfter within f r).2 ∧ (pArg within f r = true → nxt within r = (rAfter within f r).1) := by
  have hk : f.kind = 81 ∨ f.kind = 66 ∨ f.kind = 69 := by
    unfold pFrame at hf
    by_cases h1 : f.kind = 81
    · exact .inl h1
    · by_cases h2 : f.kind = 66
      · exact .inr (.inl h2)
      · by_cases h3 : f.kind = 69
        · exact .inr (.inr h3)
        · simp [h1, h2, h3] at hf
  unfold pArg rAfter nxt pNode isIn mayBe
  generalize f.kind = fk at hk ⊢
  generalize r.kind = k
  generalize r.node = m
  generalize hb : r.text.toList.isEmpty = b
  clear hb hf
  have key : k = 1 ∨ k = 2 ∨ k = 3 ∨ k = 4 ∨ k = 5 ∨ k = 6 ∨ k = 7 ∨ (k ≠ 1 ∧ k ≠ 2 ∧ k ≠ 3 ∧ k ≠ 4 ∧ k ≠ 5 ∧ k ≠ 6 ∧ k ≠ 7) := by omega
  rcases hk with rfl | rfl | rfl <;> cases within <;> cases b <;> rcases key with rfl | rfl | rfl | rfl | rfl | rfl | rfl | ⟨h1, h2, h3, h4, h5, h6, h7⟩ <;> simp_all <;> grind
theorem go_eq (sent : List Frm) (served : List ByteArray) : ∀ (l : List Rep) (i : Nat) (within : Bool) (n : Nat), pGo sent served l i within n = rGo sent served l i within n
  | [], _, _, _ => rfl
  | r :: rs, i, within, n => by
    have ih := go_eq sent served rs
    rw [pGo, rGo, ← frame_eq]
    cases hf : pFrame (sent.getD i default) with
    | false => rfl
    | true =>
      obtain ⟨e1, e2⟩ := arg_eq (within := within) (r := r) hf
      rw [← e1]
      cases ha : pArg within (sent.getD i default) r with
      | false => rfl
      | true => rw [← e2 ha, ih]
end Go.Proofs.Ytkggchahhpmpbaa.Jud
