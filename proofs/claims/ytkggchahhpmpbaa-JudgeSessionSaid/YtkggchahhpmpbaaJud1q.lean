/- Lemmas towards the law: what of the text Jud1 it needs. -/
import Derived.Test.YtkggchahhpmpbaaJud0q
namespace Go.Proofs.Ytkggchahhpmpbaa.Jud
open Go.RowKit Go.Proofs.YtkggchahhpmpbaaW.PrintWords Go.Proofs.Ytkggchahhpmpbaa.Sl
set_option linter.unusedVariables false
set_option linter.unusedSimpArgs false
def mayBe (within : Bool) (k : Int) : List Int :=
  if (k == 66) && within then [7, 6] else if k == 66 then [1, 4, 5] else if (k == 81) && within then [2, 6] else if k == 81 then [2, 4, 5, 6] else if within then [3, 6] else [7]
def isIn (l : List Int) (n : Int) : Bool := decide (n ∈ l)
def pFrame (f : Frm) : Bool := !((!(f.kind == 81) && !(f.kind == 66) && !(f.kind == 69)) || (!(f.kind == 81) && !f.text.toList.isEmpty) || decide (48 < (f.text.size : Int)))
def pNode (r : Rep) : Bool := if r.kind == 5 then decide (1 ≤ r.node) && decide (r.node ≤ 7) else r.node == 0
def pArg (within : Bool) (f : Frm) (r : Rep) : Bool := !(!(isIn (mayBe within f.kind) r.kind) || !pNode r || (r.kind != 2 && !r.text.toList.isEmpty))
def nxt (within : Bool) (r : Rep) : Bool := if r.kind == 1 then true else if r.kind == 3 then false else if r.kind == 6 then false else within
def servedOk (served : List ByteArray) (n : Nat) (r : Rep) : Bool := !(r.kind == 2) || (decide (n < served.length) && (served.getD n noText).toList == r.text.toList)
def used (n : Nat) (r : Rep) : Nat := if r.kind == 2 then n + 1 else n
/-- the code's -/
def pGo (sent : List Frm) (served : List ByteArray) : List Rep → Nat → Bool → Nat → Int × Int
  | [], _, _, _ => (-1, 0)
  | r :: rs, i, within, n =>
    if sent.length ≤ i then ((i : Int), 6) else if !pFrame (sent.getD i default) then ((i : Int), 90) else if !pArg within (sent.getD i default) r then ((i : Int), 1) else if !servedOk served n r then ((i : Int), 220)
    else pGo sent served rs (i + 1) (nxt within r) (used n r)
def rFrame (f : Frm) : Bool := if f.kind == 81 then decide ((f.text.size : Int) ≤ 48) else ((f.kind == 66) || (f.kind == 69)) && f.text.toList.isEmpty
theorem noText_size {t : ByteArray} (h : t.toList.isEmpty = true) : t.size = 0 := by
  rw [ByteArray.toList_eq, List.isEmpty_iff] at h
  have : t.data.toList.length = 0 := by rw [h]; rfl
  simpa using this
theorem frame_eq (f : Frm) : pFrame f = rFrame f := by
  unfold pFrame rFrame
  generalize hb : (f.text.toList.isEmpty) = b
  have hs : b = true → f.text.size = 0 := fun h => noText_size (hb.trans h)
  generalize f.text.size = m at hs
  generalize f.kind = k
  clear hb
  by_cases h1 : k = 81
  · subst h1
    cases b <;> simp <;> grind
  · by_cases h2 : k = 66
    · subst h2
      cases b <;> simp <;> grind
    · by_cases h3 : k = 69
      · subst h3
        cases b <;> simp <;> grind
      · have e1 : (k == 81) = false := beq_eq_false_iff_ne.2 h1
        have e2 : (k == 66) = false := beq_eq_false_iff_ne.2 h2
        have e3 : (k == 69) = false := beq_eq_false_iff_ne.2 h3
        rw [e1, e2, e3]
        cases b <;> simp
end Go.Proofs.Ytkggchahhpmpbaa.Jud
