/- Items over memory that hangs together: many blocks as one item, told by a list whose elements have blocks of their own; two items become one. -/
import Derived.Test.YtddnkbabbobkaaaSl3
namespace Go.Proofs.Ytddnkbabbobkaaa.Sl
open Go.RowKit Go.Proofs.YtddnkbabbobkaaaW.PrintWords
set_option linter.unusedVariables false
set_option linter.unusedSimpArgs false
theorem cell_loc {w w' : World} {a : Addr} (h : w'.heap[a.block]? = w.heap[a.block]?) : w'.cell? a = w.cell? a := by
  unfold World.cell?
  rw [h]
theorem add_block (a : Addr) (n : Nat) : (a.add n).block = a.block := by
  unfold Addr.add
  split <;> rfl
/-- What is read hangs on its own block alone. -/
theorem Rd.loc {α : Type} {enc : α → List Value} {sz : Nat} {w w' : World} {A : Option Addr} {n : Nat} {xs : List α} (h : Rd enc sz w A n xs) (hb : ∀ ad, A = some ad → w'.heap[ad.block]? = w.heap[ad.block]?) : Rd enc sz w' A n xs := by
  refine ⟨h.1, h.2.1, fun hn => ?_⟩
  obtain ⟨ad, e, hc⟩ := h.2.2 hn
  refine ⟨ad, e, fun j p hj => ?_⟩
  obtain ⟨c, h1, h2, h3⟩ := hc j p hj
  refine ⟨c, h1, h2, fun i u hu => ?_⟩
  rw [← h3 i u hu]
  refine cell_loc ?_
  simp only [add_block]
  exact hb ad e
/-- A slice's block is among those. -/
def inS (S : Nat → Prop) (A : Option Addr) : Prop := ∀ ad, A = some ad → S ad.block
theorem inS.mono {S T : Nat → Prop} {A : Option Addr} (h : inS S A) (k : ∀ b, S b → T b) : inS T A := fun ad e => k _ (h ad e)
/-- What is read, and where it lies. -/
def rdI {α : Type} (enc : α → List Value) (sz : Nat) (A : Option Addr) (n : Nat) (xs : List α) (S : Nat → Prop) : HP where
  fp := S
  ok := fun w => Rd enc sz w A n xs ∧ inS S A
  loc := fun h k => ⟨k.1.loc (fun ad e => h _ (k.2 ad e)), k.2⟩
/-- Nothing. -/
def noI : HP where
  fp := fun _ => False
  ok := fun _ => True
  loc := fun _ k => k
/-- A row of the call's own as what is read. -/
theorem SH.toRd {α : Type} {enc : α → List Value} {sz : Nat} {hl : ∀ x, (enc x).length = sz} {h1 : ∀ x, (enc x).all (·.oneCell') = true} {w0 w : World} {is : List HP} (h : SH w0 w is) (n : Nat) {e : TypeId} {A : Option Addr} {m c : Nat} {xs : List α} {S : Nat → Prop} (hn : is[n]? = some (row (flk enc sz hl h1) e (.slice A m c) xs S)) :
    SH w0 w (is.set n (rdI enc sz A m xs S)) := by
  have hr := row_rds n hn w h
  have hok := h.at n hn
  refine h.say n hn (fun k => ⟨hr, fun ad e' => ?_⟩) (fun b hb => hb)
  subst e'
  exact k.1 ad.block rfl
/-- Two items as one: it stands at the first's place, nothing at the second's. -/
theorem SH.merge {w0 w : World} {is : List HP} (h : SH w0 w is) (n m : Nat) (hne : n ≠ m) {i j i' : HP} (hn : is[n]? = some i) (hm : is[m]? = some j) (hk : i.ok w → j.ok w → i'.ok w) (hf : ∀ b, i'.fp b → i.fp b ∨ j.fp b) : SH w0 w ((is.set m noI).set n i') := by
  have hnl := (List.getElem?_eq_some_iff.1 hn).1
  have hml := (List.getElem?_eq_some_iff.1 hm).1
  have hi := h.each n i hn
  have hj := h.each m j hm
  refine ⟨h.below, fun k x hx => ?_, fun k k' x x' hkk hx hx' b hb hb' => ?_⟩
  · rw [List.getElem?_set] at hx
    split at hx
    · rw [if_pos (by rw [List.length_set]; exact hnl)] at hx
      injection hx with hx
      subst hx
      refine ⟨hk hi.1 hj.1, fun b hb => ?_⟩
      rcases hf b hb with h1 | h1
      · exact hi.2 b h1
      · exact hj.2 b h1
    · rw [List.getElem?_set] at hx
      split at hx
      · (try rw [if_pos hml] at hx)
        injection hx with hx
        subst hx
        exact ⟨trivial, fun b hb => hb.elim⟩
      · exact h.each k x hx
  · have key : ∀ q (y : HP), ((is.set m noI).set n i')[q]? = some y → ∀ b, y.fp b → (q = n ∧ (i.fp b ∨ j.fp b)) ∨ (q ≠ n ∧ q ≠ m ∧ is[q]? = some y) := by
      intro q y hy b hb
      rw [List.getElem?_set] at hy
      split at hy
      · rename_i e
        rw [if_pos (by rw [List.length_set]; exact hnl)] at hy
        injection hy with hy
        subst hy
        exact .inl ⟨e.symm, hf b hb⟩
      · rename_i e
        rw [List.getElem?_set] at hy
        split at hy
        · (try rw [if_pos hml] at hy)
          injection hy with hy
          subst hy
          exact hb.elim
        · rename_i e2
          exact .inr ⟨fun h => e h.symm, fun h => e2 h.symm, hy⟩
    rcases key k x hx b hb with ⟨e1, h1⟩ | ⟨e1, e2, h1⟩ <;> rcases key k' x' hx' b hb' with ⟨e1', h1'⟩ | ⟨e1', e2', h1'⟩
    · exact hkk (e1.trans e1'.symm)
    · rcases h1 with h1 | h1
      · exact h.apart n k' i x' (fun e => e1' e.symm) hn h1' b h1 hb'
      · exact h.apart m k' j x' (fun e => e2' e.symm) hm h1' b h1 hb'
    · rcases h1' with h1' | h1'
      · exact h.apart n k i x (fun e => e1 e.symm) hn h1 b h1' hb
      · exact h.apart m k j x (fun e => e2 e.symm) hm h1 b h1' hb
    · exact h.apart k k' x x' hkk h1 h1' b hb hb'
end Go.Proofs.Ytddnkbabbobkaaa.Sl
