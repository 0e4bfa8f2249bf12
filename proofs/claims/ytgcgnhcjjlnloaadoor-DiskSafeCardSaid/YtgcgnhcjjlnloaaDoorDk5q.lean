/- Lemmas towards the law: what of the text Dk5 it needs. -/
import Derived.Test.YtgcgnhcjjlnloaaDoorDk4q
namespace Go.Proofs.YtgcgnhcjjlnloaaDoor.Dk
open Go.RowKit Go.Proofs.YtgcgnhcjjlnloaaDoorW.PrintWords Go.Proofs.YtgcgnhcjjlnloaaDoor.Sl Go.Shelf
set_option linter.unusedVariables false
set_option linter.unusedSimpArgs false
def abc : ByteArray := ⟨#[97, 98, 99, 100, 101, 102, 103, 104, 105, 106, 107, 108, 109, 110, 111, 112, 113, 114, 115, 116, 117, 118, 119, 120, 121, 122, 48, 49, 50, 51, 52, 53, 54, 55, 56, 57]⟩
def isName (s : ByteArray) : Bool := decide (1 ≤ s.size) && decide (s.size ≤ 12) && s.data.toList.all (abc.data.toList.contains ·)
theorem dropW_nil {p : UInt8 → Bool} : ∀ l : List UInt8, (l.dropWhile p).isEmpty = l.all p
  | [] => rfl
  | x :: l => by
    rw [List.dropWhile_cons, List.all_cons]
    cases h : p x
    · simp
    · simpa [h] using dropW_nil l
theorem dropW_all {p : UInt8 → Bool} : ∀ l : List UInt8, (l.dropWhile p).all p = l.all p
  | [] => rfl
  | x :: l => by
    rw [List.dropWhile_cons, List.all_cons]
    cases h : p x
    · simp [h]
    · simpa [h] using dropW_all l
theorem trim_nil (l cs : List UInt8) : (Lib.trimS l cs).isEmpty = l.all (cs.contains ·) := by
  unfold Lib.trimS Lib.trimLeftS Lib.trimRightS
  rw [dropW_nil, List.all_reverse, dropW_all, List.all_reverse]
theorem trim_call (s : ByteArray) (w : World) (hs : s.size ≤ 9223372036854775807) : Calls Tryd.prog 36 #[.string s, .string ⟨#[97, 98, 99, 100, 101, 102, 103, 104, 105, 106, 107, 108, 109, 110, 111, 112, 113, 114, 115, 116, 117, 118, 119, 120, 121, 122, 48, 49, 50, 51, 52, 53, 54, 55, 56, 57]⟩] w (fun e w' => (∃ t : ByteArray, e = .returned (.string t) ∧ t.toList.isEmpty = s.data.toList.all (abc.data.toList.contains ·)) ∧ Below w.heap.size w w') := by
  refine (Any.strings_Trim_laid Tryd.trimL (by kernel_rfl) s abc w hs (by decide) (ascii_of_all (by decide))).mono ?_
  rintro e w' ⟨rfl, hb⟩
  refine ⟨⟨_, rfl, ?_⟩, hb⟩
  rw [ByteArray.toList_eq]
  exact trim_nil _ _
set_option maxHeartbeats 1600000 in
set_option maxRecDepth 100000 in
theorem named_any (s : ByteArray) (w : World) : Calls Tryd.prog 20 #[.string s] w (fun e w' => e = .returned (.bool (isName s)) ∧ Below w.heap.size w w') := by
  have HS := Aside0.mk (SH.start w)
  obtain ⟨bn, hbn⟩ : ∃ bn, isName s = bn := ⟨_, rfl⟩
  have HB := Aside0.mk hbn
  rw [hbn]
  clear hbn
  by_cases h1 : 1 ≤ s.size
  · have h1' : decide ((1 : Int) ≤ (s.size : Int)) = true := by rw [decide_eq_true_eq]; omega
    by_cases h2 : s.size ≤ 12
    · have h2' : decide ((s.size : Int) ≤ 12) = true := by rw [decide_eq_true_eq]; omega
      have HT := Aside0.mk (show isName s = s.data.toList.all (abc.data.toList.contains ·) by unfold isName; rw [decide_eq_true h1, decide_eq_true h2]; rfl)
      have hs : s.size ≤ 9223372036854775807 := by omega
      go_enter Tryd.func20, Tryd.ntmps20
      go_wp2_with (first | (go_at_call 36; (with_reducible refine (trim_call s _ hs).mono ?_); rintro e w2 ⟨⟨t, rfl, ht⟩, hb⟩; have HS1 := HS.out.quiet hb; clear HS hb; have HS := Aside0.mk HS1; clear HS1; (rw [← HT.out, HB.out] at ht)))
      go_ret
      exact ⟨rfl, HS.out.below⟩
    · have h2' : decide ((s.size : Int) ≤ 12) = false := by rw [decide_eq_false_iff_not]; omega
      have e : bn = false := by rw [← HB.out]; unfold isName; rw [decide_eq_false h2]; simp
      subst e
      clear HB
      go_enter Tryd.func20, Tryd.ntmps20
      go_wp2
      go_ret
      exact ⟨rfl, HS.out.below⟩
  · have h1' : decide ((1 : Int) ≤ (s.size : Int)) = false := by rw [decide_eq_false_iff_not]; omega
    have e : bn = false := by rw [← HB.out]; unfold isName; rw [decide_eq_false h1]; simp
    subst e
    clear HB
    go_enter Tryd.func20, Tryd.ntmps20
    go_wp2
    go_ret
    exact ⟨rfl, HS.out.below⟩
end Go.Proofs.YtgcgnhcjjlnloaaDoor.Dk
