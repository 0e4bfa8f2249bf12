/- Lemmas towards the law: what of the text DkS it needs. -/
import Derived.Test.YtgcgnhcjjlnloaaDoorDkRq
import Derived.Test.YtgcgnhcjjlnloaaDoorDk5q
namespace Go.Proofs.YtgcgnhcjjlnloaaDoor.Dk
open Go.RowKit Go.Proofs.YtgcgnhcjjlnloaaDoorW.PrintWords Go.Proofs.YtgcgnhcjjlnloaaDoor.Sl
set_option linter.unusedVariables false
set_option linter.unusedSimpArgs false
def chOk (c : UInt8) : Bool := (decide (97 ≤ c.toNat) && decide (c.toNat ≤ 122)) || (decide (48 ≤ c.toNat) && decide (c.toNat ≤ 57))
theorem chOk_all : ∀ n : Fin 256, abc.data.toList.contains (UInt8.ofNat n.1) = chOk (UInt8.ofNat n.1) := by decide +kernel
theorem chOk_eq (c : UInt8) : abc.data.toList.contains c = chOk c := by
  have h := chOk_all ⟨c.toNat, c.toNat_lt⟩
  simpa using h
theorem isName_eq (s : ByteArray) : isName s = (decide (1 ≤ s.size) && decide (s.size ≤ 12) && s.data.toList.all chOk) := by
  unfold isName
  congr 1
  congr 1
  funext c
  exact chOk_eq c
theorem take_all {s : ByteArray} {k : Nat} {c : UInt8} (hk : s[k]? = some c) (h : (s.data.toList.take k).all chOk = true) (hc : chOk c = true) : (s.data.toList.take (k + 1)).all chOk = true := by
  have hlt : k < s.data.toList.length := by
    have := (getElem?_eq_some_iff.1 hk).1
    simpa using this
  have he : s.data.toList[k] = c := by
    have := (getElem?_eq_some_iff.1 hk).2
    rw [← this]
    simp [ByteArray.getElem_eq_getElem_data]
  rw [List.take_succ_eq_append_getElem hlt, List.all_append, h, he]
  simp [hc]
theorem all_bad {s : ByteArray} {k : Nat} {c : UInt8} (hk : s[k]? = some c) (hc : chOk c = false) : isName s = false := by
  rw [isName_eq]
  have hlt := (getElem?_eq_some_iff.1 hk).1
  have he := (getElem?_eq_some_iff.1 hk).2
  have : s.data.toList.all chOk = false := by
    rw [List.all_eq_false]
    refine ⟨c, ?_, by simp [hc]⟩
    rw [← he, ByteArray.getElem_eq_getElem_data]
    exact Array.mem_def.1 (Array.getElem_mem _)
  rw [this]
  simp
set_option maxHeartbeats 1600000 in
set_option maxRecDepth 100000 in
theorem rname_any (s : ByteArray) (w : World) (hs : s.size ≤ 9223372036854775807) : Calls Tryd.prog 38 #[.string s] w (fun e w' => e = .returned (.bool (isName s)) ∧ Below w.heap.size w w') := by
  have HS := Aside0.mk (SH.start w)
  go_enter Tryd.func38, Tryd.ntmps38
  go_wp2
  go_loopw [3] (fun v3 wr => ∃ k : Nat, k ≤ s.size ∧ v3 = .int .i64 k ∧ Aside0 ((s.data.toList.take k).all chOk = true) ∧ Aside0 (SH w wr [])) (fun v3 _ => s.size - (intOf v3).toNat)
  case atStart => exact ⟨0, Nat.zero_le _, rfl, ⟨by simp⟩, HS⟩
  case round =>
    clear HS
    obtain ⟨k, hk, rfl, HA, HS⟩ := hrel
    by_cases hlt : k < s.size
    · obtain ⟨c, hc⟩ : ∃ c, s[k]? = some c := ⟨_, getElem?_pos s k hlt⟩
      have HC := Aside0.mk hc
      clear HC
      have hg : s[k] = c := by
        have := (getElem?_eq_some_iff.1 hc).2
        exact this
      have HC := Aside0.mk hc
      have HG := Aside0.mk hg
      clear hc hg
      go_wp2
      all_goals
        first
          | (go_ret
             rw [HG.out] at *
             have hok : chOk c = false := by
               unfold chOk
               simp only [Bool.or_eq_false_iff, Bool.and_eq_false_iff, decide_eq_false_iff_not]
               omega
             exact ⟨by rw [all_bad HC.out hok]; rfl, HS.out.below⟩)
          | (have hok : chOk s[k] = true := by
               unfold chOk
               simp only [Bool.or_eq_true, Bool.and_eq_true, decide_eq_true_eq]
               omega
             rw [HG.out] at hok
             go_roundw
             case rel => exact ⟨k + 1, by omega, by go_num, ⟨take_all HC.out HA.out hok⟩, HS⟩
             case measure => simp [intOf]; omega)
    · obtain rfl : k = s.size := by omega
      have HT := Aside0.mk (show isName s = (decide (1 ≤ s.size) && decide (s.size ≤ 12)) by
        rw [isName_eq]
        have h := HA.out
        rw [List.take_of_length_le (by simp)] at h
        rw [h]
        simp)
      by_cases h1 : 1 ≤ s.size
      · have h1' : decide ((1 : Int) ≤ (s.size : Int)) = true := by rw [decide_eq_true_eq]; omega
        by_cases h2 : s.size ≤ 12
        · have h2' : decide ((s.size : Int) ≤ 12) = true := by rw [decide_eq_true_eq]; omega
          go_wp2
          go_ret
          exact ⟨by rw [HT.out, decide_eq_true h1, decide_eq_true h2]; rfl, HS.out.below⟩
        · have h2' : decide ((s.size : Int) ≤ 12) = false := by rw [decide_eq_false_iff_not]; omega
          go_wp2
          go_ret
          exact ⟨by rw [HT.out, decide_eq_true h1, decide_eq_false h2]; rfl, HS.out.below⟩
      · have h1' : decide ((1 : Int) ≤ (s.size : Int)) = false := by rw [decide_eq_false_iff_not]; omega
        go_wp2
        go_ret
        exact ⟨by rw [HT.out, decide_eq_false h1]; rfl, HS.out.below⟩
end Go.Proofs.YtgcgnhcjjlnloaaDoor.Dk
