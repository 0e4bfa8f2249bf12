/- The law, by its walk: for every input it returns true. No condition. -/
import Derived.Test.YtgcgnhcjjlnloaaDoorRowDiskSafeq
import Derived.Test.YtgcgnhcjjlnloaaDoorCards
import Derived.Test.YtgcgnhcjjlnloaaDoorTie
import Derived.SevenTiedAt
namespace Go.Proofs.YtgcgnhcjjlnloaaDoor
open Go
theorem diskSafeCard_holds : Rows.DiskSafeCardSaid :=
  Claim7.holds_tied_plain_at .later [] [.data, .pinned] true (true, "e1eafd9c9ece802cc6c6ccd0971c41c997fd7ee5b3d118a63185bd24b23d0dba") true
    diskSafe_holds (fun _ h => by cases h) (by kernel_rfl) (fun _ h => by cases h) diskSafe_row_tie rfl ⟨rfl, rfl⟩ (by kernel_rfl) rfl
    (fun f fn hf hfn => by
      obtain rfl : f = 5 := Option.some.inj ((show Tryd.prog.funcNamed "stopcock/stopcocklaw10.DiskSafe" = some 5 by kernel_rfl).symm.trans hf) |>.symm
      obtain rfl : fn = Tryd.f5 := (Option.some.inj (Tryd.func5.symm.trans hfn)).symm
      exact ⟨by kernel_rfl, fun j t ht => by
        rw [Tryd.params5] at ht
        rcases j with _ | _ | j
        · obtain rfl : t = 22 := by simpa using ht.symm
          exact (show Tryd.prog.wantsStandIn 22 = false by kernel_rfl)
        · obtain rfl : t = 27 := by simpa using ht.symm
          exact (show Tryd.prog.wantsStandIn 27 = false by kernel_rfl)
        · simp at ht⟩)
    (by kernel_rfl)
end Go.Proofs.YtgcgnhcjjlnloaaDoor
