/- LedgerMakes: for every limit, ledger.New makes what the reference makes. No condition. -/
import Derived.Test.YtddnkbabbobkaaaPLedgerMakesx5
namespace Go.Proofs.Ytddnkbabbobkaaa.Pure
open Go.RowKit Go.Proofs.Ytddnkbabbobkaaa.PLedgerMakes Go.Proofs.YtddnkbabbobkaaaW.PrintWords Go.Proofs.YtddnkbabbobkaaaW.PrintLast

theorem same_none (a b : Int) : stopcockref05_Same.f 9 a b [] [] a b [] [] = some true := by
  unfold stopcockref05_Same.f
  rw [if_pos rfl, if_pos rfl, if_pos rfl]
  simp [stopcockref05_Same.j0, stopcockref05_Same.l0, stopcockref05_Same.l1]

/-- LedgerMakes: both make the same, or refuse alike. -/
theorem LedgerMakes : stopcocklaw05_LedgerMakes.Pure := by
  intro a _
  refine ⟨9, ?_⟩
  have hm : stopcocklaw05_made.f = some true := by
    unfold stopcocklaw05_made.f ledger_New.f
    rfl
  unfold stopcocklaw05_LedgerMakes.f
  rw [hm]
  unfold ledger_New.f stopcockref05_New.f
  by_cases h1 : a < 1
  · rw [if_pos h1]
    simp only [Option.bind_some, if_true, same_none]
    rfl
  · rw [if_neg h1]
    by_cases h2 : a > 65535
    · rw [if_pos h2]
      simp only [Option.bind_some, if_true, same_none]
      rfl
    · rw [if_neg h2]
      simp only [Option.bind_some, if_true, same_none]
      rfl

end Go.Proofs.Ytddnkbabbobkaaa.Pure
