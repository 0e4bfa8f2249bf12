/-
  DERIVED. GIVEN WITH THE SEED: THE CARDS: each row of YtgcgnhcjjlnloaaDoorRows.lean that lists a variable, with what it lists TIED to the program's text (the seventh form; the later family's looks); each row that meets fmt, with fmt's text TOLD by the authors' own Lean function (tested against real Go, not proved from fmt's source: count such statements apart). THE CARD IS WHAT COUNTS. Prove the row's statement (the work); the ties are given (YtgcgnhcjjlnloaaDoorTie.lean); close each card by the builder's one call (the guide's Derived/Test/ToyasCard.lean, 'card_holds'). Laid BY PROGRAM, IN A SANDBOX (cutbox-door.mjs). By AI agents, Wed Nov 11 2026. No macro, syntax, notation, axiom, sorry.
-/
import Derived.Test.YtgcgnhcjjlnloaaDoorRows
import GoSem.ClaimSeven
namespace Go.Proofs.YtgcgnhcjjlnloaaDoor
namespace Rows

/-- THE TIED CARD OF 'stopcocklaw10.DiskArmed'. -/
def diskArmedCard : Claim7 := { stood := { row := diskArmedRow, standIns := [], harness := (true, "e1eafd9c9ece802cc6c6ccd0971c41c997fd7ee5b3d118a63185bd24b23d0dba"), looks := true }, kinds := [], alts := [], laidByText := true, laidKinds := [.data, .pinned], laidTests := true, laidLooks := .later }
def DiskArmedCardSaid : Prop := Claim7.holds Tryd.pinned (.plain (OpenSpec.ofChange diskArmedSpec)) diskArmedCard

/-- THE TIED CARD OF 'stopcocklaw10.DiskGoes'. -/
def diskGoesCard : Claim7 := { stood := { row := diskGoesRow, standIns := [], harness := (true, "e1eafd9c9ece802cc6c6ccd0971c41c997fd7ee5b3d118a63185bd24b23d0dba"), looks := true }, kinds := [], alts := [], laidByText := true, laidKinds := [.data, .pinned], laidTests := true, laidLooks := .later }
def DiskGoesCardSaid : Prop := Claim7.holds Tryd.pinned (.plain (OpenSpec.ofChange diskGoesSpec)) diskGoesCard

/-- THE TIED CARD OF 'stopcocklaw10.DiskSafe'. -/
def diskSafeCard : Claim7 := { stood := { row := diskSafeRow, standIns := [], harness := (true, "e1eafd9c9ece802cc6c6ccd0971c41c997fd7ee5b3d118a63185bd24b23d0dba"), looks := true }, kinds := [], alts := [], laidByText := true, laidKinds := [.data, .pinned], laidTests := true, laidLooks := .later }
def DiskSafeCardSaid : Prop := Claim7.holds Tryd.pinned (.plain (OpenSpec.ofChange diskSafeSpec)) diskSafeCard

/-- THE SECOND FORM's CARD OF 'stopcocklaw10.DiskArmed'. -/
def diskArmedUptoCard : Claim7 := { stood := { row := diskArmedUptoRow, standIns := [], harness := (true, "e1eafd9c9ece802cc6c6ccd0971c41c997fd7ee5b3d118a63185bd24b23d0dba"), looks := true }, kinds := [], alts := [], laidByText := true, laidKinds := [.data, .pinned], laidTests := true, laidLooks := .later }
def DiskArmedUptoCardSaid : Prop := Claim7.holds Tryd.pinned (.plain (OpenSpec.upto diskArmedSpec)) diskArmedUptoCard

/-- THE SECOND FORM's CARD OF 'stopcocklaw10.DiskGoes'. -/
def diskGoesUptoCard : Claim7 := { stood := { row := diskGoesUptoRow, standIns := [], harness := (true, "e1eafd9c9ece802cc6c6ccd0971c41c997fd7ee5b3d118a63185bd24b23d0dba"), looks := true }, kinds := [], alts := [], laidByText := true, laidKinds := [.data, .pinned], laidTests := true, laidLooks := .later }
def DiskGoesUptoCardSaid : Prop := Claim7.holds Tryd.pinned (.plain (OpenSpec.upto diskGoesSpec)) diskGoesUptoCard

/-- THE SECOND FORM's CARD OF 'stopcocklaw10.DiskSafe'. -/
def diskSafeUptoCard : Claim7 := { stood := { row := diskSafeUptoRow, standIns := [], harness := (true, "e1eafd9c9ece802cc6c6ccd0971c41c997fd7ee5b3d118a63185bd24b23d0dba"), looks := true }, kinds := [], alts := [], laidByText := true, laidKinds := [.data, .pinned], laidTests := true, laidLooks := .later }
def DiskSafeUptoCardSaid : Prop := Claim7.holds Tryd.pinned (.plain (OpenSpec.upto diskSafeSpec)) diskSafeUptoCard
end Rows
end Go.Proofs.YtgcgnhcjjlnloaaDoor
