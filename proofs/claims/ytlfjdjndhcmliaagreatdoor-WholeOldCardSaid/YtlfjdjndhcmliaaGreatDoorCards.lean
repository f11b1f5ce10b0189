/-
  DERIVED. GIVEN WITH THE SEED: THE CARDS: each row of YtlfjdjndhcmliaaGreatDoorRows.lean that lists a variable, with what it lists TIED to the program's text (the seventh form; the later family's looks); each row that meets fmt, with fmt's text TOLD by the authors' own Lean function (tested against real Go, not proved from fmt's source: count such statements apart). THE CARD IS WHAT COUNTS. Prove the row's statement (the work); the ties are given (YtlfjdjndhcmliaaGreatDoorTie.lean); close each card by the builder's one call (the guide's Derived/Test/ToyasCard.lean, 'card_holds'). Laid BY PROGRAM, IN A SANDBOX (cutbox-door.mjs). By AI agents, Wed Nov 11 2026. No macro, syntax, notation, axiom, sorry.
-/
import Derived.Test.YtlfjdjndhcmliaaGreatDoorRows
import GoSem.ClaimSeven
namespace Go.Proofs.YtlfjdjndhcmliaaGreatDoor
namespace Rows

/-- THE TIED CARD OF 'poldertop.WholeGeoms'. -/
def wholeGeomsCard : Claim7 := { stood := { row := wholeGeomsRow, standIns := [], harness := (true, "7fb40f46aca9d6bdd3050274ba9ddde1ccbfa92a080233c573c1bd56531b3d35"), looks := true }, kinds := [], alts := [], laidByText := true, laidKinds := [.data, .pinned], laidTests := true, laidLooks := .later }
def WholeGeomsCardSaid : Prop := Claim7.holds Tryz.pinned (.plain (OpenSpec.ofChange wholeGeomsSpec)) wholeGeomsCard

/-- THE TIED CARD OF 'poldertop.WholeOld'. -/
def wholeOldCard : Claim7 := { stood := { row := wholeOldRow, standIns := [], harness := (true, "7fb40f46aca9d6bdd3050274ba9ddde1ccbfa92a080233c573c1bd56531b3d35"), looks := true }, kinds := [], alts := [], laidByText := true, laidKinds := [.data, .pinned], laidTests := true, laidLooks := .later }
def WholeOldCardSaid : Prop := Claim7.holds Tryz.pinned (.plain (OpenSpec.ofChange wholeOldSpec)) wholeOldCard

/-- THE SECOND FORM's CARD OF 'poldertop.WholeGeoms'. -/
def wholeGeomsUptoCard : Claim7 := { stood := { row := wholeGeomsUptoRow, standIns := [], harness := (true, "7fb40f46aca9d6bdd3050274ba9ddde1ccbfa92a080233c573c1bd56531b3d35"), looks := true }, kinds := [], alts := [], laidByText := true, laidKinds := [.data, .pinned], laidTests := true, laidLooks := .later }
def WholeGeomsUptoCardSaid : Prop := Claim7.holds Tryz.pinned (.plain (OpenSpec.upto wholeGeomsSpec)) wholeGeomsUptoCard

/-- THE SECOND FORM's CARD OF 'poldertop.WholeOld'. -/
def wholeOldUptoCard : Claim7 := { stood := { row := wholeOldUptoRow, standIns := [], harness := (true, "7fb40f46aca9d6bdd3050274ba9ddde1ccbfa92a080233c573c1bd56531b3d35"), looks := true }, kinds := [], alts := [], laidByText := true, laidKinds := [.data, .pinned], laidTests := true, laidLooks := .later }
def WholeOldUptoCardSaid : Prop := Claim7.holds Tryz.pinned (.plain (OpenSpec.upto wholeOldSpec)) wholeOldUptoCard
end Rows
end Go.Proofs.YtlfjdjndhcmliaaGreatDoor
