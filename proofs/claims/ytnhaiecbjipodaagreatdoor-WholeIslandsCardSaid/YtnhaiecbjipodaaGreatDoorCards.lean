/-
  DERIVED. GIVEN WITH THE SEED: THE CARDS: each row of YtnhaiecbjipodaaGreatDoorRows.lean that lists a variable, with what it lists TIED to the program's text (the seventh form; the later family's looks); each row that meets fmt, with fmt's text TOLD by the authors' own Lean function (tested against real Go, not proved from fmt's source: count such statements apart). THE CARD IS WHAT COUNTS. Prove the row's statement (the work); the ties are given (YtnhaiecbjipodaaGreatDoorTie.lean); close each card by the builder's one call (the guide's Derived/Test/ToyasCard.lean, 'card_holds'). Laid BY PROGRAM, IN A SANDBOX (cutbox-door.mjs). By AI agents, Wed Nov 11 2026. No macro, syntax, notation, axiom, sorry.
-/
import Derived.Test.YtnhaiecbjipodaaGreatDoorRows
import GoSem.ClaimSeven
namespace Go.Proofs.YtnhaiecbjipodaaGreatDoor
namespace Rows

/-- THE TIED CARD OF 'billiardtop.WholeErrors'. -/
def wholeErrorsCard : Claim7 := { stood := { row := wholeErrorsRow, standIns := [], harness := (true, "f3900558984663a9e89d85290aa63fa70c5afe9579555de7fbfc18110e217916"), looks := false }, kinds := [], alts := [], laidByText := true, laidKinds := [.data, .data], laidTests := true, laidLooks := .later }
def WholeErrorsCardSaid : Prop := Claim7.holds Tryz.pinned (.plain (OpenSpec.ofChange wholeErrorsSpec)) wholeErrorsCard

/-- THE TIED CARD OF 'billiardtop.WholeFull'. -/
def wholeFullCard : Claim7 := { stood := { row := wholeFullRow, standIns := [], harness := (true, "f3900558984663a9e89d85290aa63fa70c5afe9579555de7fbfc18110e217916"), looks := false }, kinds := [], alts := [], laidByText := true, laidKinds := [.data, .data], laidTests := true, laidLooks := .later }
def WholeFullCardSaid : Prop := Claim7.holds Tryz.pinned (.plain (OpenSpec.ofChange wholeFullSpec)) wholeFullCard

/-- THE TIED CARD OF 'billiardtop.WholeIslands'. -/
def wholeIslandsCard : Claim7 := { stood := { row := wholeIslandsRow, standIns := [], harness := (true, "f3900558984663a9e89d85290aa63fa70c5afe9579555de7fbfc18110e217916"), looks := false }, kinds := [], alts := [], laidByText := true, laidKinds := [.data, .data], laidTests := true, laidLooks := .later }
def WholeIslandsCardSaid : Prop := Claim7.holds Tryz.pinned (.plain (OpenSpec.ofChange wholeIslandsSpec)) wholeIslandsCard

/-- THE SECOND FORM's CARD OF 'billiardtop.WholeErrors'. -/
def wholeErrorsUptoCard : Claim7 := { stood := { row := wholeErrorsUptoRow, standIns := [], harness := (true, "f3900558984663a9e89d85290aa63fa70c5afe9579555de7fbfc18110e217916"), looks := false }, kinds := [], alts := [], laidByText := true, laidKinds := [.data, .data], laidTests := true, laidLooks := .later }
def WholeErrorsUptoCardSaid : Prop := Claim7.holds Tryz.pinned (.plain (OpenSpec.upto wholeErrorsSpec)) wholeErrorsUptoCard

/-- THE SECOND FORM's CARD OF 'billiardtop.WholeFull'. -/
def wholeFullUptoCard : Claim7 := { stood := { row := wholeFullUptoRow, standIns := [], harness := (true, "f3900558984663a9e89d85290aa63fa70c5afe9579555de7fbfc18110e217916"), looks := false }, kinds := [], alts := [], laidByText := true, laidKinds := [.data, .data], laidTests := true, laidLooks := .later }
def WholeFullUptoCardSaid : Prop := Claim7.holds Tryz.pinned (.plain (OpenSpec.upto wholeFullSpec)) wholeFullUptoCard

/-- THE SECOND FORM's CARD OF 'billiardtop.WholeIslands'. -/
def wholeIslandsUptoCard : Claim7 := { stood := { row := wholeIslandsUptoRow, standIns := [], harness := (true, "f3900558984663a9e89d85290aa63fa70c5afe9579555de7fbfc18110e217916"), looks := false }, kinds := [], alts := [], laidByText := true, laidKinds := [.data, .data], laidTests := true, laidLooks := .later }
def WholeIslandsUptoCardSaid : Prop := Claim7.holds Tryz.pinned (.plain (OpenSpec.upto wholeIslandsSpec)) wholeIslandsUptoCard
end Rows
end Go.Proofs.YtnhaiecbjipodaaGreatDoor
