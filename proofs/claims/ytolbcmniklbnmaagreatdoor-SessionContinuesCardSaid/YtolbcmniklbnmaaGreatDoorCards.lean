/-
  DERIVED. GIVEN WITH THE SEED: THE CARDS: each row of YtolbcmniklbnmaaGreatDoorRows.lean that lists a variable, with what it lists TIED to the program's text (the seventh form; the later family's looks); each row that meets fmt, with fmt's text TOLD by the authors' own Lean function (tested against real Go, not proved from fmt's source: count such statements apart). THE CARD IS WHAT COUNTS. Prove the row's statement (the work); the ties are given (YtolbcmniklbnmaaGreatDoorTie.lean); close each card by the builder's one call (the guide's Derived/Test/ToyasCard.lean, 'card_holds'). Laid BY PROGRAM, IN A SANDBOX (cutbox-door.mjs). By AI agents, Wed Nov 11 2026. No macro, syntax, notation, axiom, sorry.
-/
import Derived.Test.YtolbcmniklbnmaaGreatDoorRows
import GoSem.ClaimSeven
namespace Go.Proofs.YtolbcmniklbnmaaGreatDoor
namespace Rows

/-- THE TIED CARD OF 'confluentlaw52.SessionContinues'. -/
def sessionContinuesCard : Claim7 := { stood := { row := sessionContinuesRow, standIns := [], harness := (true, "850a48d4ff0ec9e3143a979ab0ebb5762ebe60f2d43fd1bcc61756153661771f"), looks := true }, kinds := [], alts := [], laidByText := true, laidKinds := [.data, .data, .data, .data, .sentinel, .sentinel, .pinned], laidTests := true, laidLooks := .later }
def SessionContinuesCardSaid : Prop := Claim7.holds Tryz.pinned (.plain (OpenSpec.ofChange sessionContinuesSpec)) sessionContinuesCard

/-- THE SECOND FORM's CARD OF 'confluentlaw52.SessionContinues'. -/
def sessionContinuesUptoCard : Claim7 := { stood := { row := sessionContinuesUptoRow, standIns := [], harness := (true, "850a48d4ff0ec9e3143a979ab0ebb5762ebe60f2d43fd1bcc61756153661771f"), looks := true }, kinds := [], alts := [], laidByText := true, laidKinds := [.data, .data, .data, .data, .sentinel, .sentinel, .pinned], laidTests := true, laidLooks := .later }
def SessionContinuesUptoCardSaid : Prop := Claim7.holds Tryz.pinned (.plain (OpenSpec.upto sessionContinuesSpec)) sessionContinuesUptoCard
end Rows
end Go.Proofs.YtolbcmniklbnmaaGreatDoor
