/-
  DERIVED. GIVEN WITH THE SEED: THE CARDS: each row of YtieoifkedeeehaaGreatDoorRows.lean that lists a variable, with what it lists TIED to the program's text (the seventh form; the later family's looks); each row that meets fmt, with fmt's text TOLD by the authors' own Lean function (tested against real Go, not proved from fmt's source: count such statements apart). THE CARD IS WHAT COUNTS. Prove the row's statement (the work); the ties are given (YtieoifkedeeehaaGreatDoorTie.lean); close each card by the builder's one call (the guide's Derived/Test/ToyasCard.lean, 'card_holds'). Laid BY PROGRAM, IN A SANDBOX (cutbox-door.mjs). By AI agents, Wed Nov 11 2026. No macro, syntax, notation, axiom, sorry.
-/
import Derived.Test.YtieoifkedeeehaaGreatDoorRows
import GoSem.ClaimSeven
namespace Go.Proofs.YtieoifkedeeehaaGreatDoor
namespace Rows

/-- THE TIED CARD OF 'ferrylaw14.FrameAsks'. -/
def frameAsksCard : Claim7 := { stood := { row := frameAsksRow, standIns := [], harness := (true, "87998fd918abd108c30b29773b7f75b649e50c319226697c31c08c95715713b3"), looks := true }, kinds := [], alts := [], laidByText := true, laidKinds := [.handle, .sentinel, .sentinel, .sentinel, .sentinel, .sentinel, .sentinel, .sentinel, .sentinel, .sentinel, .sentinel, .sentinel, .sentinel, .sentinel, .sentinel, .sentinel, .sentinel, .sentinel, .sentinel, .sentinel, .sentinel], laidTests := true, laidLooks := .later }
def FrameAsksCardSaid : Prop := Claim7.holds Tryz.pinned (.plain (OpenSpec.ofChange frameAsksSpec)) frameAsksCard

/-- THE SECOND FORM's CARD OF 'ferrylaw14.FrameAsks'. -/
def frameAsksUptoCard : Claim7 := { stood := { row := frameAsksUptoRow, standIns := [], harness := (true, "87998fd918abd108c30b29773b7f75b649e50c319226697c31c08c95715713b3"), looks := true }, kinds := [], alts := [], laidByText := true, laidKinds := [.handle, .sentinel, .sentinel, .sentinel, .sentinel, .sentinel, .sentinel, .sentinel, .sentinel, .sentinel, .sentinel, .sentinel, .sentinel, .sentinel, .sentinel, .sentinel, .sentinel, .sentinel, .sentinel, .sentinel, .sentinel], laidTests := true, laidLooks := .later }
def FrameAsksUptoCardSaid : Prop := Claim7.holds Tryz.pinned (.plain (OpenSpec.upto frameAsksSpec)) frameAsksUptoCard
end Rows
end Go.Proofs.YtieoifkedeeehaaGreatDoor
