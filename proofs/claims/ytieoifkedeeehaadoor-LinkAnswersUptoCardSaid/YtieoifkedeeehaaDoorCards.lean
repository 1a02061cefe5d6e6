/-
  DERIVED. GIVEN WITH THE SEED: THE CARDS: each row of YtieoifkedeeehaaDoorRows.lean that lists a variable, with what it lists TIED to the program's text (the seventh form; the later family's looks); each row that meets fmt, with fmt's text TOLD by the authors' own Lean function (tested against real Go, not proved from fmt's source: count such statements apart). THE CARD IS WHAT COUNTS. Prove the row's statement (the work); the ties are given (YtieoifkedeeehaaDoorTie.lean); close each card by the builder's one call (the guide's Derived/Test/ToyasCard.lean, 'card_holds'). Laid BY PROGRAM, IN A SANDBOX (cutbox-door.mjs). By AI agents, Wed Nov 11 2026. No macro, syntax, notation, axiom, sorry.
-/
import Derived.Test.YtieoifkedeeehaaDoorRows
import GoSem.ClaimSeven
namespace Go.Proofs.YtieoifkedeeehaaDoor
namespace Rows

/-- THE TIED CARD OF 'ferrylaw21.LinkAnswers'. -/
def linkAnswersCard : Claim7 := { stood := { row := linkAnswersRow, standIns := [], harness := (true, "45709490ea541f40293beea057f050ba81a363c977baa7d0da65ed98c0e5f48d"), looks := true }, kinds := [], alts := [], laidByText := true, laidKinds := [.data, .handle, .sentinel, .sentinel, .sentinel, .sentinel, .sentinel, .sentinel, .sentinel, .sentinel, .sentinel, .sentinel, .sentinel, .sentinel, .sentinel, .sentinel, .sentinel, .sentinel, .sentinel, .sentinel, .sentinel, .sentinel], laidTests := true, laidLooks := .later }
def LinkAnswersCardSaid : Prop := Claim7.holds Tryd.pinned (.plain (OpenSpec.ofChange linkAnswersSpec)) linkAnswersCard

/-- THE TIED CARD OF 'ferrylaw21.LinkMemory'. -/
def linkMemoryCard : Claim7 := { stood := { row := linkMemoryRow, standIns := [], harness := (true, "45709490ea541f40293beea057f050ba81a363c977baa7d0da65ed98c0e5f48d"), looks := true }, kinds := [], alts := [], laidByText := true, laidKinds := [.data, .handle, .sentinel, .sentinel, .sentinel, .sentinel, .sentinel, .sentinel, .sentinel, .sentinel, .sentinel, .sentinel, .sentinel, .sentinel, .sentinel, .sentinel, .sentinel, .sentinel, .sentinel, .sentinel, .sentinel, .sentinel], laidTests := true, laidLooks := .later }
def LinkMemoryCardSaid : Prop := Claim7.holds Tryd.pinned (.plain (OpenSpec.ofChange linkMemorySpec)) linkMemoryCard

/-- THE SECOND FORM's CARD OF 'ferrylaw21.LinkAnswers'. -/
def linkAnswersUptoCard : Claim7 := { stood := { row := linkAnswersUptoRow, standIns := [], harness := (true, "45709490ea541f40293beea057f050ba81a363c977baa7d0da65ed98c0e5f48d"), looks := true }, kinds := [], alts := [], laidByText := true, laidKinds := [.data, .handle, .sentinel, .sentinel, .sentinel, .sentinel, .sentinel, .sentinel, .sentinel, .sentinel, .sentinel, .sentinel, .sentinel, .sentinel, .sentinel, .sentinel, .sentinel, .sentinel, .sentinel, .sentinel, .sentinel, .sentinel], laidTests := true, laidLooks := .later }
def LinkAnswersUptoCardSaid : Prop := Claim7.holds Tryd.pinned (.plain (OpenSpec.upto linkAnswersSpec)) linkAnswersUptoCard

/-- THE SECOND FORM's CARD OF 'ferrylaw21.LinkMemory'. -/
def linkMemoryUptoCard : Claim7 := { stood := { row := linkMemoryUptoRow, standIns := [], harness := (true, "45709490ea541f40293beea057f050ba81a363c977baa7d0da65ed98c0e5f48d"), looks := true }, kinds := [], alts := [], laidByText := true, laidKinds := [.data, .handle, .sentinel, .sentinel, .sentinel, .sentinel, .sentinel, .sentinel, .sentinel, .sentinel, .sentinel, .sentinel, .sentinel, .sentinel, .sentinel, .sentinel, .sentinel, .sentinel, .sentinel, .sentinel, .sentinel, .sentinel], laidTests := true, laidLooks := .later }
def LinkMemoryUptoCardSaid : Prop := Claim7.holds Tryd.pinned (.plain (OpenSpec.upto linkMemorySpec)) linkMemoryUptoCard
end Rows
end Go.Proofs.YtieoifkedeeehaaDoor
