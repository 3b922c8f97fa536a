/-
  DERIVED. GIVEN WITH THE SEED: THE CARDS: each row of YtaojabgaebbckaaGreatDoorRows.lean that lists a variable, with what it lists TIED to the program's text (the seventh form; the later family's looks); each row that meets fmt, with fmt's text TOLD by the authors' own Lean function (tested against real Go, not proved from fmt's source: count such statements apart). THE CARD IS WHAT COUNTS. Prove the row's statement (the work); the ties are given (YtaojabgaebbckaaGreatDoorTie.lean); close each card by the builder's one call (the guide's Derived/Test/ToyasCard.lean, 'card_holds'). Laid BY PROGRAM, IN A SANDBOX (cutbox-door.mjs). By AI agents, Wed Nov 11 2026. No macro, syntax, notation, axiom, sorry.
-/
import Derived.Test.YtaojabgaebbckaaGreatDoorRows
import GoSem.ClaimSeven
namespace Go.Proofs.YtaojabgaebbckaaGreatDoor
namespace Rows

/-- THE TIED CARD OF 'gimballaw24.EigWants'. -/
def eigWantsCard : Claim7 := { stood := { row := eigWantsRow, standIns := [], harness := (true, "6808c5bf391c0aed57a6bd22a6748ab19f06d2f76991d9662e594739002ad6c0"), looks := false }, kinds := [], alts := [], laidByText := true, laidKinds := [.data, .data], laidTests := true, laidLooks := .later }
def EigWantsCardSaid : Prop := Claim7.holds Tryz.pinned (.plain (OpenSpec.ofChange eigWantsSpec)) eigWantsCard

/-- THE TIED CARD OF 'gimballaw24.EigBacks'. -/
def eigBacksCard : Claim7 := { stood := { row := eigBacksRow, standIns := [], harness := (true, "6808c5bf391c0aed57a6bd22a6748ab19f06d2f76991d9662e594739002ad6c0"), looks := false }, kinds := [], alts := [], laidByText := true, laidKinds := [.data, .data], laidTests := true, laidLooks := .later }
def EigBacksCardSaid : Prop := Claim7.holds Tryz.pinned (.plain (OpenSpec.ofChange eigBacksSpec)) eigBacksCard

/-- THE SECOND FORM's CARD OF 'gimballaw24.EigWants'. -/
def eigWantsUptoCard : Claim7 := { stood := { row := eigWantsUptoRow, standIns := [], harness := (true, "6808c5bf391c0aed57a6bd22a6748ab19f06d2f76991d9662e594739002ad6c0"), looks := false }, kinds := [], alts := [], laidByText := true, laidKinds := [.data, .data], laidTests := true, laidLooks := .later }
def EigWantsUptoCardSaid : Prop := Claim7.holds Tryz.pinned (.plain (OpenSpec.upto eigWantsSpec)) eigWantsUptoCard

/-- THE SECOND FORM's CARD OF 'gimballaw24.EigBacks'. -/
def eigBacksUptoCard : Claim7 := { stood := { row := eigBacksUptoRow, standIns := [], harness := (true, "6808c5bf391c0aed57a6bd22a6748ab19f06d2f76991d9662e594739002ad6c0"), looks := false }, kinds := [], alts := [], laidByText := true, laidKinds := [.data, .data], laidTests := true, laidLooks := .later }
def EigBacksUptoCardSaid : Prop := Claim7.holds Tryz.pinned (.plain (OpenSpec.upto eigBacksSpec)) eigBacksUptoCard
end Rows
end Go.Proofs.YtaojabgaebbckaaGreatDoor
