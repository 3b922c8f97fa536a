/-
  DERIVED. GIVEN WITH THE SEED: THE CARDS: each row of YtdbngjlhcjjhbaaGreatDoorRows.lean that lists a variable, with what it lists TIED to the program's text (the seventh form; the later family's looks); each row that meets fmt, with fmt's text TOLD by the authors' own Lean function (tested against real Go, not proved from fmt's source: count such statements apart). THE CARD IS WHAT COUNTS. Prove the row's statement (the work); the ties are given (YtdbngjlhcjjhbaaGreatDoorTie.lean); close each card by the builder's one call (the guide's Derived/Test/ToyasCard.lean, 'card_holds'). Laid BY PROGRAM, IN A SANDBOX (cutbox-door.mjs). By AI agents, Wed Nov 11 2026. No macro, syntax, notation, axiom, sorry.
-/
import Derived.Test.YtdbngjlhcjjhbaaGreatDoorRows
import GoSem.ClaimSeven
namespace Go.Proofs.YtdbngjlhcjjhbaaGreatDoor
namespace Rows

/-- THE TIED CARD OF 'gimballaw22.SwapTwice'. -/
def swapTwiceCard : Claim7 := { stood := { row := swapTwiceRow, standIns := [], harness := (true, "665c14d8139a86b802fea57433782fb6eba70da9487007a58a1987c1140e8930"), looks := false }, kinds := [], alts := [], laidByText := true, laidKinds := [.data], laidTests := true, laidLooks := .later }
def SwapTwiceCardSaid : Prop := Claim7.holds Tryz.pinned (.plain (OpenSpec.ofChange swapTwiceSpec)) swapTwiceCard

/-- THE TIED CARD OF 'gimballaw22.SwapOnes'. -/
def swapOnesCard : Claim7 := { stood := { row := swapOnesRow, standIns := [], harness := (true, "665c14d8139a86b802fea57433782fb6eba70da9487007a58a1987c1140e8930"), looks := false }, kinds := [], alts := [], laidByText := true, laidKinds := [.data], laidTests := true, laidLooks := .later }
def SwapOnesCardSaid : Prop := Claim7.holds Tryz.pinned (.plain (OpenSpec.ofChange swapOnesSpec)) swapOnesCard

/-- THE TIED CARD OF 'gimballaw22.SwapShapes'. -/
def swapShapesCard : Claim7 := { stood := { row := swapShapesRow, standIns := [], harness := (true, "665c14d8139a86b802fea57433782fb6eba70da9487007a58a1987c1140e8930"), looks := false }, kinds := [], alts := [], laidByText := true, laidKinds := [.data], laidTests := true, laidLooks := .later }
def SwapShapesCardSaid : Prop := Claim7.holds Tryz.pinned (.plain (OpenSpec.ofChange swapShapesSpec)) swapShapesCard

/-- THE SECOND FORM's CARD OF 'gimballaw22.SwapTwice'. -/
def swapTwiceUptoCard : Claim7 := { stood := { row := swapTwiceUptoRow, standIns := [], harness := (true, "665c14d8139a86b802fea57433782fb6eba70da9487007a58a1987c1140e8930"), looks := false }, kinds := [], alts := [], laidByText := true, laidKinds := [.data], laidTests := true, laidLooks := .later }
def SwapTwiceUptoCardSaid : Prop := Claim7.holds Tryz.pinned (.plain (OpenSpec.upto swapTwiceSpec)) swapTwiceUptoCard

/-- THE SECOND FORM's CARD OF 'gimballaw22.SwapOnes'. -/
def swapOnesUptoCard : Claim7 := { stood := { row := swapOnesUptoRow, standIns := [], harness := (true, "665c14d8139a86b802fea57433782fb6eba70da9487007a58a1987c1140e8930"), looks := false }, kinds := [], alts := [], laidByText := true, laidKinds := [.data], laidTests := true, laidLooks := .later }
def SwapOnesUptoCardSaid : Prop := Claim7.holds Tryz.pinned (.plain (OpenSpec.upto swapOnesSpec)) swapOnesUptoCard

/-- THE SECOND FORM's CARD OF 'gimballaw22.SwapShapes'. -/
def swapShapesUptoCard : Claim7 := { stood := { row := swapShapesUptoRow, standIns := [], harness := (true, "665c14d8139a86b802fea57433782fb6eba70da9487007a58a1987c1140e8930"), looks := false }, kinds := [], alts := [], laidByText := true, laidKinds := [.data], laidTests := true, laidLooks := .later }
def SwapShapesUptoCardSaid : Prop := Claim7.holds Tryz.pinned (.plain (OpenSpec.upto swapShapesSpec)) swapShapesUptoCard
end Rows
end Go.Proofs.YtdbngjlhcjjhbaaGreatDoor
