/-
  DERIVED. GIVEN WITH THE SEED: THE CARDS: each row of YtcikcinkjbbnhaaDoorRows.lean that lists a variable, with what it lists TIED to the program's text (the seventh form; the later family's looks); each row that meets fmt, with fmt's text TOLD by the authors' own Lean function (tested against real Go, not proved from fmt's source: count such statements apart). THE CARD IS WHAT COUNTS. Prove the row's statement (the work); the ties are given (YtcikcinkjbbnhaaDoorTie.lean); close each card by the builder's one call (the guide's Derived/Test/ToyasCard.lean, 'card_holds'). Laid BY PROGRAM, IN A SANDBOX (cutbox-door.mjs). By AI agents, Wed Nov 11 2026. No macro, syntax, notation, axiom, sorry.
-/
import Derived.Test.YtcikcinkjbbnhaaDoorRows
import GoSem.ClaimSeven
namespace Go.Proofs.YtcikcinkjbbnhaaDoor
namespace Rows

/-- THE TIED CARD OF 'gimballaw13.HouseTwice'. -/
def houseTwiceCard : Claim7 := { stood := { row := houseTwiceRow, standIns := [], harness := (true, "055d3c30a025d5bbb43ac4e256eb8bbc50e952380e05d2a8f69fd97e1d4b3009"), looks := false }, kinds := [], alts := [], laidByText := true, laidKinds := [.data], laidTests := true, laidLooks := .later }
def HouseTwiceCardSaid : Prop := Claim7.holds Tryd.pinned (.plain (OpenSpec.ofChange houseTwiceSpec)) houseTwiceCard

/-- THE TIED CARD OF 'gimballaw13.HouseGens'. -/
def houseGensCard : Claim7 := { stood := { row := houseGensRow, standIns := [], harness := (true, "055d3c30a025d5bbb43ac4e256eb8bbc50e952380e05d2a8f69fd97e1d4b3009"), looks := false }, kinds := [], alts := [], laidByText := true, laidKinds := [.data], laidTests := true, laidLooks := .later }
def HouseGensCardSaid : Prop := Claim7.holds Tryd.pinned (.plain (OpenSpec.ofChange houseGensSpec)) houseGensCard

/-- THE TIED CARD OF 'gimballaw13.HouseBlocks'. -/
def houseBlocksCard : Claim7 := { stood := { row := houseBlocksRow, standIns := [], harness := (true, "055d3c30a025d5bbb43ac4e256eb8bbc50e952380e05d2a8f69fd97e1d4b3009"), looks := false }, kinds := [], alts := [], laidByText := true, laidKinds := [.data], laidTests := true, laidLooks := .later }
def HouseBlocksCardSaid : Prop := Claim7.holds Tryd.pinned (.plain (OpenSpec.ofChange houseBlocksSpec)) houseBlocksCard

/-- THE TIED CARD OF 'gimballaw13.HouseNears'. -/
def houseNearsCard : Claim7 := { stood := { row := houseNearsRow, standIns := [], harness := (true, "055d3c30a025d5bbb43ac4e256eb8bbc50e952380e05d2a8f69fd97e1d4b3009"), looks := false }, kinds := [], alts := [], laidByText := true, laidKinds := [.data], laidTests := true, laidLooks := .later }
def HouseNearsCardSaid : Prop := Claim7.holds Tryd.pinned (.plain (OpenSpec.ofChange houseNearsSpec)) houseNearsCard

/-- THE TIED CARD OF 'gimballaw17.HessPower'. -/
def hessPowerCard : Claim7 := { stood := { row := hessPowerRow, standIns := [], harness := (true, "055d3c30a025d5bbb43ac4e256eb8bbc50e952380e05d2a8f69fd97e1d4b3009"), looks := false }, kinds := [], alts := [], laidByText := true, laidKinds := [.data], laidTests := true, laidLooks := .later }
def HessPowerCardSaid : Prop := Claim7.holds Tryd.pinned (.plain (OpenSpec.ofChange hessPowerSpec)) hessPowerCard

/-- THE TIED CARD OF 'gimballaw18.SweepTurns'. -/
def sweepTurnsCard : Claim7 := { stood := { row := sweepTurnsRow, standIns := [], harness := (true, "055d3c30a025d5bbb43ac4e256eb8bbc50e952380e05d2a8f69fd97e1d4b3009"), looks := false }, kinds := [], alts := [], laidByText := true, laidKinds := [.data], laidTests := true, laidLooks := .later }
def SweepTurnsCardSaid : Prop := Claim7.holds Tryd.pinned (.plain (OpenSpec.ofChange sweepTurnsSpec)) sweepTurnsCard

/-- THE TIED CARD OF 'gimballaw17.HessReduces'. -/
def hessReducesCard : Claim7 := { stood := { row := hessReducesRow, standIns := [], harness := (true, "055d3c30a025d5bbb43ac4e256eb8bbc50e952380e05d2a8f69fd97e1d4b3009"), looks := false }, kinds := [], alts := [], laidByText := true, laidKinds := [.data], laidTests := true, laidLooks := .later }
def HessReducesCardSaid : Prop := Claim7.holds Tryd.pinned (.plain (OpenSpec.ofChange hessReducesSpec)) hessReducesCard

/-- THE SECOND FORM's CARD OF 'gimballaw13.HouseTwice'. -/
def houseTwiceUptoCard : Claim7 := { stood := { row := houseTwiceUptoRow, standIns := [], harness := (true, "055d3c30a025d5bbb43ac4e256eb8bbc50e952380e05d2a8f69fd97e1d4b3009"), looks := false }, kinds := [], alts := [], laidByText := true, laidKinds := [.data], laidTests := true, laidLooks := .later }
def HouseTwiceUptoCardSaid : Prop := Claim7.holds Tryd.pinned (.plain (OpenSpec.upto houseTwiceSpec)) houseTwiceUptoCard

/-- THE SECOND FORM's CARD OF 'gimballaw13.HouseGens'. -/
def houseGensUptoCard : Claim7 := { stood := { row := houseGensUptoRow, standIns := [], harness := (true, "055d3c30a025d5bbb43ac4e256eb8bbc50e952380e05d2a8f69fd97e1d4b3009"), looks := false }, kinds := [], alts := [], laidByText := true, laidKinds := [.data], laidTests := true, laidLooks := .later }
def HouseGensUptoCardSaid : Prop := Claim7.holds Tryd.pinned (.plain (OpenSpec.upto houseGensSpec)) houseGensUptoCard

/-- THE SECOND FORM's CARD OF 'gimballaw13.HouseBlocks'. -/
def houseBlocksUptoCard : Claim7 := { stood := { row := houseBlocksUptoRow, standIns := [], harness := (true, "055d3c30a025d5bbb43ac4e256eb8bbc50e952380e05d2a8f69fd97e1d4b3009"), looks := false }, kinds := [], alts := [], laidByText := true, laidKinds := [.data], laidTests := true, laidLooks := .later }
def HouseBlocksUptoCardSaid : Prop := Claim7.holds Tryd.pinned (.plain (OpenSpec.upto houseBlocksSpec)) houseBlocksUptoCard

/-- THE SECOND FORM's CARD OF 'gimballaw13.HouseNears'. -/
def houseNearsUptoCard : Claim7 := { stood := { row := houseNearsUptoRow, standIns := [], harness := (true, "055d3c30a025d5bbb43ac4e256eb8bbc50e952380e05d2a8f69fd97e1d4b3009"), looks := false }, kinds := [], alts := [], laidByText := true, laidKinds := [.data], laidTests := true, laidLooks := .later }
def HouseNearsUptoCardSaid : Prop := Claim7.holds Tryd.pinned (.plain (OpenSpec.upto houseNearsSpec)) houseNearsUptoCard

/-- THE SECOND FORM's CARD OF 'gimballaw17.HessPower'. -/
def hessPowerUptoCard : Claim7 := { stood := { row := hessPowerUptoRow, standIns := [], harness := (true, "055d3c30a025d5bbb43ac4e256eb8bbc50e952380e05d2a8f69fd97e1d4b3009"), looks := false }, kinds := [], alts := [], laidByText := true, laidKinds := [.data], laidTests := true, laidLooks := .later }
def HessPowerUptoCardSaid : Prop := Claim7.holds Tryd.pinned (.plain (OpenSpec.upto hessPowerSpec)) hessPowerUptoCard

/-- THE SECOND FORM's CARD OF 'gimballaw18.SweepTurns'. -/
def sweepTurnsUptoCard : Claim7 := { stood := { row := sweepTurnsUptoRow, standIns := [], harness := (true, "055d3c30a025d5bbb43ac4e256eb8bbc50e952380e05d2a8f69fd97e1d4b3009"), looks := false }, kinds := [], alts := [], laidByText := true, laidKinds := [.data], laidTests := true, laidLooks := .later }
def SweepTurnsUptoCardSaid : Prop := Claim7.holds Tryd.pinned (.plain (OpenSpec.upto sweepTurnsSpec)) sweepTurnsUptoCard

/-- THE SECOND FORM's CARD OF 'gimballaw17.HessReduces'. -/
def hessReducesUptoCard : Claim7 := { stood := { row := hessReducesUptoRow, standIns := [], harness := (true, "055d3c30a025d5bbb43ac4e256eb8bbc50e952380e05d2a8f69fd97e1d4b3009"), looks := false }, kinds := [], alts := [], laidByText := true, laidKinds := [.data], laidTests := true, laidLooks := .later }
def HessReducesUptoCardSaid : Prop := Claim7.holds Tryd.pinned (.plain (OpenSpec.upto hessReducesSpec)) hessReducesUptoCard
end Rows
end Go.Proofs.YtcikcinkjbbnhaaDoor
