/-
  NARROWER THAN 'FOR EVERY INPUT', by the rows' own cells (each row's printed sentence says how): HouseTwice: laid · HouseGens: laid · HouseBlocks: laid · HouseNears: laid · HessPower: laid · SweepTurns: laid · HessReduces: laid.
  DERIVED. THE GIVEN ROWS OF THIS SEAT. 7 by the template 'for every input the law returns true; each argument reads behind the call as it read before'; 0 by the template 'total and deterministic' (their statements: YtcikcinkjbbnhaaDoorTotals.lean).
  GIVEN WITH THE SEED: the statements are not yours to turn. If you find one false, say at which input.
  Laid BY PROGRAM, IN A SANDBOX (cutbox-rows.mjs): the forced cells as the released guide's own fill.sh prints them over the translation 34e3eeeb76e804c7… (all of the seat's roots in one cut). By AI agents, Wed Nov 11 2026. No macro, syntax, notation, axiom, sorry.
-/
import Derived.Test.YtcikcinkjbbnhaaDoorChecked
import GoSem.Claim
import GoSem.ClaimJoined
import GoSem.ClaimMapViews
import Derived.JoinedTies
import Derived.KernelRfl
namespace Go.Proofs.YtcikcinkjbbnhaaDoor
/- THE CELL 'sum', in the pinned program and in every row, IS THE sha256 OF THE DUMP (.gsa) THAT YtcikcinkjbbnhaaDoorProg.lean LOADS. Nothing in Lean hashes anything: it is a label: what it is worth is what the hold of that sum in a sandbox is worth. -/
noncomputable def Tryd.pinned : Pinned := { name := "ytcikcinkjbbnhaadoor", sum := "34e3eeeb76e804c7913babd8f36a71f6086687ca55d268694c963deb5ce72ff0", checked := Tryd.checked }
namespace Rows
def none {H : Type} : Left H := { results := [], args := [] }

/- WHAT THE LISTED PACKAGE-LEVEL VARIABLES READ AS WHEN THE CALL BEGINS. Each datum BY PROGRAM (the guide's laid-datum.mjs) off the statement by which the dump's own 'gosem.cut.vars' lays the variable. In a bare row this is a premise. The card (YtcikcinkjbbnhaaDoorCards.lean) ties it to the program's text. -/
def laid_math_bits_deBruijn32tab {H : Type} : DataW H := .agg [.lit (.int .u8 0), .lit (.int .u8 1), .lit (.int .u8 28), .lit (.int .u8 2), .lit (.int .u8 29), .lit (.int .u8 14), .lit (.int .u8 24), .lit (.int .u8 3), .lit (.int .u8 30), .lit (.int .u8 22), .lit (.int .u8 20), .lit (.int .u8 15), .lit (.int .u8 25), .lit (.int .u8 17), .lit (.int .u8 4), .lit (.int .u8 8), .lit (.int .u8 31), .lit (.int .u8 27), .lit (.int .u8 13), .lit (.int .u8 23), .lit (.int .u8 21), .lit (.int .u8 19), .lit (.int .u8 16), .lit (.int .u8 7), .lit (.int .u8 26), .lit (.int .u8 12), .lit (.int .u8 18), .lit (.int .u8 6), .lit (.int .u8 11), .lit (.int .u8 5), .lit (.int .u8 10), .lit (.int .u8 9)]

/-- 'gimballaw13.HouseTwice': WHATEVER THE INPUT: true; the input reads as it did. -/
def houseTwiceSpec : ChangeSpec := { name := "houseTwice", fn := fun _ => fun
  | [d1, d2] => { results := [.lit (.bool true)], args := [d1, d2] }
  | _ => none }
def houseTwiceRow : OpenClaim := { program := "ytcikcinkjbbnhaadoor", sum := "34e3eeeb76e804c7913babd8f36a71f6086687ca55d268694c963deb5ce72ff0", func := "gimbal/gimballaw13.HouseTwice", spec := "houseTwice", inPlace := ["math/bits.Add64", "math/bits.Sub64"], unfollowed := true, recurses := true, named := ["math/bits.divideError", "math/bits.overflowError", "math/bits.deBruijn32tab"], apart := false, laid := [("math/bits.deBruijn32tab", laid_math_bits_deBruijn32tab)] }
def HouseTwiceSaid : Prop := houseTwiceRow.holds Tryd.pinned (OpenSpec.ofChange houseTwiceSpec)

/-- ITS FALSE NEIGHBOUR: 'it returns false'. Refute it at one input. -/
def houseTwiceWrong : ChangeSpec := { name := "houseTwice", fn := fun _ => fun
  | [d1, d2] => { results := [.lit (.bool false)], args := [d1, d2] }
  | _ => none }
def HouseTwiceWrongFalsely : Prop := houseTwiceRow.holds Tryd.pinned (OpenSpec.ofChange houseTwiceWrong)

/-- 'gimballaw13.HouseGens': WHATEVER THE INPUT: true; the input reads as it did. -/
def houseGensSpec : ChangeSpec := { name := "houseGens", fn := fun _ => fun
  | [d] => { results := [.lit (.bool true)], args := [d] }
  | _ => none }
def houseGensRow : OpenClaim := { program := "ytcikcinkjbbnhaadoor", sum := "34e3eeeb76e804c7913babd8f36a71f6086687ca55d268694c963deb5ce72ff0", func := "gimbal/gimballaw13.HouseGens", spec := "houseGens", inPlace := ["math/bits.Add64", "math/bits.Sub64"], unfollowed := true, recurses := true, named := ["math/bits.divideError", "math/bits.overflowError", "math/bits.deBruijn32tab"], apart := false, laid := [("math/bits.deBruijn32tab", laid_math_bits_deBruijn32tab)] }
def HouseGensSaid : Prop := houseGensRow.holds Tryd.pinned (OpenSpec.ofChange houseGensSpec)

/-- ITS FALSE NEIGHBOUR: 'it returns false'. Refute it at one input. -/
def houseGensWrong : ChangeSpec := { name := "houseGens", fn := fun _ => fun
  | [d] => { results := [.lit (.bool false)], args := [d] }
  | _ => none }
def HouseGensWrongFalsely : Prop := houseGensRow.holds Tryd.pinned (OpenSpec.ofChange houseGensWrong)

/-- 'gimballaw13.HouseBlocks': WHATEVER THE INPUT: true; the input reads as it did. -/
def houseBlocksSpec : ChangeSpec := { name := "houseBlocks", fn := fun _ => fun
  | [d1, d2, d3] => { results := [.lit (.bool true)], args := [d1, d2, d3] }
  | _ => none }
def houseBlocksRow : OpenClaim := { program := "ytcikcinkjbbnhaadoor", sum := "34e3eeeb76e804c7913babd8f36a71f6086687ca55d268694c963deb5ce72ff0", func := "gimbal/gimballaw13.HouseBlocks", spec := "houseBlocks", inPlace := ["math/bits.Add64", "math/bits.Sub64"], unfollowed := true, recurses := true, named := ["math/bits.divideError", "math/bits.overflowError", "math/bits.deBruijn32tab"], apart := false, laid := [("math/bits.deBruijn32tab", laid_math_bits_deBruijn32tab)] }
def HouseBlocksSaid : Prop := houseBlocksRow.holds Tryd.pinned (OpenSpec.ofChange houseBlocksSpec)

/-- ITS FALSE NEIGHBOUR: 'it returns false'. Refute it at one input. -/
def houseBlocksWrong : ChangeSpec := { name := "houseBlocks", fn := fun _ => fun
  | [d1, d2, d3] => { results := [.lit (.bool false)], args := [d1, d2, d3] }
  | _ => none }
def HouseBlocksWrongFalsely : Prop := houseBlocksRow.holds Tryd.pinned (OpenSpec.ofChange houseBlocksWrong)

/-- 'gimballaw13.HouseNears': WHATEVER THE INPUT: true; the input reads as it did. -/
def houseNearsSpec : ChangeSpec := { name := "houseNears", fn := fun _ => fun
  | [d1, d2, d3] => { results := [.lit (.bool true)], args := [d1, d2, d3] }
  | _ => none }
def houseNearsRow : OpenClaim := { program := "ytcikcinkjbbnhaadoor", sum := "34e3eeeb76e804c7913babd8f36a71f6086687ca55d268694c963deb5ce72ff0", func := "gimbal/gimballaw13.HouseNears", spec := "houseNears", inPlace := ["math/bits.Add64", "math/bits.Sub64"], unfollowed := true, recurses := true, named := ["math/bits.divideError", "math/bits.overflowError", "math/bits.deBruijn32tab"], apart := false, laid := [("math/bits.deBruijn32tab", laid_math_bits_deBruijn32tab)] }
def HouseNearsSaid : Prop := houseNearsRow.holds Tryd.pinned (OpenSpec.ofChange houseNearsSpec)

/-- ITS FALSE NEIGHBOUR: 'it returns false'. Refute it at one input. -/
def houseNearsWrong : ChangeSpec := { name := "houseNears", fn := fun _ => fun
  | [d1, d2, d3] => { results := [.lit (.bool false)], args := [d1, d2, d3] }
  | _ => none }
def HouseNearsWrongFalsely : Prop := houseNearsRow.holds Tryd.pinned (OpenSpec.ofChange houseNearsWrong)

/-- 'gimballaw17.HessPower': WHATEVER THE INPUT: true; the input reads as it did. -/
def hessPowerSpec : ChangeSpec := { name := "hessPower", fn := fun _ => fun
  | [d1, d2, d3, d4] => { results := [.lit (.bool true)], args := [d1, d2, d3, d4] }
  | _ => none }
def hessPowerRow : OpenClaim := { program := "ytcikcinkjbbnhaadoor", sum := "34e3eeeb76e804c7913babd8f36a71f6086687ca55d268694c963deb5ce72ff0", func := "gimbal/gimballaw17.HessPower", spec := "hessPower", inPlace := ["math/bits.Add64", "math/bits.Sub64"], unfollowed := true, recurses := true, named := ["math/bits.divideError", "math/bits.overflowError", "math/bits.deBruijn32tab"], apart := false, laid := [("math/bits.deBruijn32tab", laid_math_bits_deBruijn32tab)] }
def HessPowerSaid : Prop := hessPowerRow.holds Tryd.pinned (OpenSpec.ofChange hessPowerSpec)

/-- ITS FALSE NEIGHBOUR: 'it returns false'. Refute it at one input. -/
def hessPowerWrong : ChangeSpec := { name := "hessPower", fn := fun _ => fun
  | [d1, d2, d3, d4] => { results := [.lit (.bool false)], args := [d1, d2, d3, d4] }
  | _ => none }
def HessPowerWrongFalsely : Prop := hessPowerRow.holds Tryd.pinned (OpenSpec.ofChange hessPowerWrong)

/-- 'gimballaw18.SweepTurns': WHATEVER THE INPUT: true; the input reads as it did. -/
def sweepTurnsSpec : ChangeSpec := { name := "sweepTurns", fn := fun _ => fun
  | [d1, d2, d3, d4, d5, d6] => { results := [.lit (.bool true)], args := [d1, d2, d3, d4, d5, d6] }
  | _ => none }
def sweepTurnsRow : OpenClaim := { program := "ytcikcinkjbbnhaadoor", sum := "34e3eeeb76e804c7913babd8f36a71f6086687ca55d268694c963deb5ce72ff0", func := "gimbal/gimballaw18.SweepTurns", spec := "sweepTurns", inPlace := ["math/bits.Add64", "math/bits.Sub64"], unfollowed := true, recurses := true, named := ["math/bits.divideError", "math/bits.overflowError", "math/bits.deBruijn32tab"], apart := false, laid := [("math/bits.deBruijn32tab", laid_math_bits_deBruijn32tab)] }
def SweepTurnsSaid : Prop := sweepTurnsRow.holds Tryd.pinned (OpenSpec.ofChange sweepTurnsSpec)

/-- ITS FALSE NEIGHBOUR: 'it returns false'. Refute it at one input. -/
def sweepTurnsWrong : ChangeSpec := { name := "sweepTurns", fn := fun _ => fun
  | [d1, d2, d3, d4, d5, d6] => { results := [.lit (.bool false)], args := [d1, d2, d3, d4, d5, d6] }
  | _ => none }
def SweepTurnsWrongFalsely : Prop := sweepTurnsRow.holds Tryd.pinned (OpenSpec.ofChange sweepTurnsWrong)

/-- 'gimballaw17.HessReduces': WHATEVER THE INPUT: true; the input reads as it did. -/
def hessReducesSpec : ChangeSpec := { name := "hessReduces", fn := fun _ => fun
  | [d1, d2, d3] => { results := [.lit (.bool true)], args := [d1, d2, d3] }
  | _ => none }
def hessReducesRow : OpenClaim := { program := "ytcikcinkjbbnhaadoor", sum := "34e3eeeb76e804c7913babd8f36a71f6086687ca55d268694c963deb5ce72ff0", func := "gimbal/gimballaw17.HessReduces", spec := "hessReduces", inPlace := ["math/bits.Add64", "math/bits.Sub64"], unfollowed := true, recurses := true, named := ["math/bits.divideError", "math/bits.overflowError", "math/bits.deBruijn32tab"], apart := false, laid := [("math/bits.deBruijn32tab", laid_math_bits_deBruijn32tab)] }
def HessReducesSaid : Prop := hessReducesRow.holds Tryd.pinned (OpenSpec.ofChange hessReducesSpec)

/-- ITS FALSE NEIGHBOUR: 'it returns false'. Refute it at one input. -/
def hessReducesWrong : ChangeSpec := { name := "hessReduces", fn := fun _ => fun
  | [d1, d2, d3] => { results := [.lit (.bool false)], args := [d1, d2, d3] }
  | _ => none }
def HessReducesWrongFalsely : Prop := hessReducesRow.holds Tryd.pinned (OpenSpec.ofChange hessReducesWrong)

/- THE SECOND FORM. 'bulk': how many values and letters a reading holds, each counted each time it is reached (what is shared counts as often as it is met; a slice's spare places count too). A statement '..UptoSaid' is the law's where the arguments, and the package variables that the reading takes, are together of bulk at most 1048576: NARROWER than '..Said'. Prove '..Said' where nothing that the law and all that it calls make is longer than what came in: it says more and counts as full. Else prove '..UptoSaid'. A law counts once. -/
mutual
def uptoBulk {H : Type} : DataW H → Nat
  | .lit (.string bytes) => bytes.length + 1
  | .lit _ => 1
  | .nil => 1
  | .ptr d => uptoBulk d + 1
  | .slice elems spare => uptoBulkAll elems + uptoBulkAll spare + 1
  | .agg parts => uptoBulkAll parts + 1
  | .iface _ d => uptoBulk d + 1
  | .map entries => uptoBulkEntries entries + 1
  | .held _ => 1
def uptoBulkAll {H : Type} : List (DataW H) → Nat
  | [] => 0
  | d :: r => uptoBulk d + uptoBulkAll r
def uptoBulkEntries {H : Type} : List (Lit × DataW H) → Nat
  | [] => 0
  | x :: r => uptoBulkEntry x + uptoBulkEntries r
def uptoBulkEntry {H : Type} : Lit × DataW H → Nat
  | (.string bytes, d) => bytes.length + uptoBulk d + 1
  | (_, d) => uptoBulk d + 1
 end
def uptoSmall : (H : Type) → List (DataW H) → Bool := fun _ ds => decide (uptoBulkAll ds ≤ 1048576)
def OpenSpec.upto (s : _root_.Go.ChangeSpec) : _root_.Go.OpenSpec := { _root_.Go.OpenSpec.ofChange s with cond := some uptoSmall }

/-- 'gimballaw13.HouseTwice', WHERE WHAT IT READS IS OF BULK AT MOST 1048576: true; the input reads as it did. -/
def houseTwiceUptoRow : OpenClaim := { program := "ytcikcinkjbbnhaadoor", sum := "34e3eeeb76e804c7913babd8f36a71f6086687ca55d268694c963deb5ce72ff0", func := "gimbal/gimballaw13.HouseTwice", spec := "houseTwice", inPlace := ["math/bits.Add64", "math/bits.Sub64"], unfollowed := true, recurses := true, named := ["math/bits.divideError", "math/bits.overflowError", "math/bits.deBruijn32tab"], apart := false, laid := [("math/bits.deBruijn32tab", laid_math_bits_deBruijn32tab)], narrowed := true }
def HouseTwiceUptoSaid : Prop := houseTwiceUptoRow.holds Tryd.pinned (OpenSpec.upto houseTwiceSpec)

/-- 'gimballaw13.HouseGens', WHERE WHAT IT READS IS OF BULK AT MOST 1048576: true; the input reads as it did. -/
def houseGensUptoRow : OpenClaim := { program := "ytcikcinkjbbnhaadoor", sum := "34e3eeeb76e804c7913babd8f36a71f6086687ca55d268694c963deb5ce72ff0", func := "gimbal/gimballaw13.HouseGens", spec := "houseGens", inPlace := ["math/bits.Add64", "math/bits.Sub64"], unfollowed := true, recurses := true, named := ["math/bits.divideError", "math/bits.overflowError", "math/bits.deBruijn32tab"], apart := false, laid := [("math/bits.deBruijn32tab", laid_math_bits_deBruijn32tab)], narrowed := true }
def HouseGensUptoSaid : Prop := houseGensUptoRow.holds Tryd.pinned (OpenSpec.upto houseGensSpec)

/-- 'gimballaw13.HouseBlocks', WHERE WHAT IT READS IS OF BULK AT MOST 1048576: true; the input reads as it did. -/
def houseBlocksUptoRow : OpenClaim := { program := "ytcikcinkjbbnhaadoor", sum := "34e3eeeb76e804c7913babd8f36a71f6086687ca55d268694c963deb5ce72ff0", func := "gimbal/gimballaw13.HouseBlocks", spec := "houseBlocks", inPlace := ["math/bits.Add64", "math/bits.Sub64"], unfollowed := true, recurses := true, named := ["math/bits.divideError", "math/bits.overflowError", "math/bits.deBruijn32tab"], apart := false, laid := [("math/bits.deBruijn32tab", laid_math_bits_deBruijn32tab)], narrowed := true }
def HouseBlocksUptoSaid : Prop := houseBlocksUptoRow.holds Tryd.pinned (OpenSpec.upto houseBlocksSpec)

/-- 'gimballaw13.HouseNears', WHERE WHAT IT READS IS OF BULK AT MOST 1048576: true; the input reads as it did. -/
def houseNearsUptoRow : OpenClaim := { program := "ytcikcinkjbbnhaadoor", sum := "34e3eeeb76e804c7913babd8f36a71f6086687ca55d268694c963deb5ce72ff0", func := "gimbal/gimballaw13.HouseNears", spec := "houseNears", inPlace := ["math/bits.Add64", "math/bits.Sub64"], unfollowed := true, recurses := true, named := ["math/bits.divideError", "math/bits.overflowError", "math/bits.deBruijn32tab"], apart := false, laid := [("math/bits.deBruijn32tab", laid_math_bits_deBruijn32tab)], narrowed := true }
def HouseNearsUptoSaid : Prop := houseNearsUptoRow.holds Tryd.pinned (OpenSpec.upto houseNearsSpec)

/-- 'gimballaw17.HessPower', WHERE WHAT IT READS IS OF BULK AT MOST 1048576: true; the input reads as it did. -/
def hessPowerUptoRow : OpenClaim := { program := "ytcikcinkjbbnhaadoor", sum := "34e3eeeb76e804c7913babd8f36a71f6086687ca55d268694c963deb5ce72ff0", func := "gimbal/gimballaw17.HessPower", spec := "hessPower", inPlace := ["math/bits.Add64", "math/bits.Sub64"], unfollowed := true, recurses := true, named := ["math/bits.divideError", "math/bits.overflowError", "math/bits.deBruijn32tab"], apart := false, laid := [("math/bits.deBruijn32tab", laid_math_bits_deBruijn32tab)], narrowed := true }
def HessPowerUptoSaid : Prop := hessPowerUptoRow.holds Tryd.pinned (OpenSpec.upto hessPowerSpec)

/-- 'gimballaw18.SweepTurns', WHERE WHAT IT READS IS OF BULK AT MOST 1048576: true; the input reads as it did. -/
def sweepTurnsUptoRow : OpenClaim := { program := "ytcikcinkjbbnhaadoor", sum := "34e3eeeb76e804c7913babd8f36a71f6086687ca55d268694c963deb5ce72ff0", func := "gimbal/gimballaw18.SweepTurns", spec := "sweepTurns", inPlace := ["math/bits.Add64", "math/bits.Sub64"], unfollowed := true, recurses := true, named := ["math/bits.divideError", "math/bits.overflowError", "math/bits.deBruijn32tab"], apart := false, laid := [("math/bits.deBruijn32tab", laid_math_bits_deBruijn32tab)], narrowed := true }
def SweepTurnsUptoSaid : Prop := sweepTurnsUptoRow.holds Tryd.pinned (OpenSpec.upto sweepTurnsSpec)

/-- 'gimballaw17.HessReduces', WHERE WHAT IT READS IS OF BULK AT MOST 1048576: true; the input reads as it did. -/
def hessReducesUptoRow : OpenClaim := { program := "ytcikcinkjbbnhaadoor", sum := "34e3eeeb76e804c7913babd8f36a71f6086687ca55d268694c963deb5ce72ff0", func := "gimbal/gimballaw17.HessReduces", spec := "hessReduces", inPlace := ["math/bits.Add64", "math/bits.Sub64"], unfollowed := true, recurses := true, named := ["math/bits.divideError", "math/bits.overflowError", "math/bits.deBruijn32tab"], apart := false, laid := [("math/bits.deBruijn32tab", laid_math_bits_deBruijn32tab)], narrowed := true }
def HessReducesUptoSaid : Prop := hessReducesUptoRow.holds Tryd.pinned (OpenSpec.upto hessReducesSpec)

end Rows
end Go.Proofs.YtcikcinkjbbnhaaDoor
