/-
  No cell of these rows narrows 'for every input' (looked for: loops, veiled, ifaces, maps, wideKeys, modest, calm, conditions, laid).
  DERIVED. THE GIVEN ROWS OF THIS SEAT. 4 by the template 'for every input the law returns true; each argument reads behind the call as it read before'; 0 by the template 'total and deterministic' (their statements: YtojppdcbnpinbaaTotals.lean).
  GIVEN WITH THE SEED: the statements are not yours to turn. If you find one false, say at which input.
  Laid BY PROGRAM, IN A SANDBOX (cutbox-rows.mjs): the forced cells as the released guide's own fill.sh prints them over the translation cb9d4be3a5ab4d1f… (all of the seat's roots in one cut). By AI agents, Wed Nov 11 2026. No macro, syntax, notation, axiom, sorry.
-/
import Derived.Test.YtojppdcbnpinbaaChecked
import GoSem.Claim
import GoSem.ClaimJoined
import GoSem.ClaimMapViews
import Derived.JoinedTies
import Derived.KernelRfl
namespace Go.Proofs.Ytojppdcbnpinbaa
/- THE CELL 'sum', in the pinned program and in every row, IS THE sha256 OF THE DUMP (.gsa) THAT YtojppdcbnpinbaaProg.lean LOADS. Nothing in Lean hashes anything: it is a label: what it is worth is what the hold of that sum in a sandbox is worth. -/
noncomputable def Try.pinned : Pinned := { name := "ytojppdcbnpinbaa", sum := "cb9d4be3a5ab4d1ff6cf0bd7ca225aa1b5246369251c0a413434b72fb97063c6", checked := Try.checked }
namespace Rows
def none {H : Type} : Left H := { results := [], args := [] }

/-- 'gimballaw13.HouseSteps': WHATEVER THE INPUT: true; the input reads as it did. -/
def houseStepsSpec : ChangeSpec := { name := "houseSteps", fn := fun _ => fun
  | [d1, d2, d3, d4, d5] => { results := [.lit (.bool true)], args := [d1, d2, d3, d4, d5] }
  | _ => none }
def houseStepsRow : OpenClaim := { program := "ytojppdcbnpinbaa", sum := "cb9d4be3a5ab4d1ff6cf0bd7ca225aa1b5246369251c0a413434b72fb97063c6", func := "gimbal/gimballaw13.HouseSteps", spec := "houseSteps", inPlace := ["math/bits.Add64", "math/bits.Sub64"], named := ["math/bits.divideError", "math/bits.overflowError"], apart := false }
def HouseStepsSaid : Prop := houseStepsRow.holds Try.pinned (OpenSpec.ofChange houseStepsSpec)

/-- ITS FALSE NEIGHBOUR: 'it returns false'. Refute it at one input. -/
def houseStepsWrong : ChangeSpec := { name := "houseSteps", fn := fun _ => fun
  | [d1, d2, d3, d4, d5] => { results := [.lit (.bool false)], args := [d1, d2, d3, d4, d5] }
  | _ => none }
def HouseStepsWrongFalsely : Prop := houseStepsRow.holds Try.pinned (OpenSpec.ofChange houseStepsWrong)

/-- 'gimballaw17.HessBoth': WHATEVER THE INPUT: true; the input reads as it did. -/
def hessBothSpec : ChangeSpec := { name := "hessBoth", fn := fun _ => fun
  | [d1, d2, d3, d4] => { results := [.lit (.bool true)], args := [d1, d2, d3, d4] }
  | _ => none }
def hessBothRow : OpenClaim := { program := "ytojppdcbnpinbaa", sum := "cb9d4be3a5ab4d1ff6cf0bd7ca225aa1b5246369251c0a413434b72fb97063c6", func := "gimbal/gimballaw17.HessBoth", spec := "hessBoth", inPlace := ["math/bits.Add64", "math/bits.Sub64"], named := ["math/bits.divideError", "math/bits.overflowError"], apart := false }
def HessBothSaid : Prop := hessBothRow.holds Try.pinned (OpenSpec.ofChange hessBothSpec)

/-- ITS FALSE NEIGHBOUR: 'it returns false'. Refute it at one input. -/
def hessBothWrong : ChangeSpec := { name := "hessBoth", fn := fun _ => fun
  | [d1, d2, d3, d4] => { results := [.lit (.bool false)], args := [d1, d2, d3, d4] }
  | _ => none }
def HessBothWrongFalsely : Prop := hessBothRow.holds Try.pinned (OpenSpec.ofChange hessBothWrong)

/-- 'gimballaw17.HessShapes': WHATEVER THE INPUT: true; the input reads as it did. -/
def hessShapesSpec : ChangeSpec := { name := "hessShapes", fn := fun _ => fun
  | [d1, d2, d3, d4] => { results := [.lit (.bool true)], args := [d1, d2, d3, d4] }
  | _ => none }
def hessShapesRow : OpenClaim := { program := "ytojppdcbnpinbaa", sum := "cb9d4be3a5ab4d1ff6cf0bd7ca225aa1b5246369251c0a413434b72fb97063c6", func := "gimbal/gimballaw17.HessShapes", spec := "hessShapes", inPlace := ["math/bits.Add64", "math/bits.Sub64"], named := ["math/bits.divideError", "math/bits.overflowError"], apart := false }
def HessShapesSaid : Prop := hessShapesRow.holds Try.pinned (OpenSpec.ofChange hessShapesSpec)

/-- ITS FALSE NEIGHBOUR: 'it returns false'. Refute it at one input. -/
def hessShapesWrong : ChangeSpec := { name := "hessShapes", fn := fun _ => fun
  | [d1, d2, d3, d4] => { results := [.lit (.bool false)], args := [d1, d2, d3, d4] }
  | _ => none }
def HessShapesWrongFalsely : Prop := hessShapesRow.holds Try.pinned (OpenSpec.ofChange hessShapesWrong)

/-- 'gimballaw17.HessKeeps': WHATEVER THE INPUT: true; the input reads as it did. -/
def hessKeepsSpec : ChangeSpec := { name := "hessKeeps", fn := fun _ => fun
  | [d1, d2] => { results := [.lit (.bool true)], args := [d1, d2] }
  | _ => none }
def hessKeepsRow : OpenClaim := { program := "ytojppdcbnpinbaa", sum := "cb9d4be3a5ab4d1ff6cf0bd7ca225aa1b5246369251c0a413434b72fb97063c6", func := "gimbal/gimballaw17.HessKeeps", spec := "hessKeeps", inPlace := ["math/bits.Add64", "math/bits.Sub64"], named := ["math/bits.divideError", "math/bits.overflowError"], apart := false }
def HessKeepsSaid : Prop := hessKeepsRow.holds Try.pinned (OpenSpec.ofChange hessKeepsSpec)

/-- ITS FALSE NEIGHBOUR: 'it returns false'. Refute it at one input. -/
def hessKeepsWrong : ChangeSpec := { name := "hessKeeps", fn := fun _ => fun
  | [d1, d2] => { results := [.lit (.bool false)], args := [d1, d2] }
  | _ => none }
def HessKeepsWrongFalsely : Prop := hessKeepsRow.holds Try.pinned (OpenSpec.ofChange hessKeepsWrong)

/- THE SECOND FORM. 'bulk': how many values and letters a reading holds, each counted each time it is reached (what is shared counts as often as it is met; a slice's spare places count too). A statement '..UptoSaid' is the law's where the arguments, and the package variables that the reading takes, are together of bulk at most 1048576: NARROWER than '..Said'. Prove '..Said' where nothing that the law and all that it calls make is longer than what came in: it says more and counts as full. Else prove '..UptoSaid'. A law counts once. -/
mutual
def uptoBulk {H : Type} : DataW H → Nat
  | .lit (.string bytes) => bytes.length + 1
  | .lit _ => 1
  | .nil => 1
  | .ptr d => uptoBulk d + 1
  | .slice elems spare => uptoBulkAll elems + uptoBulkAll spare + 1
  | .agg parts => uptoBulkAll parts + 1
  | .iface _ d => uptoBulk d + 1
  | .map entries => uptoBulkEntries entries + 1
  | .held _ => 1
def uptoBulkAll {H : Type} : List (DataW H) → Nat
  | [] => 0
  | d :: r => uptoBulk d + uptoBulkAll r
def uptoBulkEntries {H : Type} : List (Lit × DataW H) → Nat
  | [] => 0
  | x :: r => uptoBulkEntry x + uptoBulkEntries r
def uptoBulkEntry {H : Type} : Lit × DataW H → Nat
  | (.string bytes, d) => bytes.length + uptoBulk d + 1
  | (_, d) => uptoBulk d + 1
 end
def uptoSmall : (H : Type) → List (DataW H) → Bool := fun _ ds => decide (uptoBulkAll ds ≤ 1048576)
def OpenSpec.upto (s : _root_.Go.ChangeSpec) : _root_.Go.OpenSpec := { _root_.Go.OpenSpec.ofChange s with cond := some uptoSmall }

/-- 'gimballaw13.HouseSteps', WHERE WHAT IT READS IS OF BULK AT MOST 1048576: true; the input reads as it did. -/
def houseStepsUptoRow : OpenClaim := { program := "ytojppdcbnpinbaa", sum := "cb9d4be3a5ab4d1ff6cf0bd7ca225aa1b5246369251c0a413434b72fb97063c6", func := "gimbal/gimballaw13.HouseSteps", spec := "houseSteps", inPlace := ["math/bits.Add64", "math/bits.Sub64"], named := ["math/bits.divideError", "math/bits.overflowError"], apart := false, narrowed := true }
def HouseStepsUptoSaid : Prop := houseStepsUptoRow.holds Try.pinned (OpenSpec.upto houseStepsSpec)

/-- 'gimballaw17.HessBoth', WHERE WHAT IT READS IS OF BULK AT MOST 1048576: true; the input reads as it did. -/
def hessBothUptoRow : OpenClaim := { program := "ytojppdcbnpinbaa", sum := "cb9d4be3a5ab4d1ff6cf0bd7ca225aa1b5246369251c0a413434b72fb97063c6", func := "gimbal/gimballaw17.HessBoth", spec := "hessBoth", inPlace := ["math/bits.Add64", "math/bits.Sub64"], named := ["math/bits.divideError", "math/bits.overflowError"], apart := false, narrowed := true }
def HessBothUptoSaid : Prop := hessBothUptoRow.holds Try.pinned (OpenSpec.upto hessBothSpec)

/-- 'gimballaw17.HessShapes', WHERE WHAT IT READS IS OF BULK AT MOST 1048576: true; the input reads as it did. -/
def hessShapesUptoRow : OpenClaim := { program := "ytojppdcbnpinbaa", sum := "cb9d4be3a5ab4d1ff6cf0bd7ca225aa1b5246369251c0a413434b72fb97063c6", func := "gimbal/gimballaw17.HessShapes", spec := "hessShapes", inPlace := ["math/bits.Add64", "math/bits.Sub64"], named := ["math/bits.divideError", "math/bits.overflowError"], apart := false, narrowed := true }
def HessShapesUptoSaid : Prop := hessShapesUptoRow.holds Try.pinned (OpenSpec.upto hessShapesSpec)

/-- 'gimballaw17.HessKeeps', WHERE WHAT IT READS IS OF BULK AT MOST 1048576: true; the input reads as it did. -/
def hessKeepsUptoRow : OpenClaim := { program := "ytojppdcbnpinbaa", sum := "cb9d4be3a5ab4d1ff6cf0bd7ca225aa1b5246369251c0a413434b72fb97063c6", func := "gimbal/gimballaw17.HessKeeps", spec := "hessKeeps", inPlace := ["math/bits.Add64", "math/bits.Sub64"], named := ["math/bits.divideError", "math/bits.overflowError"], apart := false, narrowed := true }
def HessKeepsUptoSaid : Prop := hessKeepsUptoRow.holds Try.pinned (OpenSpec.upto hessKeepsSpec)

end Rows
end Go.Proofs.Ytojppdcbnpinbaa
