/-
  No cell of these rows narrows 'for every input' (looked for: loops, veiled, ifaces, maps, wideKeys, modest, calm, conditions, laid).
  DERIVED. THE GIVEN ROWS OF THIS SEAT. 4 by the template 'for every input the law returns true; each argument reads behind the call as it read before'; 0 by the template 'total and deterministic' (their statements: YtamoljalficfgaaTotals.lean).
  GIVEN WITH THE SEED: the statements are not yours to turn. If you find one false, say at which input.
  Laid BY PROGRAM, IN A SANDBOX (cutbox-rows.mjs): the forced cells as the released guide's own fill.sh prints them over the translation 5e4e844fc8b9848a… (all of the seat's roots in one cut). By AI agents, Wed Nov 11 2026. No macro, syntax, notation, axiom, sorry.
-/
import Derived.Test.YtamoljalficfgaaChecked
import GoSem.Claim
import GoSem.ClaimJoined
import GoSem.ClaimMapViews
import Derived.JoinedTies
import Derived.KernelRfl
namespace Go.Proofs.Ytamoljalficfgaa
/- THE CELL 'sum', in the pinned program and in every row, IS THE sha256 OF THE DUMP (.gsa) THAT YtamoljalficfgaaProg.lean LOADS. Nothing in Lean hashes anything: it is a label: what it is worth is what the hold of that sum in a sandbox is worth. -/
noncomputable def Try.pinned : Pinned := { name := "ytamoljalficfgaa", sum := "5e4e844fc8b9848ad7a1e9ffe4350450ab7a70cbb571d33adcb65596394a6a94", checked := Try.checked }
namespace Rows
def none {H : Type} : Left H := { results := [], args := [] }

/-- 'gimballaw19.SchurValues': WHATEVER THE INPUT: true; the input reads as it did. -/
def schurValuesSpec : ChangeSpec := { name := "schurValues", fn := fun _ => fun
  | [d1, d2, d3, d4, d5] => { results := [.lit (.bool true)], args := [d1, d2, d3, d4, d5] }
  | _ => none }
def schurValuesRow : OpenClaim := { program := "ytamoljalficfgaa", sum := "5e4e844fc8b9848ad7a1e9ffe4350450ab7a70cbb571d33adcb65596394a6a94", func := "gimbal/gimballaw19.SchurValues", spec := "schurValues", inPlace := ["math/bits.Add64"], apart := false }
def SchurValuesSaid : Prop := schurValuesRow.holds Try.pinned (OpenSpec.ofChange schurValuesSpec)

/-- ITS FALSE NEIGHBOUR: 'it returns false'. Refute it at one input. -/
def schurValuesWrong : ChangeSpec := { name := "schurValues", fn := fun _ => fun
  | [d1, d2, d3, d4, d5] => { results := [.lit (.bool false)], args := [d1, d2, d3, d4, d5] }
  | _ => none }
def SchurValuesWrongFalsely : Prop := schurValuesRow.holds Try.pinned (OpenSpec.ofChange schurValuesWrong)

/-- 'gimballaw17.HessShapes': WHATEVER THE INPUT: true; the input reads as it did. -/
def hessShapesSpec : ChangeSpec := { name := "hessShapes", fn := fun _ => fun
  | [d1, d2, d3, d4] => { results := [.lit (.bool true)], args := [d1, d2, d3, d4] }
  | _ => none }
def hessShapesRow : OpenClaim := { program := "ytamoljalficfgaa", sum := "5e4e844fc8b9848ad7a1e9ffe4350450ab7a70cbb571d33adcb65596394a6a94", func := "gimbal/gimballaw17.HessShapes", spec := "hessShapes", inPlace := ["math/bits.Add64", "math/bits.Sub64"], named := ["math/bits.divideError", "math/bits.overflowError"], apart := false }
def HessShapesSaid : Prop := hessShapesRow.holds Try.pinned (OpenSpec.ofChange hessShapesSpec)

/-- ITS FALSE NEIGHBOUR: 'it returns false'. Refute it at one input. -/
def hessShapesWrong : ChangeSpec := { name := "hessShapes", fn := fun _ => fun
  | [d1, d2, d3, d4] => { results := [.lit (.bool false)], args := [d1, d2, d3, d4] }
  | _ => none }
def HessShapesWrongFalsely : Prop := hessShapesRow.holds Try.pinned (OpenSpec.ofChange hessShapesWrong)

/-- 'gimballaw19.SchurShapes': WHATEVER THE INPUT: true; the input reads as it did. -/
def schurShapesSpec : ChangeSpec := { name := "schurShapes", fn := fun _ => fun
  | [d1, d2, d3] => { results := [.lit (.bool true)], args := [d1, d2, d3] }
  | _ => none }
def schurShapesRow : OpenClaim := { program := "ytamoljalficfgaa", sum := "5e4e844fc8b9848ad7a1e9ffe4350450ab7a70cbb571d33adcb65596394a6a94", func := "gimbal/gimballaw19.SchurShapes", spec := "schurShapes", inPlace := ["math/bits.Add64", "math/bits.Sub64"], unfollowed := true, recurses := true, named := ["math/bits.divideError", "math/bits.overflowError"], apart := false }
def SchurShapesSaid : Prop := schurShapesRow.holds Try.pinned (OpenSpec.ofChange schurShapesSpec)

/-- ITS FALSE NEIGHBOUR: 'it returns false'. Refute it at one input. -/
def schurShapesWrong : ChangeSpec := { name := "schurShapes", fn := fun _ => fun
  | [d1, d2, d3] => { results := [.lit (.bool false)], args := [d1, d2, d3] }
  | _ => none }
def SchurShapesWrongFalsely : Prop := schurShapesRow.holds Try.pinned (OpenSpec.ofChange schurShapesWrong)

/-- 'gimballaw19.SchurSmall': WHATEVER THE INPUT: true; the input reads as it did. -/
def schurSmallSpec : ChangeSpec := { name := "schurSmall", fn := fun _ => fun
  | [d1, d2, d3, d4] => { results := [.lit (.bool true)], args := [d1, d2, d3, d4] }
  | _ => none }
def schurSmallRow : OpenClaim := { program := "ytamoljalficfgaa", sum := "5e4e844fc8b9848ad7a1e9ffe4350450ab7a70cbb571d33adcb65596394a6a94", func := "gimbal/gimballaw19.SchurSmall", spec := "schurSmall", inPlace := ["math/bits.Add64", "math/bits.Sub64"], unfollowed := true, recurses := true, named := ["math/bits.divideError", "math/bits.overflowError"], apart := false }
def SchurSmallSaid : Prop := schurSmallRow.holds Try.pinned (OpenSpec.ofChange schurSmallSpec)

/-- ITS FALSE NEIGHBOUR: 'it returns false'. Refute it at one input. -/
def schurSmallWrong : ChangeSpec := { name := "schurSmall", fn := fun _ => fun
  | [d1, d2, d3, d4] => { results := [.lit (.bool false)], args := [d1, d2, d3, d4] }
  | _ => none }
def SchurSmallWrongFalsely : Prop := schurSmallRow.holds Try.pinned (OpenSpec.ofChange schurSmallWrong)

/- THE SECOND FORM. 'bulk': how many values and letters a reading holds, each counted each time it is reached (what is shared counts as often as it is met; a slice's spare places count too). A statement '..UptoSaid' is the law's where the arguments, and the package variables that the reading takes, are together of bulk at most 1048576: NARROWER than '..Said'. Prove '..Said' where nothing that the law and all that it calls make is longer than what came in: it says more and counts as full. Else prove '..UptoSaid'. A law counts once. -/
mutual
def uptoBulk {H : Type} : DataW H → Nat
  | .lit (.string bytes) => bytes.length + 1
  | .lit _ => 1
  | .nil => 1
  | .ptr d => uptoBulk d + 1
  | .slice elems spare => uptoBulkAll elems + uptoBulkAll spare + 1
  | .agg parts => uptoBulkAll parts + 1
  | .iface _ d => uptoBulk d + 1
  | .map entries => uptoBulkEntries entries + 1
  | .held _ => 1
def uptoBulkAll {H : Type} : List (DataW H) → Nat
  | [] => 0
  | d :: r => uptoBulk d + uptoBulkAll r
def uptoBulkEntries {H : Type} : List (Lit × DataW H) → Nat
  | [] => 0
  | x :: r => uptoBulkEntry x + uptoBulkEntries r
def uptoBulkEntry {H : Type} : Lit × DataW H → Nat
  | (.string bytes, d) => bytes.length + uptoBulk d + 1
  | (_, d) => uptoBulk d + 1
 end
def uptoSmall : (H : Type) → List (DataW H) → Bool := fun _ ds => decide (uptoBulkAll ds ≤ 1048576)
def OpenSpec.upto (s : _root_.Go.ChangeSpec) : _root_.Go.OpenSpec := { _root_.Go.OpenSpec.ofChange s with cond := some uptoSmall }

/-- 'gimballaw19.SchurValues', WHERE WHAT IT READS IS OF BULK AT MOST 1048576: true; the input reads as it did. -/
def schurValuesUptoRow : OpenClaim := { program := "ytamoljalficfgaa", sum := "5e4e844fc8b9848ad7a1e9ffe4350450ab7a70cbb571d33adcb65596394a6a94", func := "gimbal/gimballaw19.SchurValues", spec := "schurValues", inPlace := ["math/bits.Add64"], apart := false, narrowed := true }
def SchurValuesUptoSaid : Prop := schurValuesUptoRow.holds Try.pinned (OpenSpec.upto schurValuesSpec)

/-- 'gimballaw17.HessShapes', WHERE WHAT IT READS IS OF BULK AT MOST 1048576: true; the input reads as it did. -/
def hessShapesUptoRow : OpenClaim := { program := "ytamoljalficfgaa", sum := "5e4e844fc8b9848ad7a1e9ffe4350450ab7a70cbb571d33adcb65596394a6a94", func := "gimbal/gimballaw17.HessShapes", spec := "hessShapes", inPlace := ["math/bits.Add64", "math/bits.Sub64"], named := ["math/bits.divideError", "math/bits.overflowError"], apart := false, narrowed := true }
def HessShapesUptoSaid : Prop := hessShapesUptoRow.holds Try.pinned (OpenSpec.upto hessShapesSpec)

/-- 'gimballaw19.SchurShapes', WHERE WHAT IT READS IS OF BULK AT MOST 1048576: true; the input reads as it did. -/
def schurShapesUptoRow : OpenClaim := { program := "ytamoljalficfgaa", sum := "5e4e844fc8b9848ad7a1e9ffe4350450ab7a70cbb571d33adcb65596394a6a94", func := "gimbal/gimballaw19.SchurShapes", spec := "schurShapes", inPlace := ["math/bits.Add64", "math/bits.Sub64"], unfollowed := true, recurses := true, named := ["math/bits.divideError", "math/bits.overflowError"], apart := false, narrowed := true }
def SchurShapesUptoSaid : Prop := schurShapesUptoRow.holds Try.pinned (OpenSpec.upto schurShapesSpec)

/-- 'gimballaw19.SchurSmall', WHERE WHAT IT READS IS OF BULK AT MOST 1048576: true; the input reads as it did. -/
def schurSmallUptoRow : OpenClaim := { program := "ytamoljalficfgaa", sum := "5e4e844fc8b9848ad7a1e9ffe4350450ab7a70cbb571d33adcb65596394a6a94", func := "gimbal/gimballaw19.SchurSmall", spec := "schurSmall", inPlace := ["math/bits.Add64", "math/bits.Sub64"], unfollowed := true, recurses := true, named := ["math/bits.divideError", "math/bits.overflowError"], apart := false, narrowed := true }
def SchurSmallUptoSaid : Prop := schurSmallUptoRow.holds Try.pinned (OpenSpec.upto schurSmallSpec)

end Rows
end Go.Proofs.Ytamoljalficfgaa
