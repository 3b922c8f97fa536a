/-
  No cell of these rows narrows 'for every input' (looked for: loops, veiled, ifaces, maps, wideKeys, modest, calm, conditions, laid).
  DERIVED. THE GIVEN ROWS OF THIS SEAT. 12 by the template 'for every input the law returns true; each argument reads behind the call as it read before'; 0 by the template 'total and deterministic' (their statements: YtjamobbfafjdmaaTotals.lean).
  GIVEN WITH THE SEED: the statements are not yours to turn. If you find one false, say at which input.
  Laid BY PROGRAM, IN A SANDBOX (cutbox-rows.mjs): the forced cells as the released guide's own fill.sh prints them over the translation d6ea69605beb7210… (all of the seat's roots in one cut). By AI agents, Wed Nov 11 2026. No macro, syntax, notation, axiom, sorry.
-/
import Derived.Test.YtjamobbfafjdmaaChecked
import GoSem.Claim
import GoSem.ClaimJoined
import GoSem.ClaimMapViews
import Derived.JoinedTies
import Derived.KernelRfl
namespace Go.Proofs.Ytjamobbfafjdmaa
/- THE CELL 'sum', in the pinned program and in every row, IS THE sha256 OF THE DUMP (.gsa) THAT YtjamobbfafjdmaaProg.lean LOADS. Nothing in Lean hashes anything: it is a label: what it is worth is what the hold of that sum in a sandbox is worth. -/
noncomputable def Try.pinned : Pinned := { name := "ytjamobbfafjdmaa", sum := "d6ea69605beb721071065bc3bcddad90fc373caa40f568b6c843669a75028730", checked := Try.checked }
namespace Rows
def none {H : Type} : Left H := { results := [], args := [] }

/-- 'gimballaw02.WideMuls': WHATEVER THE INPUT: true; the input reads as it did. -/
def wideMulsSpec : ChangeSpec := { name := "wideMuls", fn := fun _ => fun
  | [d1, d2] => { results := [.lit (.bool true)], args := [d1, d2] }
  | _ => none }
def wideMulsRow : OpenClaim := { program := "ytjamobbfafjdmaa", sum := "d6ea69605beb721071065bc3bcddad90fc373caa40f568b6c843669a75028730", func := "gimbal/gimballaw02.WideMuls", spec := "wideMuls", apart := false }
def WideMulsSaid : Prop := wideMulsRow.holds Try.pinned (OpenSpec.ofChange wideMulsSpec)

/-- ITS FALSE NEIGHBOUR: 'it returns false'. Refute it at one input. -/
def wideMulsWrong : ChangeSpec := { name := "wideMuls", fn := fun _ => fun
  | [d1, d2] => { results := [.lit (.bool false)], args := [d1, d2] }
  | _ => none }
def WideMulsWrongFalsely : Prop := wideMulsRow.holds Try.pinned (OpenSpec.ofChange wideMulsWrong)

/-- 'gimballaw02.WideRoots': WHATEVER THE INPUT: true; the input reads as it did. -/
def wideRootsSpec : ChangeSpec := { name := "wideRoots", fn := fun _ => fun
  | [d1, d2, d3] => { results := [.lit (.bool true)], args := [d1, d2, d3] }
  | _ => none }
def wideRootsRow : OpenClaim := { program := "ytjamobbfafjdmaa", sum := "d6ea69605beb721071065bc3bcddad90fc373caa40f568b6c843669a75028730", func := "gimbal/gimballaw02.WideRoots", spec := "wideRoots", apart := false }
def WideRootsSaid : Prop := wideRootsRow.holds Try.pinned (OpenSpec.ofChange wideRootsSpec)

/-- ITS FALSE NEIGHBOUR: 'it returns false'. Refute it at one input. -/
def wideRootsWrong : ChangeSpec := { name := "wideRoots", fn := fun _ => fun
  | [d1, d2, d3] => { results := [.lit (.bool false)], args := [d1, d2, d3] }
  | _ => none }
def WideRootsWrongFalsely : Prop := wideRootsRow.holds Try.pinned (OpenSpec.ofChange wideRootsWrong)

/-- 'gimballaw01.WordSigns': WHATEVER THE INPUT: true; the input reads as it did. -/
def wordSignsSpec : ChangeSpec := { name := "wordSigns", fn := fun _ => fun
  | [d1, d2] => { results := [.lit (.bool true)], args := [d1, d2] }
  | _ => none }
def wordSignsRow : OpenClaim := { program := "ytjamobbfafjdmaa", sum := "d6ea69605beb721071065bc3bcddad90fc373caa40f568b6c843669a75028730", func := "gimbal/gimballaw01.WordSigns", spec := "wordSigns", apart := false }
def WordSignsSaid : Prop := wordSignsRow.holds Try.pinned (OpenSpec.ofChange wordSignsSpec)

/-- ITS FALSE NEIGHBOUR: 'it returns false'. Refute it at one input. -/
def wordSignsWrong : ChangeSpec := { name := "wordSigns", fn := fun _ => fun
  | [d1, d2] => { results := [.lit (.bool false)], args := [d1, d2] }
  | _ => none }
def WordSignsWrongFalsely : Prop := wordSignsRow.holds Try.pinned (OpenSpec.ofChange wordSignsWrong)

/-- 'gimballaw01.WordFloats': WHATEVER THE INPUT: true; the input reads as it did. -/
def wordFloatsSpec : ChangeSpec := { name := "wordFloats", fn := fun _ => fun
  | [d] => { results := [.lit (.bool true)], args := [d] }
  | _ => none }
def wordFloatsRow : OpenClaim := { program := "ytjamobbfafjdmaa", sum := "d6ea69605beb721071065bc3bcddad90fc373caa40f568b6c843669a75028730", func := "gimbal/gimballaw01.WordFloats", spec := "wordFloats", inPlace := ["math.Float64frombits", "math.Float64bits"], apart := false }
def WordFloatsSaid : Prop := wordFloatsRow.holds Try.pinned (OpenSpec.ofChange wordFloatsSpec)

/-- ITS FALSE NEIGHBOUR: 'it returns false'. Refute it at one input. -/
def wordFloatsWrong : ChangeSpec := { name := "wordFloats", fn := fun _ => fun
  | [d] => { results := [.lit (.bool false)], args := [d] }
  | _ => none }
def WordFloatsWrongFalsely : Prop := wordFloatsRow.holds Try.pinned (OpenSpec.ofChange wordFloatsWrong)

/-- 'gimballaw01.WordMakes': WHATEVER THE INPUT: true; the input reads as it did. -/
def wordMakesSpec : ChangeSpec := { name := "wordMakes", fn := fun _ => fun
  | [d1, d2, d3] => { results := [.lit (.bool true)], args := [d1, d2, d3] }
  | _ => none }
def wordMakesRow : OpenClaim := { program := "ytjamobbfafjdmaa", sum := "d6ea69605beb721071065bc3bcddad90fc373caa40f568b6c843669a75028730", func := "gimbal/gimballaw01.WordMakes", spec := "wordMakes", apart := false }
def WordMakesSaid : Prop := wordMakesRow.holds Try.pinned (OpenSpec.ofChange wordMakesSpec)

/-- ITS FALSE NEIGHBOUR: 'it returns false'. Refute it at one input. -/
def wordMakesWrong : ChangeSpec := { name := "wordMakes", fn := fun _ => fun
  | [d1, d2, d3] => { results := [.lit (.bool false)], args := [d1, d2, d3] }
  | _ => none }
def WordMakesWrongFalsely : Prop := wordMakesRow.holds Try.pinned (OpenSpec.ofChange wordMakesWrong)

/-- 'gimballaw01.WordNexts': WHATEVER THE INPUT: true; the input reads as it did. -/
def wordNextsSpec : ChangeSpec := { name := "wordNexts", fn := fun _ => fun
  | [d1, d2] => { results := [.lit (.bool true)], args := [d1, d2] }
  | _ => none }
def wordNextsRow : OpenClaim := { program := "ytjamobbfafjdmaa", sum := "d6ea69605beb721071065bc3bcddad90fc373caa40f568b6c843669a75028730", func := "gimbal/gimballaw01.WordNexts", spec := "wordNexts", apart := false }
def WordNextsSaid : Prop := wordNextsRow.holds Try.pinned (OpenSpec.ofChange wordNextsSpec)

/-- ITS FALSE NEIGHBOUR: 'it returns false'. Refute it at one input. -/
def wordNextsWrong : ChangeSpec := { name := "wordNexts", fn := fun _ => fun
  | [d1, d2] => { results := [.lit (.bool false)], args := [d1, d2] }
  | _ => none }
def WordNextsWrongFalsely : Prop := wordNextsRow.holds Try.pinned (OpenSpec.ofChange wordNextsWrong)

/-- 'gimballaw01.WordBack': WHATEVER THE INPUT: true; the input reads as it did. -/
def wordBackSpec : ChangeSpec := { name := "wordBack", fn := fun _ => fun
  | [d] => { results := [.lit (.bool true)], args := [d] }
  | _ => none }
def wordBackRow : OpenClaim := { program := "ytjamobbfafjdmaa", sum := "d6ea69605beb721071065bc3bcddad90fc373caa40f568b6c843669a75028730", func := "gimbal/gimballaw01.WordBack", spec := "wordBack", apart := false }
def WordBackSaid : Prop := wordBackRow.holds Try.pinned (OpenSpec.ofChange wordBackSpec)

/-- ITS FALSE NEIGHBOUR: 'it returns false'. Refute it at one input. -/
def wordBackWrong : ChangeSpec := { name := "wordBack", fn := fun _ => fun
  | [d] => { results := [.lit (.bool false)], args := [d] }
  | _ => none }
def WordBackWrongFalsely : Prop := wordBackRow.holds Try.pinned (OpenSpec.ofChange wordBackWrong)

/-- 'gimballaw01.WordParts': WHATEVER THE INPUT: true; the input reads as it did. -/
def wordPartsSpec : ChangeSpec := { name := "wordParts", fn := fun _ => fun
  | [d] => { results := [.lit (.bool true)], args := [d] }
  | _ => none }
def wordPartsRow : OpenClaim := { program := "ytjamobbfafjdmaa", sum := "d6ea69605beb721071065bc3bcddad90fc373caa40f568b6c843669a75028730", func := "gimbal/gimballaw01.WordParts", spec := "wordParts", apart := false }
def WordPartsSaid : Prop := wordPartsRow.holds Try.pinned (OpenSpec.ofChange wordPartsSpec)

/-- ITS FALSE NEIGHBOUR: 'it returns false'. Refute it at one input. -/
def wordPartsWrong : ChangeSpec := { name := "wordParts", fn := fun _ => fun
  | [d] => { results := [.lit (.bool false)], args := [d] }
  | _ => none }
def WordPartsWrongFalsely : Prop := wordPartsRow.holds Try.pinned (OpenSpec.ofChange wordPartsWrong)

/-- 'gimballaw02.WideShifts': WHATEVER THE INPUT: true; the input reads as it did. -/
def wideShiftsSpec : ChangeSpec := { name := "wideShifts", fn := fun _ => fun
  | [d1, d2] => { results := [.lit (.bool true)], args := [d1, d2] }
  | _ => none }
def wideShiftsRow : OpenClaim := { program := "ytjamobbfafjdmaa", sum := "d6ea69605beb721071065bc3bcddad90fc373caa40f568b6c843669a75028730", func := "gimbal/gimballaw02.WideShifts", spec := "wideShifts", apart := false }
def WideShiftsSaid : Prop := wideShiftsRow.holds Try.pinned (OpenSpec.ofChange wideShiftsSpec)

/-- ITS FALSE NEIGHBOUR: 'it returns false'. Refute it at one input. -/
def wideShiftsWrong : ChangeSpec := { name := "wideShifts", fn := fun _ => fun
  | [d1, d2] => { results := [.lit (.bool false)], args := [d1, d2] }
  | _ => none }
def WideShiftsWrongFalsely : Prop := wideShiftsRow.holds Try.pinned (OpenSpec.ofChange wideShiftsWrong)

/-- 'gimballaw02.WideLaws': WHATEVER THE INPUT: true; the input reads as it did. -/
def wideLawsSpec : ChangeSpec := { name := "wideLaws", fn := fun _ => fun
  | [d1, d2, d3, d4] => { results := [.lit (.bool true)], args := [d1, d2, d3, d4] }
  | _ => none }
def wideLawsRow : OpenClaim := { program := "ytjamobbfafjdmaa", sum := "d6ea69605beb721071065bc3bcddad90fc373caa40f568b6c843669a75028730", func := "gimbal/gimballaw02.WideLaws", spec := "wideLaws", inPlace := ["math/bits.Add64"], apart := false }
def WideLawsSaid : Prop := wideLawsRow.holds Try.pinned (OpenSpec.ofChange wideLawsSpec)

/-- ITS FALSE NEIGHBOUR: 'it returns false'. Refute it at one input. -/
def wideLawsWrong : ChangeSpec := { name := "wideLaws", fn := fun _ => fun
  | [d1, d2, d3, d4] => { results := [.lit (.bool false)], args := [d1, d2, d3, d4] }
  | _ => none }
def WideLawsWrongFalsely : Prop := wideLawsRow.holds Try.pinned (OpenSpec.ofChange wideLawsWrong)

/-- 'gimballaw02.WideSums': WHATEVER THE INPUT: true; the input reads as it did. -/
def wideSumsSpec : ChangeSpec := { name := "wideSums", fn := fun _ => fun
  | [d1, d2] => { results := [.lit (.bool true)], args := [d1, d2] }
  | _ => none }
def wideSumsRow : OpenClaim := { program := "ytjamobbfafjdmaa", sum := "d6ea69605beb721071065bc3bcddad90fc373caa40f568b6c843669a75028730", func := "gimbal/gimballaw02.WideSums", spec := "wideSums", inPlace := ["math/bits.Add64", "math/bits.Sub64"], apart := false }
def WideSumsSaid : Prop := wideSumsRow.holds Try.pinned (OpenSpec.ofChange wideSumsSpec)

/-- ITS FALSE NEIGHBOUR: 'it returns false'. Refute it at one input. -/
def wideSumsWrong : ChangeSpec := { name := "wideSums", fn := fun _ => fun
  | [d1, d2] => { results := [.lit (.bool false)], args := [d1, d2] }
  | _ => none }
def WideSumsWrongFalsely : Prop := wideSumsRow.holds Try.pinned (OpenSpec.ofChange wideSumsWrong)

/-- 'gimballaw02.WideDivs': WHATEVER THE INPUT: true; the input reads as it did. -/
def wideDivsSpec : ChangeSpec := { name := "wideDivs", fn := fun _ => fun
  | [d1, d2] => { results := [.lit (.bool true)], args := [d1, d2] }
  | _ => none }
def wideDivsRow : OpenClaim := { program := "ytjamobbfafjdmaa", sum := "d6ea69605beb721071065bc3bcddad90fc373caa40f568b6c843669a75028730", func := "gimbal/gimballaw02.WideDivs", spec := "wideDivs", named := ["math/bits.divideError", "math/bits.overflowError"], apart := false }
def WideDivsSaid : Prop := wideDivsRow.holds Try.pinned (OpenSpec.ofChange wideDivsSpec)

/-- ITS FALSE NEIGHBOUR: 'it returns false'. Refute it at one input. -/
def wideDivsWrong : ChangeSpec := { name := "wideDivs", fn := fun _ => fun
  | [d1, d2] => { results := [.lit (.bool false)], args := [d1, d2] }
  | _ => none }
def WideDivsWrongFalsely : Prop := wideDivsRow.holds Try.pinned (OpenSpec.ofChange wideDivsWrong)

/- THE SECOND FORM. 'bulk': how many values and letters a reading holds, each counted each time it is reached (what is shared counts as often as it is met; a slice's spare places count too). A statement '..UptoSaid' is the law's where the arguments, and the package variables that the reading takes, are together of bulk at most 1048576: NARROWER than '..Said'. Prove '..Said' where nothing that the law and all that it calls make is longer than what came in: it says more and counts as full. Else prove '..UptoSaid'. A law counts once. -/
mutual
def uptoBulk {H : Type} : DataW H → Nat
  | .lit (.string bytes) => bytes.length + 1
  | .lit _ => 1
  | .nil => 1
  | .ptr d => uptoBulk d + 1
  | .slice elems spare => uptoBulkAll elems + uptoBulkAll spare + 1
  | .agg parts => uptoBulkAll parts + 1
  | .iface _ d => uptoBulk d + 1
  | .map entries => uptoBulkEntries entries + 1
  | .held _ => 1
def uptoBulkAll {H : Type} : List (DataW H) → Nat
  | [] => 0
  | d :: r => uptoBulk d + uptoBulkAll r
def uptoBulkEntries {H : Type} : List (Lit × DataW H) → Nat
  | [] => 0
  | x :: r => uptoBulkEntry x + uptoBulkEntries r
def uptoBulkEntry {H : Type} : Lit × DataW H → Nat
  | (.string bytes, d) => bytes.length + uptoBulk d + 1
  | (_, d) => uptoBulk d + 1
 end
def uptoSmall : (H : Type) → List (DataW H) → Bool := fun _ ds => decide (uptoBulkAll ds ≤ 1048576)
def OpenSpec.upto (s : _root_.Go.ChangeSpec) : _root_.Go.OpenSpec := { _root_.Go.OpenSpec.ofChange s with cond := some uptoSmall }

/-- 'gimballaw02.WideMuls', WHERE WHAT IT READS IS OF BULK AT MOST 1048576: true; the input reads as it did. -/
def wideMulsUptoRow : OpenClaim := { program := "ytjamobbfafjdmaa", sum := "d6ea69605beb721071065bc3bcddad90fc373caa40f568b6c843669a75028730", func := "gimbal/gimballaw02.WideMuls", spec := "wideMuls", apart := false, narrowed := true }
def WideMulsUptoSaid : Prop := wideMulsUptoRow.holds Try.pinned (OpenSpec.upto wideMulsSpec)

/-- 'gimballaw02.WideRoots', WHERE WHAT IT READS IS OF BULK AT MOST 1048576: true; the input reads as it did. -/
def wideRootsUptoRow : OpenClaim := { program := "ytjamobbfafjdmaa", sum := "d6ea69605beb721071065bc3bcddad90fc373caa40f568b6c843669a75028730", func := "gimbal/gimballaw02.WideRoots", spec := "wideRoots", apart := false, narrowed := true }
def WideRootsUptoSaid : Prop := wideRootsUptoRow.holds Try.pinned (OpenSpec.upto wideRootsSpec)

/-- 'gimballaw01.WordSigns', WHERE WHAT IT READS IS OF BULK AT MOST 1048576: true; the input reads as it did. -/
def wordSignsUptoRow : OpenClaim := { program := "ytjamobbfafjdmaa", sum := "d6ea69605beb721071065bc3bcddad90fc373caa40f568b6c843669a75028730", func := "gimbal/gimballaw01.WordSigns", spec := "wordSigns", apart := false, narrowed := true }
def WordSignsUptoSaid : Prop := wordSignsUptoRow.holds Try.pinned (OpenSpec.upto wordSignsSpec)

/-- 'gimballaw01.WordFloats', WHERE WHAT IT READS IS OF BULK AT MOST 1048576: true; the input reads as it did. -/
def wordFloatsUptoRow : OpenClaim := { program := "ytjamobbfafjdmaa", sum := "d6ea69605beb721071065bc3bcddad90fc373caa40f568b6c843669a75028730", func := "gimbal/gimballaw01.WordFloats", spec := "wordFloats", inPlace := ["math.Float64frombits", "math.Float64bits"], apart := false, narrowed := true }
def WordFloatsUptoSaid : Prop := wordFloatsUptoRow.holds Try.pinned (OpenSpec.upto wordFloatsSpec)

/-- 'gimballaw01.WordMakes', WHERE WHAT IT READS IS OF BULK AT MOST 1048576: true; the input reads as it did. -/
def wordMakesUptoRow : OpenClaim := { program := "ytjamobbfafjdmaa", sum := "d6ea69605beb721071065bc3bcddad90fc373caa40f568b6c843669a75028730", func := "gimbal/gimballaw01.WordMakes", spec := "wordMakes", apart := false, narrowed := true }
def WordMakesUptoSaid : Prop := wordMakesUptoRow.holds Try.pinned (OpenSpec.upto wordMakesSpec)

/-- 'gimballaw01.WordNexts', WHERE WHAT IT READS IS OF BULK AT MOST 1048576: true; the input reads as it did. -/
def wordNextsUptoRow : OpenClaim := { program := "ytjamobbfafjdmaa", sum := "d6ea69605beb721071065bc3bcddad90fc373caa40f568b6c843669a75028730", func := "gimbal/gimballaw01.WordNexts", spec := "wordNexts", apart := false, narrowed := true }
def WordNextsUptoSaid : Prop := wordNextsUptoRow.holds Try.pinned (OpenSpec.upto wordNextsSpec)

/-- 'gimballaw01.WordBack', WHERE WHAT IT READS IS OF BULK AT MOST 1048576: true; the input reads as it did. -/
def wordBackUptoRow : OpenClaim := { program := "ytjamobbfafjdmaa", sum := "d6ea69605beb721071065bc3bcddad90fc373caa40f568b6c843669a75028730", func := "gimbal/gimballaw01.WordBack", spec := "wordBack", apart := false, narrowed := true }
def WordBackUptoSaid : Prop := wordBackUptoRow.holds Try.pinned (OpenSpec.upto wordBackSpec)

/-- 'gimballaw01.WordParts', WHERE WHAT IT READS IS OF BULK AT MOST 1048576: true; the input reads as it did. -/
def wordPartsUptoRow : OpenClaim := { program := "ytjamobbfafjdmaa", sum := "d6ea69605beb721071065bc3bcddad90fc373caa40f568b6c843669a75028730", func := "gimbal/gimballaw01.WordParts", spec := "wordParts", apart := false, narrowed := true }
def WordPartsUptoSaid : Prop := wordPartsUptoRow.holds Try.pinned (OpenSpec.upto wordPartsSpec)

/-- 'gimballaw02.WideShifts', WHERE WHAT IT READS IS OF BULK AT MOST 1048576: true; the input reads as it did. -/
def wideShiftsUptoRow : OpenClaim := { program := "ytjamobbfafjdmaa", sum := "d6ea69605beb721071065bc3bcddad90fc373caa40f568b6c843669a75028730", func := "gimbal/gimballaw02.WideShifts", spec := "wideShifts", apart := false, narrowed := true }
def WideShiftsUptoSaid : Prop := wideShiftsUptoRow.holds Try.pinned (OpenSpec.upto wideShiftsSpec)

/-- 'gimballaw02.WideLaws', WHERE WHAT IT READS IS OF BULK AT MOST 1048576: true; the input reads as it did. -/
def wideLawsUptoRow : OpenClaim := { program := "ytjamobbfafjdmaa", sum := "d6ea69605beb721071065bc3bcddad90fc373caa40f568b6c843669a75028730", func := "gimbal/gimballaw02.WideLaws", spec := "wideLaws", inPlace := ["math/bits.Add64"], apart := false, narrowed := true }
def WideLawsUptoSaid : Prop := wideLawsUptoRow.holds Try.pinned (OpenSpec.upto wideLawsSpec)

/-- 'gimballaw02.WideSums', WHERE WHAT IT READS IS OF BULK AT MOST 1048576: true; the input reads as it did. -/
def wideSumsUptoRow : OpenClaim := { program := "ytjamobbfafjdmaa", sum := "d6ea69605beb721071065bc3bcddad90fc373caa40f568b6c843669a75028730", func := "gimbal/gimballaw02.WideSums", spec := "wideSums", inPlace := ["math/bits.Add64", "math/bits.Sub64"], apart := false, narrowed := true }
def WideSumsUptoSaid : Prop := wideSumsUptoRow.holds Try.pinned (OpenSpec.upto wideSumsSpec)

/-- 'gimballaw02.WideDivs', WHERE WHAT IT READS IS OF BULK AT MOST 1048576: true; the input reads as it did. -/
def wideDivsUptoRow : OpenClaim := { program := "ytjamobbfafjdmaa", sum := "d6ea69605beb721071065bc3bcddad90fc373caa40f568b6c843669a75028730", func := "gimbal/gimballaw02.WideDivs", spec := "wideDivs", named := ["math/bits.divideError", "math/bits.overflowError"], apart := false, narrowed := true }
def WideDivsUptoSaid : Prop := wideDivsUptoRow.holds Try.pinned (OpenSpec.upto wideDivsSpec)

end Rows
end Go.Proofs.Ytjamobbfafjdmaa
