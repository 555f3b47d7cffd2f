/-
  No cell of these rows narrows 'for every input' (looked for: loops, veiled, ifaces, maps, wideKeys, modest, calm, conditions, laid).
  DERIVED. THE GIVEN ROWS OF THIS SEAT. 8 by the template 'for every input the law returns true; each argument reads behind the call as it read before'; 0 by the template 'total and deterministic' (their statements: YtpojamikfcmnoaaTotals.lean).
  GIVEN WITH THE SEED: the statements are not yours to turn. If you find one false, say at which input.
  Laid BY PROGRAM, IN A SANDBOX (cutbox-rows.mjs): the forced cells as the released guide's own fill.sh prints them over the translation 385733b2ee59b8f3… (all of the seat's roots in one cut). By AI agents, Wed Nov 11 2026. No macro, syntax, notation, axiom, sorry.
-/
import Derived.Test.YtpojamikfcmnoaaChecked
import GoSem.Claim
import GoSem.ClaimJoined
import GoSem.ClaimMapViews
import Derived.JoinedTies
import Derived.KernelRfl
namespace Go.Proofs.Ytpojamikfcmnoaa
/- THE CELL 'sum', in the pinned program and in every row, IS THE sha256 OF THE DUMP (.gsa) THAT YtpojamikfcmnoaaProg.lean LOADS. Nothing in Lean hashes anything: it is a label: what it is worth is what the hold of that sum in a sandbox is worth. -/
noncomputable def Try.pinned : Pinned := { name := "ytpojamikfcmnoaa", sum := "385733b2ee59b8f3b5b9c7ae5bc5bfb11178e90fd9fd453fa9402432f1419403", checked := Try.checked }
namespace Rows
def none {H : Type} : Left H := { results := [], args := [] }

/-- 'agatelaw06.GaussReckons': WHATEVER THE INPUT: true; the input reads as it did. -/
def gaussReckonsSpec : ChangeSpec := { name := "gaussReckons", fn := fun _ => fun
  | [d1, d2, d3, d4] => { results := [.lit (.bool true)], args := [d1, d2, d3, d4] }
  | _ => none }
def gaussReckonsRow : OpenClaim := { program := "ytpojamikfcmnoaa", sum := "385733b2ee59b8f3b5b9c7ae5bc5bfb11178e90fd9fd453fa9402432f1419403", func := "agate/agatelaw06.GaussReckons", spec := "gaussReckons", inPlace := ["math.archTrunc", "math.Float64bits", "math.Float64frombits", "math.Float32bits"], apart := false }
def GaussReckonsSaid : Prop := gaussReckonsRow.holds Try.pinned (OpenSpec.ofChange gaussReckonsSpec)

/-- ITS FALSE NEIGHBOUR: 'it returns false'. Refute it at one input. -/
def gaussReckonsWrong : ChangeSpec := { name := "gaussReckons", fn := fun _ => fun
  | [d1, d2, d3, d4] => { results := [.lit (.bool false)], args := [d1, d2, d3, d4] }
  | _ => none }
def GaussReckonsWrongFalsely : Prop := gaussReckonsRow.holds Try.pinned (OpenSpec.ofChange gaussReckonsWrong)

/-- 'agatelaw05.ShapeTurns': WHATEVER THE INPUT: true; the input reads as it did. -/
def shapeTurnsSpec : ChangeSpec := { name := "shapeTurns", fn := fun _ => fun
  | [d1, d2, d3] => { results := [.lit (.bool true)], args := [d1, d2, d3] }
  | _ => none }
def shapeTurnsRow : OpenClaim := { program := "ytpojamikfcmnoaa", sum := "385733b2ee59b8f3b5b9c7ae5bc5bfb11178e90fd9fd453fa9402432f1419403", func := "agate/agatelaw05.ShapeTurns", spec := "shapeTurns", apart := false }
def ShapeTurnsSaid : Prop := shapeTurnsRow.holds Try.pinned (OpenSpec.ofChange shapeTurnsSpec)

/-- ITS FALSE NEIGHBOUR: 'it returns false'. Refute it at one input. -/
def shapeTurnsWrong : ChangeSpec := { name := "shapeTurns", fn := fun _ => fun
  | [d1, d2, d3] => { results := [.lit (.bool false)], args := [d1, d2, d3] }
  | _ => none }
def ShapeTurnsWrongFalsely : Prop := shapeTurnsRow.holds Try.pinned (OpenSpec.ofChange shapeTurnsWrong)

/-- 'agatelaw06.GaussReads': WHATEVER THE INPUT: true; the input reads as it did. -/
def gaussReadsSpec : ChangeSpec := { name := "gaussReads", fn := fun _ => fun
  | [d1, d2, d3] => { results := [.lit (.bool true)], args := [d1, d2, d3] }
  | _ => none }
def gaussReadsRow : OpenClaim := { program := "ytpojamikfcmnoaa", sum := "385733b2ee59b8f3b5b9c7ae5bc5bfb11178e90fd9fd453fa9402432f1419403", func := "agate/agatelaw06.GaussReads", spec := "gaussReads", inPlace := ["math.archTrunc", "math.Float64bits", "math.Float64frombits", "math.Float32frombits", "math.Float32bits"], apart := false }
def GaussReadsSaid : Prop := gaussReadsRow.holds Try.pinned (OpenSpec.ofChange gaussReadsSpec)

/-- ITS FALSE NEIGHBOUR: 'it returns false'. Refute it at one input. -/
def gaussReadsWrong : ChangeSpec := { name := "gaussReads", fn := fun _ => fun
  | [d1, d2, d3] => { results := [.lit (.bool false)], args := [d1, d2, d3] }
  | _ => none }
def GaussReadsWrongFalsely : Prop := gaussReadsRow.holds Try.pinned (OpenSpec.ofChange gaussReadsWrong)

/-- 'agatelaw06.GaussBack': WHATEVER THE INPUT: true; the input reads as it did. -/
def gaussBackSpec : ChangeSpec := { name := "gaussBack", fn := fun _ => fun
  | [d1, d2, d3, d4] => { results := [.lit (.bool true)], args := [d1, d2, d3, d4] }
  | _ => none }
def gaussBackRow : OpenClaim := { program := "ytpojamikfcmnoaa", sum := "385733b2ee59b8f3b5b9c7ae5bc5bfb11178e90fd9fd453fa9402432f1419403", func := "agate/agatelaw06.GaussBack", spec := "gaussBack", inPlace := ["math.archTrunc", "math.Float64bits", "math.Float64frombits", "math.Float32bits", "math.Float32frombits"], apart := false }
def GaussBackSaid : Prop := gaussBackRow.holds Try.pinned (OpenSpec.ofChange gaussBackSpec)

/-- ITS FALSE NEIGHBOUR: 'it returns false'. Refute it at one input. -/
def gaussBackWrong : ChangeSpec := { name := "gaussBack", fn := fun _ => fun
  | [d1, d2, d3, d4] => { results := [.lit (.bool false)], args := [d1, d2, d3, d4] }
  | _ => none }
def GaussBackWrongFalsely : Prop := gaussBackRow.holds Try.pinned (OpenSpec.ofChange gaussBackWrong)

/-- 'agatelaw05.ShapeTells': WHATEVER THE INPUT: true; the input reads as it did. -/
def shapeTellsSpec : ChangeSpec := { name := "shapeTells", fn := fun _ => fun
  | [d1, d2] => { results := [.lit (.bool true)], args := [d1, d2] }
  | _ => none }
def shapeTellsRow : OpenClaim := { program := "ytpojamikfcmnoaa", sum := "385733b2ee59b8f3b5b9c7ae5bc5bfb11178e90fd9fd453fa9402432f1419403", func := "agate/agatelaw05.ShapeTells", spec := "shapeTells", apart := false }
def ShapeTellsSaid : Prop := shapeTellsRow.holds Try.pinned (OpenSpec.ofChange shapeTellsSpec)

/-- ITS FALSE NEIGHBOUR: 'it returns false'. Refute it at one input. -/
def shapeTellsWrong : ChangeSpec := { name := "shapeTells", fn := fun _ => fun
  | [d1, d2] => { results := [.lit (.bool false)], args := [d1, d2] }
  | _ => none }
def ShapeTellsWrongFalsely : Prop := shapeTellsRow.holds Try.pinned (OpenSpec.ofChange shapeTellsWrong)

/-- 'agatelaw05.ShapePlaces': WHATEVER THE INPUT: true; the input reads as it did. -/
def shapePlacesSpec : ChangeSpec := { name := "shapePlaces", fn := fun _ => fun
  | [d1, d2] => { results := [.lit (.bool true)], args := [d1, d2] }
  | _ => none }
def shapePlacesRow : OpenClaim := { program := "ytpojamikfcmnoaa", sum := "385733b2ee59b8f3b5b9c7ae5bc5bfb11178e90fd9fd453fa9402432f1419403", func := "agate/agatelaw05.ShapePlaces", spec := "shapePlaces", recurses := true, apart := false }
def ShapePlacesSaid : Prop := shapePlacesRow.holds Try.pinned (OpenSpec.ofChange shapePlacesSpec)

/-- ITS FALSE NEIGHBOUR: 'it returns false'. Refute it at one input. -/
def shapePlacesWrong : ChangeSpec := { name := "shapePlaces", fn := fun _ => fun
  | [d1, d2] => { results := [.lit (.bool false)], args := [d1, d2] }
  | _ => none }
def ShapePlacesWrongFalsely : Prop := shapePlacesRow.holds Try.pinned (OpenSpec.ofChange shapePlacesWrong)

/-- 'agatelaw07.TensorTells': WHATEVER THE INPUT: true; the input reads as it did. -/
def tensorTellsSpec : ChangeSpec := { name := "tensorTells", fn := fun _ => fun
  | [d1, d2, d3] => { results := [.lit (.bool true)], args := [d1, d2, d3] }
  | _ => none }
def tensorTellsRow : OpenClaim := { program := "ytpojamikfcmnoaa", sum := "385733b2ee59b8f3b5b9c7ae5bc5bfb11178e90fd9fd453fa9402432f1419403", func := "agate/agatelaw07.TensorTells", spec := "tensorTells", inPlace := ["internal/abi.NoEscape", "math.archTrunc", "math.Float64bits", "math.Float64frombits", "math.Float32frombits"], unfollowed := true, recurses := true, apart := false }
def TensorTellsSaid : Prop := tensorTellsRow.holds Try.pinned (OpenSpec.ofChange tensorTellsSpec)

/-- ITS FALSE NEIGHBOUR: 'it returns false'. Refute it at one input. -/
def tensorTellsWrong : ChangeSpec := { name := "tensorTells", fn := fun _ => fun
  | [d1, d2, d3] => { results := [.lit (.bool false)], args := [d1, d2, d3] }
  | _ => none }
def TensorTellsWrongFalsely : Prop := tensorTellsRow.holds Try.pinned (OpenSpec.ofChange tensorTellsWrong)

/-- 'agatelaw07.TensorMakes': WHATEVER THE INPUT: true; the input reads as it did. -/
def tensorMakesSpec : ChangeSpec := { name := "tensorMakes", fn := fun _ => fun
  | [d1, d2, d3, d4] => { results := [.lit (.bool true)], args := [d1, d2, d3, d4] }
  | _ => none }
def tensorMakesRow : OpenClaim := { program := "ytpojamikfcmnoaa", sum := "385733b2ee59b8f3b5b9c7ae5bc5bfb11178e90fd9fd453fa9402432f1419403", func := "agate/agatelaw07.TensorMakes", spec := "tensorMakes", inPlace := ["internal/abi.NoEscape", "math.archTrunc", "math.Float64bits", "math.Float64frombits", "math.Float32frombits", "math.Float32bits"], unfollowed := true, recurses := true, apart := false }
def TensorMakesSaid : Prop := tensorMakesRow.holds Try.pinned (OpenSpec.ofChange tensorMakesSpec)

/-- ITS FALSE NEIGHBOUR: 'it returns false'. Refute it at one input. -/
def tensorMakesWrong : ChangeSpec := { name := "tensorMakes", fn := fun _ => fun
  | [d1, d2, d3, d4] => { results := [.lit (.bool false)], args := [d1, d2, d3, d4] }
  | _ => none }
def TensorMakesWrongFalsely : Prop := tensorMakesRow.holds Try.pinned (OpenSpec.ofChange tensorMakesWrong)

/- THE SECOND FORM. 'bulk': how many values and letters a reading holds, each counted each time it is reached (what is shared counts as often as it is met; a slice's spare places count too). A statement '..UptoSaid' is the law's where the arguments, and the package variables that the reading takes, are together of bulk at most 1048576: NARROWER than '..Said'. Prove '..Said' where nothing that the law and all that it calls make is longer than what came in: it says more and counts as full. Else prove '..UptoSaid'. A law counts once. -/
mutual
def uptoBulk {H : Type} : DataW H → Nat
  | .lit (.string bytes) => bytes.length + 1
  | .lit _ => 1
  | .nil => 1
  | .ptr d => uptoBulk d + 1
  | .slice elems spare => uptoBulkAll elems + uptoBulkAll spare + 1
  | .agg parts => uptoBulkAll parts + 1
  | .iface _ d => uptoBulk d + 1
  | .map entries => uptoBulkEntries entries + 1
  | .held _ => 1
def uptoBulkAll {H : Type} : List (DataW H) → Nat
  | [] => 0
  | d :: r => uptoBulk d + uptoBulkAll r
def uptoBulkEntries {H : Type} : List (Lit × DataW H) → Nat
  | [] => 0
  | x :: r => uptoBulkEntry x + uptoBulkEntries r
def uptoBulkEntry {H : Type} : Lit × DataW H → Nat
  | (.string bytes, d) => bytes.length + uptoBulk d + 1
  | (_, d) => uptoBulk d + 1
 end
def uptoSmall : (H : Type) → List (DataW H) → Bool := fun _ ds => decide (uptoBulkAll ds ≤ 1048576)
def OpenSpec.upto (s : _root_.Go.ChangeSpec) : _root_.Go.OpenSpec := { _root_.Go.OpenSpec.ofChange s with cond := some uptoSmall }

/-- 'agatelaw06.GaussReckons', WHERE WHAT IT READS IS OF BULK AT MOST 1048576: true; the input reads as it did. -/
def gaussReckonsUptoRow : OpenClaim := { program := "ytpojamikfcmnoaa", sum := "385733b2ee59b8f3b5b9c7ae5bc5bfb11178e90fd9fd453fa9402432f1419403", func := "agate/agatelaw06.GaussReckons", spec := "gaussReckons", inPlace := ["math.archTrunc", "math.Float64bits", "math.Float64frombits", "math.Float32bits"], apart := false, narrowed := true }
def GaussReckonsUptoSaid : Prop := gaussReckonsUptoRow.holds Try.pinned (OpenSpec.upto gaussReckonsSpec)

/-- 'agatelaw05.ShapeTurns', WHERE WHAT IT READS IS OF BULK AT MOST 1048576: true; the input reads as it did. -/
def shapeTurnsUptoRow : OpenClaim := { program := "ytpojamikfcmnoaa", sum := "385733b2ee59b8f3b5b9c7ae5bc5bfb11178e90fd9fd453fa9402432f1419403", func := "agate/agatelaw05.ShapeTurns", spec := "shapeTurns", apart := false, narrowed := true }
def ShapeTurnsUptoSaid : Prop := shapeTurnsUptoRow.holds Try.pinned (OpenSpec.upto shapeTurnsSpec)

/-- 'agatelaw06.GaussReads', WHERE WHAT IT READS IS OF BULK AT MOST 1048576: true; the input reads as it did. -/
def gaussReadsUptoRow : OpenClaim := { program := "ytpojamikfcmnoaa", sum := "385733b2ee59b8f3b5b9c7ae5bc5bfb11178e90fd9fd453fa9402432f1419403", func := "agate/agatelaw06.GaussReads", spec := "gaussReads", inPlace := ["math.archTrunc", "math.Float64bits", "math.Float64frombits", "math.Float32frombits", "math.Float32bits"], apart := false, narrowed := true }
def GaussReadsUptoSaid : Prop := gaussReadsUptoRow.holds Try.pinned (OpenSpec.upto gaussReadsSpec)

/-- 'agatelaw06.GaussBack', WHERE WHAT IT READS IS OF BULK AT MOST 1048576: true; the input reads as it did. -/
def gaussBackUptoRow : OpenClaim := { program := "ytpojamikfcmnoaa", sum := "385733b2ee59b8f3b5b9c7ae5bc5bfb11178e90fd9fd453fa9402432f1419403", func := "agate/agatelaw06.GaussBack", spec := "gaussBack", inPlace := ["math.archTrunc", "math.Float64bits", "math.Float64frombits", "math.Float32bits", "math.Float32frombits"], apart := false, narrowed := true }
def GaussBackUptoSaid : Prop := gaussBackUptoRow.holds Try.pinned (OpenSpec.upto gaussBackSpec)

/-- 'agatelaw05.ShapeTells', WHERE WHAT IT READS IS OF BULK AT MOST 1048576: true; the input reads as it did. -/
def shapeTellsUptoRow : OpenClaim := { program := "ytpojamikfcmnoaa", sum := "385733b2ee59b8f3b5b9c7ae5bc5bfb11178e90fd9fd453fa9402432f1419403", func := "agate/agatelaw05.ShapeTells", spec := "shapeTells", apart := false, narrowed := true }
def ShapeTellsUptoSaid : Prop := shapeTellsUptoRow.holds Try.pinned (OpenSpec.upto shapeTellsSpec)

/-- 'agatelaw05.ShapePlaces', WHERE WHAT IT READS IS OF BULK AT MOST 1048576: true; the input reads as it did. -/
def shapePlacesUptoRow : OpenClaim := { program := "ytpojamikfcmnoaa", sum := "385733b2ee59b8f3b5b9c7ae5bc5bfb11178e90fd9fd453fa9402432f1419403", func := "agate/agatelaw05.ShapePlaces", spec := "shapePlaces", recurses := true, apart := false, narrowed := true }
def ShapePlacesUptoSaid : Prop := shapePlacesUptoRow.holds Try.pinned (OpenSpec.upto shapePlacesSpec)

/-- 'agatelaw07.TensorTells', WHERE WHAT IT READS IS OF BULK AT MOST 1048576: true; the input reads as it did. -/
def tensorTellsUptoRow : OpenClaim := { program := "ytpojamikfcmnoaa", sum := "385733b2ee59b8f3b5b9c7ae5bc5bfb11178e90fd9fd453fa9402432f1419403", func := "agate/agatelaw07.TensorTells", spec := "tensorTells", inPlace := ["internal/abi.NoEscape", "math.archTrunc", "math.Float64bits", "math.Float64frombits", "math.Float32frombits"], unfollowed := true, recurses := true, apart := false, narrowed := true }
def TensorTellsUptoSaid : Prop := tensorTellsUptoRow.holds Try.pinned (OpenSpec.upto tensorTellsSpec)

/-- 'agatelaw07.TensorMakes', WHERE WHAT IT READS IS OF BULK AT MOST 1048576: true; the input reads as it did. -/
def tensorMakesUptoRow : OpenClaim := { program := "ytpojamikfcmnoaa", sum := "385733b2ee59b8f3b5b9c7ae5bc5bfb11178e90fd9fd453fa9402432f1419403", func := "agate/agatelaw07.TensorMakes", spec := "tensorMakes", inPlace := ["internal/abi.NoEscape", "math.archTrunc", "math.Float64bits", "math.Float64frombits", "math.Float32frombits", "math.Float32bits"], unfollowed := true, recurses := true, apart := false, narrowed := true }
def TensorMakesUptoSaid : Prop := tensorMakesUptoRow.holds Try.pinned (OpenSpec.upto tensorMakesSpec)

end Rows
end Go.Proofs.Ytpojamikfcmnoaa
