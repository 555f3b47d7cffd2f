/-
  DERIVED. GIVEN WITH THE SEED: THE CARDS: each row of YtgmggompdidcoaaGreatDoorRows.lean that lists a variable, with what it lists TIED to the program's text (the seventh form; the later family's looks); each row that meets fmt, with fmt's text TOLD by the authors' own Lean function (tested against real Go, not proved from fmt's source: count such statements apart). THE CARD IS WHAT COUNTS. Prove the row's statement (the work); the ties are given (YtgmggompdidcoaaGreatDoorTie.lean); close each card by the builder's one call (the guide's Derived/Test/ToyasCard.lean, 'card_holds'). Laid BY PROGRAM, IN A SANDBOX (cutbox-door.mjs). By AI agents, Wed Nov 11 2026. No macro, syntax, notation, axiom, sorry.
-/
import Derived.Test.YtgmggompdidcoaaGreatDoorRows
import GoSem.ClaimSeven
namespace Go.Proofs.YtgmggompdidcoaaGreatDoor
namespace Rows

/-- THE TIED CARD OF 'agatelaw09.PbtensorReads'. -/
def pbtensorReadsCard : Claim7 := { stood := { row := pbtensorReadsRow, standIns := [], harness := (true, "5bc75c7fa638653fce5e6d46f67713b28c8ec32f7b0a5e77590e959c7a015b8f"), looks := false }, kinds := [], alts := [], laidByText := true, laidKinds := [.data, .pinned], laidTests := true, laidLooks := .later }
def PbtensorReadsCardSaid : Prop := Claim7.holds Tryz.pinned (.plain (OpenSpec.ofChange pbtensorReadsSpec)) pbtensorReadsCard

/-- THE TIED CARD OF 'agatelaw09.PbtensorWrites'. -/
def pbtensorWritesCard : Claim7 := { stood := { row := pbtensorWritesRow, standIns := [], harness := (true, "5bc75c7fa638653fce5e6d46f67713b28c8ec32f7b0a5e77590e959c7a015b8f"), looks := false }, kinds := [], alts := [], laidByText := true, laidKinds := [.data, .pinned], laidTests := true, laidLooks := .later }
def PbtensorWritesCardSaid : Prop := Claim7.holds Tryz.pinned (.plain (OpenSpec.ofChange pbtensorWritesSpec)) pbtensorWritesCard

/-- THE SECOND FORM's CARD OF 'agatelaw09.PbtensorReads'. -/
def pbtensorReadsUptoCard : Claim7 := { stood := { row := pbtensorReadsUptoRow, standIns := [], harness := (true, "5bc75c7fa638653fce5e6d46f67713b28c8ec32f7b0a5e77590e959c7a015b8f"), looks := false }, kinds := [], alts := [], laidByText := true, laidKinds := [.data, .pinned], laidTests := true, laidLooks := .later }
def PbtensorReadsUptoCardSaid : Prop := Claim7.holds Tryz.pinned (.plain (OpenSpec.upto pbtensorReadsSpec)) pbtensorReadsUptoCard

/-- THE SECOND FORM's CARD OF 'agatelaw09.PbtensorWrites'. -/
def pbtensorWritesUptoCard : Claim7 := { stood := { row := pbtensorWritesUptoRow, standIns := [], harness := (true, "5bc75c7fa638653fce5e6d46f67713b28c8ec32f7b0a5e77590e959c7a015b8f"), looks := false }, kinds := [], alts := [], laidByText := true, laidKinds := [.data, .pinned], laidTests := true, laidLooks := .later }
def PbtensorWritesUptoCardSaid : Prop := Claim7.holds Tryz.pinned (.plain (OpenSpec.upto pbtensorWritesSpec)) pbtensorWritesUptoCard
end Rows
end Go.Proofs.YtgmggompdidcoaaGreatDoor
