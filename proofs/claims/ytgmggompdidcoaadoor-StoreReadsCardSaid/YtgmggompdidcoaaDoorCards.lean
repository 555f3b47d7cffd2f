/-
  DERIVED. GIVEN WITH THE SEED: THE CARDS: each row of YtgmggompdidcoaaDoorRows.lean that lists a variable, with what it lists TIED to the program's text (the seventh form; the later family's looks); each row that meets fmt, with fmt's text TOLD by the authors' own Lean function (tested against real Go, not proved from fmt's source: count such statements apart). THE CARD IS WHAT COUNTS. Prove the row's statement (the work); the ties are given (YtgmggompdidcoaaDoorTie.lean); close each card by the builder's one call (the guide's Derived/Test/ToyasCard.lean, 'card_holds'). Laid BY PROGRAM, IN A SANDBOX (cutbox-door.mjs). By AI agents, Wed Nov 11 2026. No macro, syntax, notation, axiom, sorry.
-/
import Derived.Test.YtgmggompdidcoaaDoorRows
import GoSem.ClaimSeven
namespace Go.Proofs.YtgmggompdidcoaaDoor
namespace Rows

/-- THE TIED CARD OF 'agatelaw08.StoreReads'. -/
def storeReadsCard : Claim7 := { stood := { row := storeReadsRow, standIns := [], harness := (true, "5ce616258f7e7bff3002435858334d67b401135ec64ec61ecdd8c494833b7e43"), looks := false }, kinds := [], alts := [], laidByText := true, laidKinds := [.data, .pinned], laidTests := true, laidLooks := .later }
def StoreReadsCardSaid : Prop := Claim7.holds Tryd.pinned (.plain (OpenSpec.ofChange storeReadsSpec)) storeReadsCard

/-- THE SECOND FORM's CARD OF 'agatelaw08.StoreReads'. -/
def storeReadsUptoCard : Claim7 := { stood := { row := storeReadsUptoRow, standIns := [], harness := (true, "5ce616258f7e7bff3002435858334d67b401135ec64ec61ecdd8c494833b7e43"), looks := false }, kinds := [], alts := [], laidByText := true, laidKinds := [.data, .pinned], laidTests := true, laidLooks := .later }
def StoreReadsUptoCardSaid : Prop := Claim7.holds Tryd.pinned (.plain (OpenSpec.upto storeReadsSpec)) storeReadsUptoCard
end Rows
end Go.Proofs.YtgmggompdidcoaaDoor
