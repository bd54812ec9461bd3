/-
  DERIVED. GIVEN WITH THE SEED: THE CARDS: each row of YtoidfnknckfjhaaGreatDoorRows.lean that lists a variable, with what it lists TIED to the program's text (the seventh form; the later family's looks); each row that meets fmt, with fmt's text TOLD by the authors' own Lean function (tested against real Go, not proved from fmt's source: count such statements apart). THE CARD IS WHAT COUNTS. Prove the row's statement (the work); the ties are given (YtoidfnknckfjhaaGreatDoorTie.lean); close each card by the builder's one call (the guide's Derived/Test/ToyasCard.lean, 'card_holds'). Laid BY PROGRAM, IN A SANDBOX (cutbox-door.mjs). By AI agents, Wed Nov 11 2026. No macro, syntax, notation, axiom, sorry.
-/
import Derived.Test.YtoidfnknckfjhaaGreatDoorRows
import GoSem.ClaimSeven
namespace Go.Proofs.YtoidfnknckfjhaaGreatDoor
namespace Rows

/-- THE TIED CARD OF 'fleuronlaw10.TableMany'. -/
def tableManyCard : Claim7 := { stood := { row := tableManyRow, standIns := [], harness := (true, "e7fb33d651337655cd0915450a926af1ee2f3aef7637af5cc2709671e917f7a7"), looks := true }, kinds := [], alts := [], laidByText := true, laidKinds := [.data, .data, .pinned], laidTests := true, laidLooks := .later }
def TableManyCardSaid : Prop := Claim7.holds Tryz.pinned (.plain (OpenSpec.ofChange tableManySpec)) tableManyCard

/-- THE SECOND FORM's CARD OF 'fleuronlaw10.TableMany'. -/
def tableManyUptoCard : Claim7 := { stood := { row := tableManyUptoRow, standIns := [], harness := (true, "e7fb33d651337655cd0915450a926af1ee2f3aef7637af5cc2709671e917f7a7"), looks := true }, kinds := [], alts := [], laidByText := true, laidKinds := [.data, .data, .pinned], laidTests := true, laidLooks := .later }
def TableManyUptoCardSaid : Prop := Claim7.holds Tryz.pinned (.plain (OpenSpec.upto tableManySpec)) tableManyUptoCard
end Rows
end Go.Proofs.YtoidfnknckfjhaaGreatDoor
