/-
  DERIVED. GIVEN WITH THE SEED: THE CARDS: each row of YtjgklacbelggdaaGreatDoorRows.lean that lists a variable, with what it lists TIED to the program's text (the seventh form; the later family's looks); each row that meets fmt, with fmt's text TOLD by the authors' own Lean function (tested against real Go, not proved from fmt's source: count such statements apart). THE CARD IS WHAT COUNTS. Prove the row's statement (the work); the ties are given (YtjgklacbelggdaaGreatDoorTie.lean); close each card by the builder's one call (the guide's Derived/Test/ToyasCard.lean, 'card_holds'). Laid BY PROGRAM, IN A SANDBOX (cutbox-door.mjs). By AI agents, Wed Nov 11 2026. No macro, syntax, notation, axiom, sorry.
-/
import Derived.Test.YtjgklacbelggdaaGreatDoorRows
import GoSem.ClaimSeven
namespace Go.Proofs.YtjgklacbelggdaaGreatDoor
namespace Rows

/-- THE TIED CARD OF 'fleuronlaw25.CodecPacks'. -/
def codecPacksCard : Claim7 := { stood := { row := codecPacksRow, standIns := [], harness := (true, "be2f70e5ba02817bb7a41d04b17d17fe1f92fd59720559570bf61ed5af330ceb"), looks := true }, kinds := [], alts := [], laidByText := true, laidKinds := [.data, .data, .pinned], laidTests := true, laidLooks := .later }
def CodecPacksCardSaid : Prop := Claim7.holds Tryz.pinned (.plain (OpenSpec.ofChange codecPacksSpec)) codecPacksCard

/-- THE TIED CARD OF 'fleuronlaw25.CodecUnpacks'. -/
def codecUnpacksCard : Claim7 := { stood := { row := codecUnpacksRow, standIns := [], harness := (true, "be2f70e5ba02817bb7a41d04b17d17fe1f92fd59720559570bf61ed5af330ceb"), looks := true }, kinds := [], alts := [], laidByText := true, laidKinds := [.data, .data, .pinned], laidTests := true, laidLooks := .later }
def CodecUnpacksCardSaid : Prop := Claim7.holds Tryz.pinned (.plain (OpenSpec.ofChange codecUnpacksSpec)) codecUnpacksCard

/-- THE TIED CARD OF 'fleuronlaw25.CodecBack'. -/
def codecBackCard : Claim7 := { stood := { row := codecBackRow, standIns := [], harness := (true, "be2f70e5ba02817bb7a41d04b17d17fe1f92fd59720559570bf61ed5af330ceb"), looks := true }, kinds := [], alts := [], laidByText := true, laidKinds := [.data, .data, .pinned], laidTests := true, laidLooks := .later }
def CodecBackCardSaid : Prop := Claim7.holds Tryz.pinned (.plain (OpenSpec.ofChange codecBackSpec)) codecBackCard

/-- THE TIED CARD OF 'fleuronlaw25.CodecOnly'. -/
def codecOnlyCard : Claim7 := { stood := { row := codecOnlyRow, standIns := [], harness := (true, "be2f70e5ba02817bb7a41d04b17d17fe1f92fd59720559570bf61ed5af330ceb"), looks := true }, kinds := [], alts := [], laidByText := true, laidKinds := [.data, .data, .pinned], laidTests := true, laidLooks := .later }
def CodecOnlyCardSaid : Prop := Claim7.holds Tryz.pinned (.plain (OpenSpec.ofChange codecOnlySpec)) codecOnlyCard

/-- THE TIED CARD OF 'fleuronlaw25.CodecFew'. -/
def codecFewCard : Claim7 := { stood := { row := codecFewRow, standIns := [], harness := (true, "be2f70e5ba02817bb7a41d04b17d17fe1f92fd59720559570bf61ed5af330ceb"), looks := true }, kinds := [], alts := [], laidByText := true, laidKinds := [.data, .data, .pinned], laidTests := true, laidLooks := .later }
def CodecFewCardSaid : Prop := Claim7.holds Tryz.pinned (.plain (OpenSpec.ofChange codecFewSpec)) codecFewCard

/-- THE TIED CARD OF 'fleuronlaw25.CodecLong'. -/
def codecLongCard : Claim7 := { stood := { row := codecLongRow, standIns := [], harness := (true, "be2f70e5ba02817bb7a41d04b17d17fe1f92fd59720559570bf61ed5af330ceb"), looks := true }, kinds := [], alts := [], laidByText := true, laidKinds := [.data, .data, .pinned], laidTests := true, laidLooks := .later }
def CodecLongCardSaid : Prop := Claim7.holds Tryz.pinned (.plain (OpenSpec.ofChange codecLongSpec)) codecLongCard

/-- THE SECOND FORM's CARD OF 'fleuronlaw25.CodecPacks'. -/
def codecPacksUptoCard : Claim7 := { stood := { row := codecPacksUptoRow, standIns := [], harness := (true, "be2f70e5ba02817bb7a41d04b17d17fe1f92fd59720559570bf61ed5af330ceb"), looks := true }, kinds := [], alts := [], laidByText := true, laidKinds := [.data, .data, .pinned], laidTests := true, laidLooks := .later }
def CodecPacksUptoCardSaid : Prop := Claim7.holds Tryz.pinned (.plain (OpenSpec.upto codecPacksSpec)) codecPacksUptoCard

/-- THE SECOND FORM's CARD OF 'fleuronlaw25.CodecUnpacks'. -/
def codecUnpacksUptoCard : Claim7 := { stood := { row := codecUnpacksUptoRow, standIns := [], harness := (true, "be2f70e5ba02817bb7a41d04b17d17fe1f92fd59720559570bf61ed5af330ceb"), looks := true }, kinds := [], alts := [], laidByText := true, laidKinds := [.data, .data, .pinned], laidTests := true, laidLooks := .later }
def CodecUnpacksUptoCardSaid : Prop := Claim7.holds Tryz.pinned (.plain (OpenSpec.upto codecUnpacksSpec)) codecUnpacksUptoCard

/-- THE SECOND FORM's CARD OF 'fleuronlaw25.CodecBack'. -/
def codecBackUptoCard : Claim7 := { stood := { row := codecBackUptoRow, standIns := [], harness := (true, "be2f70e5ba02817bb7a41d04b17d17fe1f92fd59720559570bf61ed5af330ceb"), looks := true }, kinds := [], alts := [], laidByText := true, laidKinds := [.data, .data, .pinned], laidTests := true, laidLooks := .later }
def CodecBackUptoCardSaid : Prop := Claim7.holds Tryz.pinned (.plain (OpenSpec.upto codecBackSpec)) codecBackUptoCard

/-- THE SECOND FORM's CARD OF 'fleuronlaw25.CodecOnly'. -/
def codecOnlyUptoCard : Claim7 := { stood := { row := codecOnlyUptoRow, standIns := [], harness := (true, "be2f70e5ba02817bb7a41d04b17d17fe1f92fd59720559570bf61ed5af330ceb"), looks := true }, kinds := [], alts := [], laidByText := true, laidKinds := [.data, .data, .pinned], laidTests := true, laidLooks := .later }
def CodecOnlyUptoCardSaid : Prop := Claim7.holds Tryz.pinned (.plain (OpenSpec.upto codecOnlySpec)) codecOnlyUptoCard

/-- THE SECOND FORM's CARD OF 'fleuronlaw25.CodecFew'. -/
def codecFewUptoCard : Claim7 := { stood := { row := codecFewUptoRow, standIns := [], harness := (true, "be2f70e5ba02817bb7a41d04b17d17fe1f92fd59720559570bf61ed5af330ceb"), looks := true }, kinds := [], alts := [], laidByText := true, laidKinds := [.data, .data, .pinned], laidTests := true, laidLooks := .later }
def CodecFewUptoCardSaid : Prop := Claim7.holds Tryz.pinned (.plain (OpenSpec.upto codecFewSpec)) codecFewUptoCard

/-- THE SECOND FORM's CARD OF 'fleuronlaw25.CodecLong'. -/
def codecLongUptoCard : Claim7 := { stood := { row := codecLongUptoRow, standIns := [], harness := (true, "be2f70e5ba02817bb7a41d04b17d17fe1f92fd59720559570bf61ed5af330ceb"), looks := true }, kinds := [], alts := [], laidByText := true, laidKinds := [.data, .data, .pinned], laidTests := true, laidLooks := .later }
def CodecLongUptoCardSaid : Prop := Claim7.holds Tryz.pinned (.plain (OpenSpec.upto codecLongSpec)) codecLongUptoCard
end Rows
end Go.Proofs.YtjgklacbelggdaaGreatDoor
