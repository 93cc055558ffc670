/-
  DERIVED. GIVEN WITH THE SEED: THE CARDS: each row of YtbhnmaghnnpboaaDoorRows.lean that lists a variable, with what it lists TIED to the program's text (the seventh form; the later family's looks); each row that meets fmt, with fmt's text TOLD by the authors' own Lean function (tested against real Go, not proved from fmt's source: count such statements apart). THE CARD IS WHAT COUNTS. Prove the row's statement (the work); the ties are given (YtbhnmaghnnpboaaDoorTie.lean); close each card by the builder's one call (the guide's Derived/Test/ToyasCard.lean, 'card_holds'). Laid BY PROGRAM, IN A SANDBOX (cutbox-door.mjs). By AI agents, Wed Nov 11 2026. No macro, syntax, notation, axiom, sorry.
-/
import Derived.Test.YtbhnmaghnnpboaaDoorRows
import GoSem.ClaimSeven
namespace Go.Proofs.YtbhnmaghnnpboaaDoor
namespace Rows

/-- THE TIED CARD OF 'cellaretlaw24.LossyKnown'. -/
def lossyKnownCard : Claim7 := { stood := { row := lossyKnownRow, standIns := [], harness := (true, "beb53d18c2e5ec59c099f4c8909e81a0336088073c68750abed8c3751dd9b492"), looks := true }, kinds := [], alts := [], laidByText := true, laidKinds := [.data, .data, .data, .data, .sentinel, .sentinel, .pinned], laidTests := true, laidLooks := .later }
def LossyKnownCardSaid : Prop := Claim7.holds Tryd.pinned (.plain (OpenSpec.ofChange lossyKnownSpec)) lossyKnownCard

/-- THE TIED CARD OF 'cellaretlaw24.LossyTakes'. -/
def lossyTakesCard : Claim7 := { stood := { row := lossyTakesRow, standIns := [], harness := (true, "beb53d18c2e5ec59c099f4c8909e81a0336088073c68750abed8c3751dd9b492"), looks := true }, kinds := [], alts := [], laidByText := true, laidKinds := [.data, .data, .data, .data, .sentinel, .sentinel, .pinned], laidTests := true, laidLooks := .later }
def LossyTakesCardSaid : Prop := Claim7.holds Tryd.pinned (.plain (OpenSpec.ofChange lossyTakesSpec)) lossyTakesCard

/-- THE TIED CARD OF 'cellaretlaw24.LossyTells'. -/
def lossyTellsCard : Claim7 := { stood := { row := lossyTellsRow, standIns := [], harness := (true, "beb53d18c2e5ec59c099f4c8909e81a0336088073c68750abed8c3751dd9b492"), looks := true }, kinds := [], alts := [], laidByText := true, laidKinds := [.data, .data, .data, .data, .sentinel, .sentinel, .pinned], laidTests := true, laidLooks := .later }
def LossyTellsCardSaid : Prop := Claim7.holds Tryd.pinned (.plain (OpenSpec.ofChange lossyTellsSpec)) lossyTellsCard

/-- THE TIED CARD OF 'cellaretlaw24.LossyBegins'. -/
def lossyBeginsCard : Claim7 := { stood := { row := lossyBeginsRow, standIns := [], harness := (true, "beb53d18c2e5ec59c099f4c8909e81a0336088073c68750abed8c3751dd9b492"), looks := true }, kinds := [], alts := [], laidByText := true, laidKinds := [.data, .data, .data, .data, .sentinel, .sentinel, .pinned], laidTests := true, laidLooks := .later }
def LossyBeginsCardSaid : Prop := Claim7.holds Tryd.pinned (.plain (OpenSpec.ofChange lossyBeginsSpec)) lossyBeginsCard

/-- THE TIED CARD OF 'cellaretlaw24.LossyExact'. -/
def lossyExactCard : Claim7 := { stood := { row := lossyExactRow, standIns := [], harness := (true, "beb53d18c2e5ec59c099f4c8909e81a0336088073c68750abed8c3751dd9b492"), looks := true }, kinds := [], alts := [], laidByText := true, laidKinds := [.data, .data, .data, .data, .sentinel, .sentinel, .pinned], laidTests := true, laidLooks := .later }
def LossyExactCardSaid : Prop := Claim7.holds Tryd.pinned (.plain (OpenSpec.ofChange lossyExactSpec)) lossyExactCard

/-- THE TIED CARD OF 'cellaretlaw24.LossyFlags'. -/
def lossyFlagsCard : Claim7 := { stood := { row := lossyFlagsRow, standIns := [], harness := (true, "beb53d18c2e5ec59c099f4c8909e81a0336088073c68750abed8c3751dd9b492"), looks := true }, kinds := [], alts := [], laidByText := true, laidKinds := [.data, .data, .data, .data, .sentinel, .sentinel, .pinned], laidTests := true, laidLooks := .later }
def LossyFlagsCardSaid : Prop := Claim7.holds Tryd.pinned (.plain (OpenSpec.ofChange lossyFlagsSpec)) lossyFlagsCard

/-- THE TIED CARD OF 'cellaretlaw24.LossyNot'. -/
def lossyNotCard : Claim7 := { stood := { row := lossyNotRow, standIns := [], harness := (true, "beb53d18c2e5ec59c099f4c8909e81a0336088073c68750abed8c3751dd9b492"), looks := true }, kinds := [], alts := [], laidByText := true, laidKinds := [.data, .data, .data, .data, .sentinel, .sentinel, .pinned], laidTests := true, laidLooks := .later }
def LossyNotCardSaid : Prop := Claim7.holds Tryd.pinned (.plain (OpenSpec.ofChange lossyNotSpec)) lossyNotCard

/-- THE SECOND FORM's CARD OF 'cellaretlaw24.LossyKnown'. -/
def lossyKnownUptoCard : Claim7 := { stood := { row := lossyKnownUptoRow, standIns := [], harness := (true, "beb53d18c2e5ec59c099f4c8909e81a0336088073c68750abed8c3751dd9b492"), looks := true }, kinds := [], alts := [], laidByText := true, laidKinds := [.data, .data, .data, .data, .sentinel, .sentinel, .pinned], laidTests := true, laidLooks := .later }
def LossyKnownUptoCardSaid : Prop := Claim7.holds Tryd.pinned (.plain (OpenSpec.upto lossyKnownSpec)) lossyKnownUptoCard

/-- THE SECOND FORM's CARD OF 'cellaretlaw24.LossyTakes'. -/
def lossyTakesUptoCard : Claim7 := { stood := { row := lossyTakesUptoRow, standIns := [], harness := (true, "beb53d18c2e5ec59c099f4c8909e81a0336088073c68750abed8c3751dd9b492"), looks := true }, kinds := [], alts := [], laidByText := true, laidKinds := [.data, .data, .data, .data, .sentinel, .sentinel, .pinned], laidTests := true, laidLooks := .later }
def LossyTakesUptoCardSaid : Prop := Claim7.holds Tryd.pinned (.plain (OpenSpec.upto lossyTakesSpec)) lossyTakesUptoCard

/-- THE SECOND FORM's CARD OF 'cellaretlaw24.LossyTells'. -/
def lossyTellsUptoCard : Claim7 := { stood := { row := lossyTellsUptoRow, standIns := [], harness := (true, "beb53d18c2e5ec59c099f4c8909e81a0336088073c68750abed8c3751dd9b492"), looks := true }, kinds := [], alts := [], laidByText := true, laidKinds := [.data, .data, .data, .data, .sentinel, .sentinel, .pinned], laidTests := true, laidLooks := .later }
def LossyTellsUptoCardSaid : Prop := Claim7.holds Tryd.pinned (.plain (OpenSpec.upto lossyTellsSpec)) lossyTellsUptoCard

/-- THE SECOND FORM's CARD OF 'cellaretlaw24.LossyBegins'. -/
def lossyBeginsUptoCard : Claim7 := { stood := { row := lossyBeginsUptoRow, standIns := [], harness := (true, "beb53d18c2e5ec59c099f4c8909e81a0336088073c68750abed8c3751dd9b492"), looks := true }, kinds := [], alts := [], laidByText := true, laidKinds := [.data, .data, .data, .data, .sentinel, .sentinel, .pinned], laidTests := true, laidLooks := .later }
def LossyBeginsUptoCardSaid : Prop := Claim7.holds Tryd.pinned (.plain (OpenSpec.upto lossyBeginsSpec)) lossyBeginsUptoCard

/-- THE SECOND FORM's CARD OF 'cellaretlaw24.LossyExact'. -/
def lossyExactUptoCard : Claim7 := { stood := { row := lossyExactUptoRow, standIns := [], harness := (true, "beb53d18c2e5ec59c099f4c8909e81a0336088073c68750abed8c3751dd9b492"), looks := true }, kinds := [], alts := [], laidByText := true, laidKinds := [.data, .data, .data, .data, .sentinel, .sentinel, .pinned], laidTests := true, laidLooks := .later }
def LossyExactUptoCardSaid : Prop := Claim7.holds Tryd.pinned (.plain (OpenSpec.upto lossyExactSpec)) lossyExactUptoCard

/-- THE SECOND FORM's CARD OF 'cellaretlaw24.LossyFlags'. -/
def lossyFlagsUptoCard : Claim7 := { stood := { row := lossyFlagsUptoRow, standIns := [], harness := (true, "beb53d18c2e5ec59c099f4c8909e81a0336088073c68750abed8c3751dd9b492"), looks := true }, kinds := [], alts := [], laidByText := true, laidKinds := [.data, .data, .data, .data, .sentinel, .sentinel, .pinned], laidTests := true, laidLooks := .later }
def LossyFlagsUptoCardSaid : Prop := Claim7.holds Tryd.pinned (.plain (OpenSpec.upto lossyFlagsSpec)) lossyFlagsUptoCard

/-- THE SECOND FORM's CARD OF 'cellaretlaw24.LossyNot'. -/
def lossyNotUptoCard : Claim7 := { stood := { row := lossyNotUptoRow, standIns := [], harness := (true, "beb53d18c2e5ec59c099f4c8909e81a0336088073c68750abed8c3751dd9b492"), looks := true }, kinds := [], alts := [], laidByText := true, laidKinds := [.data, .data, .data, .data, .sentinel, .sentinel, .pinned], laidTests := true, laidLooks := .later }
def LossyNotUptoCardSaid : Prop := Claim7.holds Tryd.pinned (.plain (OpenSpec.upto lossyNotSpec)) lossyNotUptoCard
end Rows
end Go.Proofs.YtbhnmaghnnpboaaDoor
