/-
  DERIVED. GIVEN WITH THE SEED: THE CARDS: each row of YtocjapnagggapaaDoorRows.lean that lists a variable, with what it lists TIED to the program's text (the seventh form; the later family's looks); each row that meets fmt, with fmt's text TOLD by the authors' own Lean function (tested against real Go, not proved from fmt's source: count such statements apart). THE CARD IS WHAT COUNTS. Prove the row's statement (the work); the ties are given (YtocjapnagggapaaDoorTie.lean); close each card by the builder's one call (the guide's Derived/Test/ToyasCard.lean, 'card_holds'). Laid BY PROGRAM, IN A SANDBOX (cutbox-door.mjs). By AI agents, Wed Nov 11 2026. No macro, syntax, notation, axiom, sorry.
-/
import Derived.Test.YtocjapnagggapaaDoorRows
import GoSem.ClaimSeven
namespace Go.Proofs.YtocjapnagggapaaDoor
namespace Rows

/-- THE TIED CARD OF 'runriglaw40.ClocksTell'. -/
def clocksTellCard : Claim7 := { stood := { row := clocksTellRow, standIns := [], harness := (true, "9a45df345593a9ae26cd5211c76355d10c5af4f88bd9cf2ebc8c80a4da38425e"), looks := false }, kinds := [], alts := [], laidByText := true, laidKinds := [.data, .data, .data], laidTests := true, laidLooks := .later }
def ClocksTellCardSaid : Prop := Claim7.holds Tryd.pinned (.plain (OpenSpec.ofChange clocksTellSpec)) clocksTellCard

/-- THE TIED CARD OF 'runriglaw40.ClocksOrder'. -/
def clocksOrderCard : Claim7 := { stood := { row := clocksOrderRow, standIns := [], harness := (true, "9a45df345593a9ae26cd5211c76355d10c5af4f88bd9cf2ebc8c80a4da38425e"), looks := false }, kinds := [], alts := [], laidByText := true, laidKinds := [.data, .data, .data], laidTests := true, laidLooks := .later }
def ClocksOrderCardSaid : Prop := Claim7.holds Tryd.pinned (.plain (OpenSpec.ofChange clocksOrderSpec)) clocksOrderCard

/-- THE SECOND FORM's CARD OF 'runriglaw40.ClocksTell'. -/
def clocksTellUptoCard : Claim7 := { stood := { row := clocksTellUptoRow, standIns := [], harness := (true, "9a45df345593a9ae26cd5211c76355d10c5af4f88bd9cf2ebc8c80a4da38425e"), looks := false }, kinds := [], alts := [], laidByText := true, laidKinds := [.data, .data, .data], laidTests := true, laidLooks := .later }
def ClocksTellUptoCardSaid : Prop := Claim7.holds Tryd.pinned (.plain (OpenSpec.upto clocksTellSpec)) clocksTellUptoCard

/-- THE SECOND FORM's CARD OF 'runriglaw40.ClocksOrder'. -/
def clocksOrderUptoCard : Claim7 := { stood := { row := clocksOrderUptoRow, standIns := [], harness := (true, "9a45df345593a9ae26cd5211c76355d10c5af4f88bd9cf2ebc8c80a4da38425e"), looks := false }, kinds := [], alts := [], laidByText := true, laidKinds := [.data, .data, .data], laidTests := true, laidLooks := .later }
def ClocksOrderUptoCardSaid : Prop := Claim7.holds Tryd.pinned (.plain (OpenSpec.upto clocksOrderSpec)) clocksOrderUptoCard
end Rows
end Go.Proofs.YtocjapnagggapaaDoor
