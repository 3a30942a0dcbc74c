/-
  DERIVED. GIVEN WITH THE SEED: THE CARDS: each row of YtnebdlchogmneaaGreatDoorRows.lean that lists a variable, with what it lists TIED to the program's text (the seventh form; the later family's looks); each row that meets fmt, with fmt's text TOLD by the authors' own Lean function (tested against real Go, not proved from fmt's source: count such statements apart). THE CARD IS WHAT COUNTS. Prove the row's statement (the work); the ties are given (YtnebdlchogmneaaGreatDoorTie.lean); close each card by the builder's one call (the guide's Derived/Test/ToyasCard.lean, 'card_holds'). Laid BY PROGRAM, IN A SANDBOX (cutbox-door.mjs). By AI agents, Wed Nov 11 2026. No macro, syntax, notation, axiom, sorry.
-/
import Derived.Test.YtnebdlchogmneaaGreatDoorRows
import GoSem.ClaimSeven
namespace Go.Proofs.YtnebdlchogmneaaGreatDoor
namespace Rows

/-- THE TIED CARD OF 'runrigtop.WholeAlone'. -/
def wholeAloneCard : Claim7 := { stood := { row := wholeAloneRow, standIns := [], harness := (true, "77d74b3bcfc71c7043edac1b6ce73217537f7908e1b42464186eccc68dfd9e4b"), looks := true }, kinds := [], alts := [], laidByText := true, laidKinds := [.data, .data, .data, .data, .sentinel, .sentinel, .listed, .data, .pinned], laidTests := true, laidLooks := .later }
def WholeAloneCardSaid : Prop := Claim7.holds Tryz.pinned (.plain (OpenSpec.ofChange wholeAloneSpec)) wholeAloneCard

/-- THE SECOND FORM's CARD OF 'runrigtop.WholeAlone'. -/
def wholeAloneUptoCard : Claim7 := { stood := { row := wholeAloneUptoRow, standIns := [], harness := (true, "77d74b3bcfc71c7043edac1b6ce73217537f7908e1b42464186eccc68dfd9e4b"), looks := true }, kinds := [], alts := [], laidByText := true, laidKinds := [.data, .data, .data, .data, .sentinel, .sentinel, .listed, .data, .pinned], laidTests := true, laidLooks := .later }
def WholeAloneUptoCardSaid : Prop := Claim7.holds Tryz.pinned (.plain (OpenSpec.upto wholeAloneSpec)) wholeAloneUptoCard
end Rows
end Go.Proofs.YtnebdlchogmneaaGreatDoor
