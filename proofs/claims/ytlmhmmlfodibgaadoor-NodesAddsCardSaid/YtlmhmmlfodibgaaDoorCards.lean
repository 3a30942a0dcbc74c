/-
  DERIVED. GIVEN WITH THE SEED: THE CARDS: each row of YtlmhmmlfodibgaaDoorRows.lean that lists a variable, with what it lists TIED to the program's text (the seventh form; the later family's looks); each row that meets fmt, with fmt's text TOLD by the authors' own Lean function (tested against real Go, not proved from fmt's source: count such statements apart). THE CARD IS WHAT COUNTS. Prove the row's statement (the work); the ties are given (YtlmhmmlfodibgaaDoorTie.lean); close each card by the builder's one call (the guide's Derived/Test/ToyasCard.lean, 'card_holds'). Laid BY PROGRAM, IN A SANDBOX (cutbox-door.mjs). By AI agents, Wed Nov 11 2026. No macro, syntax, notation, axiom, sorry.
-/
import Derived.Test.YtlmhmmlfodibgaaDoorRows
import GoSem.ClaimSeven
namespace Go.Proofs.YtlmhmmlfodibgaaDoor
namespace Rows

/-- THE TIED CARD OF 'runriglaw02.NodesSets'. -/
def nodesSetsCard : Claim7 := { stood := { row := nodesSetsRow, standIns := [], harness := (true, "ac06925dee26a21267f514dee5026e45462c7c6d686322fba5ea176718c95e62"), looks := false }, kinds := [], alts := [], laidByText := true, laidKinds := [.data, .data, .data], laidTests := true, laidLooks := .later }
def NodesSetsCardSaid : Prop := Claim7.holds Tryd.pinned (.plain (OpenSpec.ofChange nodesSetsSpec)) nodesSetsCard

/-- THE TIED CARD OF 'runriglaw02.NodesAdds'. -/
def nodesAddsCard : Claim7 := { stood := { row := nodesAddsRow, standIns := [], harness := (true, "ac06925dee26a21267f514dee5026e45462c7c6d686322fba5ea176718c95e62"), looks := false }, kinds := [], alts := [], laidByText := true, laidKinds := [.data, .data, .data], laidTests := true, laidLooks := .later }
def NodesAddsCardSaid : Prop := Claim7.holds Tryd.pinned (.plain (OpenSpec.ofChange nodesAddsSpec)) nodesAddsCard

/-- THE TIED CARD OF 'runriglaw02.NodesTwo'. -/
def nodesTwoCard : Claim7 := { stood := { row := nodesTwoRow, standIns := [], harness := (true, "ac06925dee26a21267f514dee5026e45462c7c6d686322fba5ea176718c95e62"), looks := false }, kinds := [], alts := [], laidByText := true, laidKinds := [.data, .data, .data], laidTests := true, laidLooks := .later }
def NodesTwoCardSaid : Prop := Claim7.holds Tryd.pinned (.plain (OpenSpec.ofChange nodesTwoSpec)) nodesTwoCard

/-- THE TIED CARD OF 'runriglaw02.NodesCount'. -/
def nodesCountCard : Claim7 := { stood := { row := nodesCountRow, standIns := [], harness := (true, "ac06925dee26a21267f514dee5026e45462c7c6d686322fba5ea176718c95e62"), looks := false }, kinds := [], alts := [], laidByText := true, laidKinds := [.data, .data, .data], laidTests := true, laidLooks := .later }
def NodesCountCardSaid : Prop := Claim7.holds Tryd.pinned (.plain (OpenSpec.ofChange nodesCountSpec)) nodesCountCard

/-- THE SECOND FORM's CARD OF 'runriglaw02.NodesSets'. -/
def nodesSetsUptoCard : Claim7 := { stood := { row := nodesSetsUptoRow, standIns := [], harness := (true, "ac06925dee26a21267f514dee5026e45462c7c6d686322fba5ea176718c95e62"), looks := false }, kinds := [], alts := [], laidByText := true, laidKinds := [.data, .data, .data], laidTests := true, laidLooks := .later }
def NodesSetsUptoCardSaid : Prop := Claim7.holds Tryd.pinned (.plain (OpenSpec.upto nodesSetsSpec)) nodesSetsUptoCard

/-- THE SECOND FORM's CARD OF 'runriglaw02.NodesAdds'. -/
def nodesAddsUptoCard : Claim7 := { stood := { row := nodesAddsUptoRow, standIns := [], harness := (true, "ac06925dee26a21267f514dee5026e45462c7c6d686322fba5ea176718c95e62"), looks := false }, kinds := [], alts := [], laidByText := true, laidKinds := [.data, .data, .data], laidTests := true, laidLooks := .later }
def NodesAddsUptoCardSaid : Prop := Claim7.holds Tryd.pinned (.plain (OpenSpec.upto nodesAddsSpec)) nodesAddsUptoCard

/-- THE SECOND FORM's CARD OF 'runriglaw02.NodesTwo'. -/
def nodesTwoUptoCard : Claim7 := { stood := { row := nodesTwoUptoRow, standIns := [], harness := (true, "ac06925dee26a21267f514dee5026e45462c7c6d686322fba5ea176718c95e62"), looks := false }, kinds := [], alts := [], laidByText := true, laidKinds := [.data, .data, .data], laidTests := true, laidLooks := .later }
def NodesTwoUptoCardSaid : Prop := Claim7.holds Tryd.pinned (.plain (OpenSpec.upto nodesTwoSpec)) nodesTwoUptoCard

/-- THE SECOND FORM's CARD OF 'runriglaw02.NodesCount'. -/
def nodesCountUptoCard : Claim7 := { stood := { row := nodesCountUptoRow, standIns := [], harness := (true, "ac06925dee26a21267f514dee5026e45462c7c6d686322fba5ea176718c95e62"), looks := false }, kinds := [], alts := [], laidByText := true, laidKinds := [.data, .data, .data], laidTests := true, laidLooks := .later }
def NodesCountUptoCardSaid : Prop := Claim7.holds Tryd.pinned (.plain (OpenSpec.upto nodesCountSpec)) nodesCountUptoCard
end Rows
end Go.Proofs.YtlmhmmlfodibgaaDoor
