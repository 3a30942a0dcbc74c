/-
  DERIVED. GIVEN WITH THE SEED: THE CARDS: each row of YtkkgigdgbiklmaaDoorRows.lean that lists a variable, with what it lists TIED to the program's text (the seventh form; the later family's looks); each row that meets fmt, with fmt's text TOLD by the authors' own Lean function (tested against real Go, not proved from fmt's source: count such statements apart). THE CARD IS WHAT COUNTS. Prove the row's statement (the work); the ties are given (YtkkgigdgbiklmaaDoorTie.lean); close each card by the builder's one call (the guide's Derived/Test/ToyasCard.lean, 'card_holds'). Laid BY PROGRAM, IN A SANDBOX (cutbox-door.mjs). By AI agents, Wed Nov 11 2026. No macro, syntax, notation, axiom, sorry.
-/
import Derived.Test.YtkkgigdgbiklmaaDoorRows
import GoSem.ClaimSeven
namespace Go.Proofs.YtkkgigdgbiklmaaDoor
namespace Rows

/-- THE TIED CARD OF 'runriglaw15.MsgGets'. -/
def msgGetsCard : Claim7 := { stood := { row := msgGetsRow, standIns := [], harness := (true, "e42b72c0f3d17cb5398f4e2656336701a1ed328fae9594aac5fb67a8d029a8e5"), looks := false }, kinds := [], alts := [], laidByText := true, laidKinds := [.data, .data, .data], laidTests := true, laidLooks := .later }
def MsgGetsCardSaid : Prop := Claim7.holds Tryd.pinned (.plain (OpenSpec.ofChange msgGetsSpec)) msgGetsCard

/-- THE TIED CARD OF 'runriglaw15.MsgPuts'. -/
def msgPutsCard : Claim7 := { stood := { row := msgPutsRow, standIns := [], harness := (true, "e42b72c0f3d17cb5398f4e2656336701a1ed328fae9594aac5fb67a8d029a8e5"), looks := false }, kinds := [], alts := [], laidByText := true, laidKinds := [.data, .data, .data], laidTests := true, laidLooks := .later }
def MsgPutsCardSaid : Prop := Claim7.holds Tryd.pinned (.plain (OpenSpec.ofChange msgPutsSpec)) msgPutsCard

/-- THE TIED CARD OF 'runriglaw15.MsgTexts'. -/
def msgTextsCard : Claim7 := { stood := { row := msgTextsRow, standIns := [], harness := (true, "e42b72c0f3d17cb5398f4e2656336701a1ed328fae9594aac5fb67a8d029a8e5"), looks := false }, kinds := [], alts := [], laidByText := true, laidKinds := [.data, .data, .data], laidTests := true, laidLooks := .later }
def MsgTextsCardSaid : Prop := Claim7.holds Tryd.pinned (.plain (OpenSpec.ofChange msgTextsSpec)) msgTextsCard

/-- THE TIED CARD OF 'runriglaw15.MsgTrims'. -/
def msgTrimsCard : Claim7 := { stood := { row := msgTrimsRow, standIns := [], harness := (true, "e42b72c0f3d17cb5398f4e2656336701a1ed328fae9594aac5fb67a8d029a8e5"), looks := false }, kinds := [], alts := [], laidByText := true, laidKinds := [.data, .data, .data, .data, .pinned], laidTests := true, laidLooks := .later }
def MsgTrimsCardSaid : Prop := Claim7.holds Tryd.pinned (.plain (OpenSpec.ofChange msgTrimsSpec)) msgTrimsCard

/-- THE SECOND FORM's CARD OF 'runriglaw15.MsgGets'. -/
def msgGetsUptoCard : Claim7 := { stood := { row := msgGetsUptoRow, standIns := [], harness := (true, "e42b72c0f3d17cb5398f4e2656336701a1ed328fae9594aac5fb67a8d029a8e5"), looks := false }, kinds := [], alts := [], laidByText := true, laidKinds := [.data, .data, .data], laidTests := true, laidLooks := .later }
def MsgGetsUptoCardSaid : Prop := Claim7.holds Tryd.pinned (.plain (OpenSpec.upto msgGetsSpec)) msgGetsUptoCard

/-- THE SECOND FORM's CARD OF 'runriglaw15.MsgPuts'. -/
def msgPutsUptoCard : Claim7 := { stood := { row := msgPutsUptoRow, standIns := [], harness := (true, "e42b72c0f3d17cb5398f4e2656336701a1ed328fae9594aac5fb67a8d029a8e5"), looks := false }, kinds := [], alts := [], laidByText := true, laidKinds := [.data, .data, .data], laidTests := true, laidLooks := .later }
def MsgPutsUptoCardSaid : Prop := Claim7.holds Tryd.pinned (.plain (OpenSpec.upto msgPutsSpec)) msgPutsUptoCard

/-- THE SECOND FORM's CARD OF 'runriglaw15.MsgTexts'. -/
def msgTextsUptoCard : Claim7 := { stood := { row := msgTextsUptoRow, standIns := [], harness := (true, "e42b72c0f3d17cb5398f4e2656336701a1ed328fae9594aac5fb67a8d029a8e5"), looks := false }, kinds := [], alts := [], laidByText := true, laidKinds := [.data, .data, .data], laidTests := true, laidLooks := .later }
def MsgTextsUptoCardSaid : Prop := Claim7.holds Tryd.pinned (.plain (OpenSpec.upto msgTextsSpec)) msgTextsUptoCard

/-- THE SECOND FORM's CARD OF 'runriglaw15.MsgTrims'. -/
def msgTrimsUptoCard : Claim7 := { stood := { row := msgTrimsUptoRow, standIns := [], harness := (true, "e42b72c0f3d17cb5398f4e2656336701a1ed328fae9594aac5fb67a8d029a8e5"), looks := false }, kinds := [], alts := [], laidByText := true, laidKinds := [.data, .data, .data, .data, .pinned], laidTests := true, laidLooks := .later }
def MsgTrimsUptoCardSaid : Prop := Claim7.holds Tryd.pinned (.plain (OpenSpec.upto msgTrimsSpec)) msgTrimsUptoCard
end Rows
end Go.Proofs.YtkkgigdgbiklmaaDoor
