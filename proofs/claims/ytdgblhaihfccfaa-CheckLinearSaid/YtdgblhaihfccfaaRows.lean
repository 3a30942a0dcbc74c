/-
  No cell of these rows narrows 'for every input' (looked for: loops, veiled, ifaces, maps, wideKeys, modest, calm, conditions, laid).
  DERIVED. THE GIVEN ROWS OF THIS SEAT. 4 by the template 'for every input the law returns true; each argument reads behind the call as it read before'; 0 by the template 'total and deterministic' (their statements: YtdgblhaihfccfaaTotals.lean).
  GIVEN WITH THE SEED: the statements are not yours to turn. If you find one false, say at which input.
  Laid BY PROGRAM, IN A SANDBOX (cutbox-rows.mjs): the forced cells as the released guide's own fill.sh prints them over the translation 1c632a3c57654755… (all of the seat's roots in one cut). By AI agents, Wed Nov 11 2026. No macro, syntax, notation, axiom, sorry.
-/
import Derived.Test.YtdgblhaihfccfaaChecked
import GoSem.Claim
import GoSem.ClaimJoined
import GoSem.ClaimMapViews
import Derived.JoinedTies
import Derived.KernelRfl
namespace Go.Proofs.Ytdgblhaihfccfaa
/- THE CELL 'sum', in the pinned program and in every row, IS THE sha256 OF THE DUMP (.gsa) THAT YtdgblhaihfccfaaProg.lean LOADS. Nothing in Lean hashes anything: it is a label: what it is worth is what the hold of that sum in a sandbox is worth. -/
noncomputable def Try.pinned : Pinned := { name := "ytdgblhaihfccfaa", sum := "1c632a3c576547559a440cb33eb4e1c0d5681967a711960f82058838d143d3e9", checked := Try.checked }
namespace Rows
def none {H : Type} : Left H := { results := [], args := [] }

/-- 'runriglaw03.CheckSums': WHATEVER THE INPUT: true; the input reads as it did. -/
def checkSumsSpec : ChangeSpec := { name := "checkSums", fn := fun _ => fun
  | [d] => { results := [.lit (.bool true)], args := [d] }
  | _ => none }
def checkSumsRow : OpenClaim := { program := "ytdgblhaihfccfaa", sum := "1c632a3c576547559a440cb33eb4e1c0d5681967a711960f82058838d143d3e9", func := "runrig/runriglaw03.CheckSums", spec := "checkSums", apart := false }
def CheckSumsSaid : Prop := checkSumsRow.holds Try.pinned (OpenSpec.ofChange checkSumsSpec)

/-- ITS FALSE NEIGHBOUR: 'it returns false'. Refute it at one input. -/
def checkSumsWrong : ChangeSpec := { name := "checkSums", fn := fun _ => fun
  | [d] => { results := [.lit (.bool false)], args := [d] }
  | _ => none }
def CheckSumsWrongFalsely : Prop := checkSumsRow.holds Try.pinned (OpenSpec.ofChange checkSumsWrong)

/-- 'runriglaw03.CheckOpens': WHATEVER THE INPUT: true; the input reads as it did. -/
def checkOpensSpec : ChangeSpec := { name := "checkOpens", fn := fun _ => fun
  | [d] => { results := [.lit (.bool true)], args := [d] }
  | _ => none }
def checkOpensRow : OpenClaim := { program := "ytdgblhaihfccfaa", sum := "1c632a3c576547559a440cb33eb4e1c0d5681967a711960f82058838d143d3e9", func := "runrig/runriglaw03.CheckOpens", spec := "checkOpens", apart := false }
def CheckOpensSaid : Prop := checkOpensRow.holds Try.pinned (OpenSpec.ofChange checkOpensSpec)

/-- ITS FALSE NEIGHBOUR: 'it returns false'. Refute it at one input. -/
def checkOpensWrong : ChangeSpec := { name := "checkOpens", fn := fun _ => fun
  | [d] => { results := [.lit (.bool false)], args := [d] }
  | _ => none }
def CheckOpensWrongFalsely : Prop := checkOpensRow.holds Try.pinned (OpenSpec.ofChange checkOpensWrong)

/-- 'runriglaw03.CheckLinear': WHATEVER THE INPUT: true; the input reads as it did. -/
def checkLinearSpec : ChangeSpec := { name := "checkLinear", fn := fun _ => fun
  | [d1, d2] => { results := [.lit (.bool true)], args := [d1, d2] }
  | _ => none }
def checkLinearRow : OpenClaim := { program := "ytdgblhaihfccfaa", sum := "1c632a3c576547559a440cb33eb4e1c0d5681967a711960f82058838d143d3e9", func := "runrig/runriglaw03.CheckLinear", spec := "checkLinear", apart := false }
def CheckLinearSaid : Prop := checkLinearRow.holds Try.pinned (OpenSpec.ofChange checkLinearSpec)

/-- ITS FALSE NEIGHBOUR: 'it returns false'. Refute it at one input. -/
def checkLinearWrong : ChangeSpec := { name := "checkLinear", fn := fun _ => fun
  | [d1, d2] => { results := [.lit (.bool false)], args := [d1, d2] }
  | _ => none }
def CheckLinearWrongFalsely : Prop := checkLinearRow.holds Try.pinned (OpenSpec.ofChange checkLinearWrong)

/-- 'runriglaw03.CheckTurns': WHATEVER THE INPUT: true; the input reads as it did. -/
def checkTurnsSpec : ChangeSpec := { name := "checkTurns", fn := fun _ => fun
  | [d1, d2] => { results := [.lit (.bool true)], args := [d1, d2] }
  | _ => none }
def checkTurnsRow : OpenClaim := { program := "ytdgblhaihfccfaa", sum := "1c632a3c576547559a440cb33eb4e1c0d5681967a711960f82058838d143d3e9", func := "runrig/runriglaw03.CheckTurns", spec := "checkTurns", apart := false }
def CheckTurnsSaid : Prop := checkTurnsRow.holds Try.pinned (OpenSpec.ofChange checkTurnsSpec)

/-- ITS FALSE NEIGHBOUR: 'it returns false'. Refute it at one input. -/
def checkTurnsWrong : ChangeSpec := { name := "checkTurns", fn := fun _ => fun
  | [d1, d2] => { results := [.lit (.bool false)], args := [d1, d2] }
  | _ => none }
def CheckTurnsWrongFalsely : Prop := checkTurnsRow.holds Try.pinned (OpenSpec.ofChange checkTurnsWrong)

/- THE SECOND FORM. 'bulk': how many values and letters a reading holds, each counted each time it is reached (what is shared counts as often as it is met; a slice's spare places count too). A statement '..UptoSaid' is the law's where the arguments, and the package variables that the reading takes, are together of bulk at most 1048576: NARROWER than '..Said'. Prove '..Said' where nothing that the law and all that it calls make is longer than what came in: it says more and counts as full. Else prove '..UptoSaid'. A law counts once. -/
mutual
def uptoBulk {H : Type} : DataW H → Nat
  | .lit (.string bytes) => bytes.length + 1
  | .lit _ => 1
  | .nil => 1
  | .ptr d => uptoBulk d + 1
  | .slice elems spare => uptoBulkAll elems + uptoBulkAll spare + 1
  | .agg parts => uptoBulkAll parts + 1
  | .iface _ d => uptoBulk d + 1
  | .map entries => uptoBulkEntries entries + 1
  | .held _ => 1
def uptoBulkAll {H : Type} : List (DataW H) → Nat
  | [] => 0
  | d :: r => uptoBulk d + uptoBulkAll r
def uptoBulkEntries {H : Type} : List (Lit × DataW H) → Nat
  | [] => 0
  | x :: r => uptoBulkEntry x + uptoBulkEntries r
def uptoBulkEntry {H : Type} : Lit × DataW H → Nat
  | (.string bytes, d) => bytes.length + uptoBulk d + 1
  | (_, d) => uptoBulk d + 1
 end
def uptoSmall : (H : Type) → List (DataW H) → Bool := fun _ ds => decide (uptoBulkAll ds ≤ 1048576)
def OpenSpec.upto (s : _root_.Go.ChangeSpec) : _root_.Go.OpenSpec := { _root_.Go.OpenSpec.ofChange s with cond := some uptoSmall }

/-- 'runriglaw03.CheckSums', WHERE WHAT IT READS IS OF BULK AT MOST 1048576: true; the input reads as it did. -/
def checkSumsUptoRow : OpenClaim := { program := "ytdgblhaihfccfaa", sum := "1c632a3c576547559a440cb33eb4e1c0d5681967a711960f82058838d143d3e9", func := "runrig/runriglaw03.CheckSums", spec := "checkSums", apart := false, narrowed := true }
def CheckSumsUptoSaid : Prop := checkSumsUptoRow.holds Try.pinned (OpenSpec.upto checkSumsSpec)

/-- 'runriglaw03.CheckOpens', WHERE WHAT IT READS IS OF BULK AT MOST 1048576: true; the input reads as it did. -/
def checkOpensUptoRow : OpenClaim := { program := "ytdgblhaihfccfaa", sum := "1c632a3c576547559a440cb33eb4e1c0d5681967a711960f82058838d143d3e9", func := "runrig/runriglaw03.CheckOpens", spec := "checkOpens", apart := false, narrowed := true }
def CheckOpensUptoSaid : Prop := checkOpensUptoRow.holds Try.pinned (OpenSpec.upto checkOpensSpec)

/-- 'runriglaw03.CheckLinear', WHERE WHAT IT READS IS OF BULK AT MOST 1048576: true; the input reads as it did. -/
def checkLinearUptoRow : OpenClaim := { program := "ytdgblhaihfccfaa", sum := "1c632a3c576547559a440cb33eb4e1c0d5681967a711960f82058838d143d3e9", func := "runrig/runriglaw03.CheckLinear", spec := "checkLinear", apart := false, narrowed := true }
def CheckLinearUptoSaid : Prop := checkLinearUptoRow.holds Try.pinned (OpenSpec.upto checkLinearSpec)

/-- 'runriglaw03.CheckTurns', WHERE WHAT IT READS IS OF BULK AT MOST 1048576: true; the input reads as it did. -/
def checkTurnsUptoRow : OpenClaim := { program := "ytdgblhaihfccfaa", sum := "1c632a3c576547559a440cb33eb4e1c0d5681967a711960f82058838d143d3e9", func := "runrig/runriglaw03.CheckTurns", spec := "checkTurns", apart := false, narrowed := true }
def CheckTurnsUptoSaid : Prop := checkTurnsUptoRow.holds Try.pinned (OpenSpec.upto checkTurnsSpec)

end Rows
end Go.Proofs.Ytdgblhaihfccfaa
