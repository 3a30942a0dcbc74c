/-
  No cell of these rows narrows 'for every input' (looked for: loops, veiled, ifaces, maps, wideKeys, modest, calm, conditions, laid).
  DERIVED. THE GIVEN ROWS OF THIS SEAT. 4 by the template 'for every input the law returns true; each argument reads behind the call as it read before'; 0 by the template 'total and deterministic' (their statements: YtcmaneeoblmmmaaTotals.lean).
  GIVEN WITH THE SEED: the statements are not yours to turn. If you find one false, say at which input.
  Laid BY PROGRAM, IN A SANDBOX (cutbox-rows.mjs): the forced cells as the released guide's own fill.sh prints them over the translation 13bb365282f4672c… (all of the seat's roots in one cut). By AI agents, Wed Nov 11 2026. No macro, syntax, notation, axiom, sorry.
-/
import Derived.Test.YtcmaneeoblmmmaaChecked
import GoSem.Claim
import GoSem.ClaimJoined
import GoSem.ClaimMapViews
import Derived.JoinedTies
import Derived.KernelRfl
namespace Go.Proofs.Ytcmaneeoblmmmaa
/- THE CELL 'sum', in the pinned program and in every row, IS THE sha256 OF THE DUMP (.gsa) THAT YtcmaneeoblmmmaaProg.lean LOADS. Nothing in Lean hashes anything: it is a label: what it is worth is what the hold of that sum in a sandbox is worth. -/
noncomputable def Try.pinned : Pinned := { name := "ytcmaneeoblmmmaa", sum := "13bb365282f4672c58f5309dc18cd53fbfcaedd7acd5551230433b7a6a913dbc", checked := Try.checked }
namespace Rows
def none {H : Type} : Left H := { results := [], args := [] }

/-- 'runriglaw20.IsaPuts': WHATEVER THE INPUT: true; the input reads as it did. -/
def isaPutsSpec : ChangeSpec := { name := "isaPuts", fn := fun _ => fun
  | [d] => { results := [.lit (.bool true)], args := [d] }
  | _ => none }
def isaPutsRow : OpenClaim := { program := "ytcmaneeoblmmmaa", sum := "13bb365282f4672c58f5309dc18cd53fbfcaedd7acd5551230433b7a6a913dbc", func := "runrig/runriglaw20.IsaPuts", spec := "isaPuts", apart := false }
def IsaPutsSaid : Prop := isaPutsRow.holds Try.pinned (OpenSpec.ofChange isaPutsSpec)

/-- ITS FALSE NEIGHBOUR: 'it returns false'. Refute it at one input. -/
def isaPutsWrong : ChangeSpec := { name := "isaPuts", fn := fun _ => fun
  | [d] => { results := [.lit (.bool false)], args := [d] }
  | _ => none }
def IsaPutsWrongFalsely : Prop := isaPutsRow.holds Try.pinned (OpenSpec.ofChange isaPutsWrong)

/-- 'runriglaw20.IsaGets': WHATEVER THE INPUT: true; the input reads as it did. -/
def isaGetsSpec : ChangeSpec := { name := "isaGets", fn := fun _ => fun
  | [d] => { results := [.lit (.bool true)], args := [d] }
  | _ => none }
def isaGetsRow : OpenClaim := { program := "ytcmaneeoblmmmaa", sum := "13bb365282f4672c58f5309dc18cd53fbfcaedd7acd5551230433b7a6a913dbc", func := "runrig/runriglaw20.IsaGets", spec := "isaGets", apart := false }
def IsaGetsSaid : Prop := isaGetsRow.holds Try.pinned (OpenSpec.ofChange isaGetsSpec)

/-- ITS FALSE NEIGHBOUR: 'it returns false'. Refute it at one input. -/
def isaGetsWrong : ChangeSpec := { name := "isaGets", fn := fun _ => fun
  | [d] => { results := [.lit (.bool false)], args := [d] }
  | _ => none }
def IsaGetsWrongFalsely : Prop := isaGetsRow.holds Try.pinned (OpenSpec.ofChange isaGetsWrong)

/-- 'runriglaw20.IsaKinds': WHATEVER THE INPUT: true; the input reads as it did. -/
def isaKindsSpec : ChangeSpec := { name := "isaKinds", fn := fun _ => fun
  | [d] => { results := [.lit (.bool true)], args := [d] }
  | _ => none }
def isaKindsRow : OpenClaim := { program := "ytcmaneeoblmmmaa", sum := "13bb365282f4672c58f5309dc18cd53fbfcaedd7acd5551230433b7a6a913dbc", func := "runrig/runriglaw20.IsaKinds", spec := "isaKinds", apart := false }
def IsaKindsSaid : Prop := isaKindsRow.holds Try.pinned (OpenSpec.ofChange isaKindsSpec)

/-- ITS FALSE NEIGHBOUR: 'it returns false'. Refute it at one input. -/
def isaKindsWrong : ChangeSpec := { name := "isaKinds", fn := fun _ => fun
  | [d] => { results := [.lit (.bool false)], args := [d] }
  | _ => none }
def IsaKindsWrongFalsely : Prop := isaKindsRow.holds Try.pinned (OpenSpec.ofChange isaKindsWrong)

/-- 'runriglaw20.IsaBytes': WHATEVER THE INPUT: true; the input reads as it did. -/
def isaBytesSpec : ChangeSpec := { name := "isaBytes", fn := fun _ => fun
  | [d] => { results := [.lit (.bool true)], args := [d] }
  | _ => none }
def isaBytesRow : OpenClaim := { program := "ytcmaneeoblmmmaa", sum := "13bb365282f4672c58f5309dc18cd53fbfcaedd7acd5551230433b7a6a913dbc", func := "runrig/runriglaw20.IsaBytes", spec := "isaBytes", apart := false }
def IsaBytesSaid : Prop := isaBytesRow.holds Try.pinned (OpenSpec.ofChange isaBytesSpec)

/-- ITS FALSE NEIGHBOUR: 'it returns false'. Refute it at one input. -/
def isaBytesWrong : ChangeSpec := { name := "isaBytes", fn := fun _ => fun
  | [d] => { results := [.lit (.bool false)], args := [d] }
  | _ => none }
def IsaBytesWrongFalsely : Prop := isaBytesRow.holds Try.pinned (OpenSpec.ofChange isaBytesWrong)

/- THE SECOND FORM. 'bulk': how many values and letters a reading holds, each counted each time it is reached (what is shared counts as often as it is met; a slice's spare places count too). A statement '..UptoSaid' is the law's where the arguments, and the package variables that the reading takes, are together of bulk at most 1048576: NARROWER than '..Said'. Prove '..Said' where nothing that the law and all that it calls make is longer than what came in: it says more and counts as full. Else prove '..UptoSaid'. A law counts once. -/
mutual
def uptoBulk {H : Type} : DataW H → Nat
  | .lit (.string bytes) => bytes.length + 1
  | .lit _ => 1
  | .nil => 1
  | .ptr d => uptoBulk d + 1
  | .slice elems spare => uptoBulkAll elems + uptoBulkAll spare + 1
  | .agg parts => uptoBulkAll parts + 1
  | .iface _ d => uptoBulk d + 1
  | .map entries => uptoBulkEntries entries + 1
  | .held _ => 1
def uptoBulkAll {H : Type} : List (DataW H) → Nat
  | [] => 0
  | d :: r => uptoBulk d + uptoBulkAll r
def uptoBulkEntries {H : Type} : List (Lit × DataW H) → Nat
  | [] => 0
  | x :: r => uptoBulkEntry x + uptoBulkEntries r
def uptoBulkEntry {H : Type} : Lit × DataW H → Nat
  | (.string bytes, d) => bytes.length + uptoBulk d + 1
  | (_, d) => uptoBulk d + 1
 end
def uptoSmall : (H : Type) → List (DataW H) → Bool := fun _ ds => decide (uptoBulkAll ds ≤ 1048576)
def OpenSpec.upto (s : _root_.Go.ChangeSpec) : _root_.Go.OpenSpec := { _root_.Go.OpenSpec.ofChange s with cond := some uptoSmall }

/-- 'runriglaw20.IsaPuts', WHERE WHAT IT READS IS OF BULK AT MOST 1048576: true; the input reads as it did. -/
def isaPutsUptoRow : OpenClaim := { program := "ytcmaneeoblmmmaa", sum := "13bb365282f4672c58f5309dc18cd53fbfcaedd7acd5551230433b7a6a913dbc", func := "runrig/runriglaw20.IsaPuts", spec := "isaPuts", apart := false, narrowed := true }
def IsaPutsUptoSaid : Prop := isaPutsUptoRow.holds Try.pinned (OpenSpec.upto isaPutsSpec)

/-- 'runriglaw20.IsaGets', WHERE WHAT IT READS IS OF BULK AT MOST 1048576: true; the input reads as it did. -/
def isaGetsUptoRow : OpenClaim := { program := "ytcmaneeoblmmmaa", sum := "13bb365282f4672c58f5309dc18cd53fbfcaedd7acd5551230433b7a6a913dbc", func := "runrig/runriglaw20.IsaGets", spec := "isaGets", apart := false, narrowed := true }
def IsaGetsUptoSaid : Prop := isaGetsUptoRow.holds Try.pinned (OpenSpec.upto isaGetsSpec)

/-- 'runriglaw20.IsaKinds', WHERE WHAT IT READS IS OF BULK AT MOST 1048576: true; the input reads as it did. -/
def isaKindsUptoRow : OpenClaim := { program := "ytcmaneeoblmmmaa", sum := "13bb365282f4672c58f5309dc18cd53fbfcaedd7acd5551230433b7a6a913dbc", func := "runrig/runriglaw20.IsaKinds", spec := "isaKinds", apart := false, narrowed := true }
def IsaKindsUptoSaid : Prop := isaKindsUptoRow.holds Try.pinned (OpenSpec.upto isaKindsSpec)

/-- 'runriglaw20.IsaBytes', WHERE WHAT IT READS IS OF BULK AT MOST 1048576: true; the input reads as it did. -/
def isaBytesUptoRow : OpenClaim := { program := "ytcmaneeoblmmmaa", sum := "13bb365282f4672c58f5309dc18cd53fbfcaedd7acd5551230433b7a6a913dbc", func := "runrig/runriglaw20.IsaBytes", spec := "isaBytes", apart := false, narrowed := true }
def IsaBytesUptoSaid : Prop := isaBytesUptoRow.holds Try.pinned (OpenSpec.upto isaBytesSpec)

end Rows
end Go.Proofs.Ytcmaneeoblmmmaa
