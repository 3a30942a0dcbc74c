/-
  No cell of these rows narrows 'for every input' (looked for: loops, veiled, ifaces, maps, wideKeys, modest, calm, conditions, laid).
  DERIVED. THE GIVEN ROWS OF THIS SEAT. 5 by the template 'for every input the law returns true; each argument reads behind the call as it read before'; 0 by the template 'total and deterministic' (their statements: YtkiicgdfibncfaaTotals.lean).
  GIVEN WITH THE SEED: the statements are not yours to turn. If you find one false, say at which input.
  Laid BY PROGRAM, IN A SANDBOX (cutbox-rows.mjs): the forced cells as the released guide's own fill.sh prints them over the translation df777b2d8eb2fddf… (all of the seat's roots in one cut). By AI agents, Wed Nov 11 2026. No macro, syntax, notation, axiom, sorry.
-/
import Derived.Test.YtkiicgdfibncfaaChecked
import GoSem.Claim
import GoSem.ClaimJoined
import GoSem.ClaimMapViews
import Derived.JoinedTies
import Derived.KernelRfl
namespace Go.Proofs.Ytkiicgdfibncfaa
/- THE CELL 'sum', in the pinned program and in every row, IS THE sha256 OF THE DUMP (.gsa) THAT YtkiicgdfibncfaaProg.lean LOADS. Nothing in Lean hashes anything: it is a label: what it is worth is what the hold of that sum in a sandbox is worth. -/
noncomputable def Try.pinned : Pinned := { name := "ytkiicgdfibncfaa", sum := "df777b2d8eb2fddf8f1b3492f50d2eeed8a8fb9cdf8f8cd47a0afddbb1209451", checked := Try.checked }
namespace Rows
def none {H : Type} : Left H := { results := [], args := [] }

/-- 'runriglaw32.SchedNumbers': WHATEVER THE INPUT: true; the input reads as it did. -/
def schedNumbersSpec : ChangeSpec := { name := "schedNumbers", fn := fun _ => fun
  | [d1, d2] => { results := [.lit (.bool true)], args := [d1, d2] }
  | _ => none }
def schedNumbersRow : OpenClaim := { program := "ytkiicgdfibncfaa", sum := "df777b2d8eb2fddf8f1b3492f50d2eeed8a8fb9cdf8f8cd47a0afddbb1209451", func := "runrig/runriglaw32.SchedNumbers", spec := "schedNumbers", apart := false }
def SchedNumbersSaid : Prop := schedNumbersRow.holds Try.pinned (OpenSpec.ofChange schedNumbersSpec)

/-- ITS FALSE NEIGHBOUR: 'it returns false'. Refute it at one input. -/
def schedNumbersWrong : ChangeSpec := { name := "schedNumbers", fn := fun _ => fun
  | [d1, d2] => { results := [.lit (.bool false)], args := [d1, d2] }
  | _ => none }
def SchedNumbersWrongFalsely : Prop := schedNumbersRow.holds Try.pinned (OpenSpec.ofChange schedNumbersWrong)

/-- 'runriglaw32.SchedRobins': WHATEVER THE INPUT: true; the input reads as it did. -/
def schedRobinsSpec : ChangeSpec := { name := "schedRobins", fn := fun _ => fun
  | [d1, d2, d3] => { results := [.lit (.bool true)], args := [d1, d2, d3] }
  | _ => none }
def schedRobinsRow : OpenClaim := { program := "ytkiicgdfibncfaa", sum := "df777b2d8eb2fddf8f1b3492f50d2eeed8a8fb9cdf8f8cd47a0afddbb1209451", func := "runrig/runriglaw32.SchedRobins", spec := "schedRobins", apart := false }
def SchedRobinsSaid : Prop := schedRobinsRow.holds Try.pinned (OpenSpec.ofChange schedRobinsSpec)

/-- ITS FALSE NEIGHBOUR: 'it returns false'. Refute it at one input. -/
def schedRobinsWrong : ChangeSpec := { name := "schedRobins", fn := fun _ => fun
  | [d1, d2, d3] => { results := [.lit (.bool false)], args := [d1, d2, d3] }
  | _ => none }
def SchedRobinsWrongFalsely : Prop := schedRobinsRow.holds Try.pinned (OpenSpec.ofChange schedRobinsWrong)

/-- 'runriglaw32.SchedRandoms': WHATEVER THE INPUT: true; the input reads as it did. -/
def schedRandomsSpec : ChangeSpec := { name := "schedRandoms", fn := fun _ => fun
  | [d1, d2, d3] => { results := [.lit (.bool true)], args := [d1, d2, d3] }
  | _ => none }
def schedRandomsRow : OpenClaim := { program := "ytkiicgdfibncfaa", sum := "df777b2d8eb2fddf8f1b3492f50d2eeed8a8fb9cdf8f8cd47a0afddbb1209451", func := "runrig/runriglaw32.SchedRandoms", spec := "schedRandoms", apart := false }
def SchedRandomsSaid : Prop := schedRandomsRow.holds Try.pinned (OpenSpec.ofChange schedRandomsSpec)

/-- ITS FALSE NEIGHBOUR: 'it returns false'. Refute it at one input. -/
def schedRandomsWrong : ChangeSpec := { name := "schedRandoms", fn := fun _ => fun
  | [d1, d2, d3] => { results := [.lit (.bool false)], args := [d1, d2, d3] }
  | _ => none }
def SchedRandomsWrongFalsely : Prop := schedRandomsRow.holds Try.pinned (OpenSpec.ofChange schedRandomsWrong)

/-- 'runriglaw32.SchedWeaves': WHATEVER THE INPUT: true; the input reads as it did. -/
def schedWeavesSpec : ChangeSpec := { name := "schedWeaves", fn := fun _ => fun
  | [d1, d2] => { results := [.lit (.bool true)], args := [d1, d2] }
  | _ => none }
def schedWeavesRow : OpenClaim := { program := "ytkiicgdfibncfaa", sum := "df777b2d8eb2fddf8f1b3492f50d2eeed8a8fb9cdf8f8cd47a0afddbb1209451", func := "runrig/runriglaw32.SchedWeaves", spec := "schedWeaves", apart := false }
def SchedWeavesSaid : Prop := schedWeavesRow.holds Try.pinned (OpenSpec.ofChange schedWeavesSpec)

/-- ITS FALSE NEIGHBOUR: 'it returns false'. Refute it at one input. -/
def schedWeavesWrong : ChangeSpec := { name := "schedWeaves", fn := fun _ => fun
  | [d1, d2] => { results := [.lit (.bool false)], args := [d1, d2] }
  | _ => none }
def SchedWeavesWrongFalsely : Prop := schedWeavesRow.holds Try.pinned (OpenSpec.ofChange schedWeavesWrong)

/-- 'runriglaw32.SchedKeeps': WHATEVER THE INPUT: true; the input reads as it did. -/
def schedKeepsSpec : ChangeSpec := { name := "schedKeeps", fn := fun _ => fun
  | [d1, d2, d3] => { results := [.lit (.bool true)], args := [d1, d2, d3] }
  | _ => none }
def schedKeepsRow : OpenClaim := { program := "ytkiicgdfibncfaa", sum := "df777b2d8eb2fddf8f1b3492f50d2eeed8a8fb9cdf8f8cd47a0afddbb1209451", func := "runrig/runriglaw32.SchedKeeps", spec := "schedKeeps", apart := false }
def SchedKeepsSaid : Prop := schedKeepsRow.holds Try.pinned (OpenSpec.ofChange schedKeepsSpec)

/-- ITS FALSE NEIGHBOUR: 'it returns false'. Refute it at one input. -/
def schedKeepsWrong : ChangeSpec := { name := "schedKeeps", fn := fun _ => fun
  | [d1, d2, d3] => { results := [.lit (.bool false)], args := [d1, d2, d3] }
  | _ => none }
def SchedKeepsWrongFalsely : Prop := schedKeepsRow.holds Try.pinned (OpenSpec.ofChange schedKeepsWrong)

/- THE SECOND FORM. 'bulk': how many values and letters a reading holds, each counted each time it is reached (what is shared counts as often as it is met; a slice's spare places count too). A statement '..UptoSaid' is the law's where the arguments, and the package variables that the reading takes, are together of bulk at most 1048576: NARROWER than '..Said'. Prove '..Said' where nothing that the law and all that it calls make is longer than what came in: it says more and counts as full. Else prove '..UptoSaid'. A law counts once. -/
mutual
def uptoBulk {H : Type} : DataW H → Nat
  | .lit (.string bytes) => bytes.length + 1
  | .lit _ => 1
  | .nil => 1
  | .ptr d => uptoBulk d + 1
  | .slice elems spare => uptoBulkAll elems + uptoBulkAll spare + 1
  | .agg parts => uptoBulkAll parts + 1
  | .iface _ d => uptoBulk d + 1
  | .map entries => uptoBulkEntries entries + 1
  | .held _ => 1
def uptoBulkAll {H : Type} : List (DataW H) → Nat
  | [] => 0
  | d :: r => uptoBulk d + uptoBulkAll r
def uptoBulkEntries {H : Type} : List (Lit × DataW H) → Nat
  | [] => 0
  | x :: r => uptoBulkEntry x + uptoBulkEntries r
def uptoBulkEntry {H : Type} : Lit × DataW H → Nat
  | (.string bytes, d) => bytes.length + uptoBulk d + 1
  | (_, d) => uptoBulk d + 1
 end
def uptoSmall : (H : Type) → List (DataW H) → Bool := fun _ ds => decide (uptoBulkAll ds ≤ 1048576)
def OpenSpec.upto (s : _root_.Go.ChangeSpec) : _root_.Go.OpenSpec := { _root_.Go.OpenSpec.ofChange s with cond := some uptoSmall }

/-- 'runriglaw32.SchedNumbers', WHERE WHAT IT READS IS OF BULK AT MOST 1048576: true; the input reads as it did. -/
def schedNumbersUptoRow : OpenClaim := { program := "ytkiicgdfibncfaa", sum := "df777b2d8eb2fddf8f1b3492f50d2eeed8a8fb9cdf8f8cd47a0afddbb1209451", func := "runrig/runriglaw32.SchedNumbers", spec := "schedNumbers", apart := false, narrowed := true }
def SchedNumbersUptoSaid : Prop := schedNumbersUptoRow.holds Try.pinned (OpenSpec.upto schedNumbersSpec)

/-- 'runriglaw32.SchedRobins', WHERE WHAT IT READS IS OF BULK AT MOST 1048576: true; the input reads as it did. -/
def schedRobinsUptoRow : OpenClaim := { program := "ytkiicgdfibncfaa", sum := "df777b2d8eb2fddf8f1b3492f50d2eeed8a8fb9cdf8f8cd47a0afddbb1209451", func := "runrig/runriglaw32.SchedRobins", spec := "schedRobins", apart := false, narrowed := true }
def SchedRobinsUptoSaid : Prop := schedRobinsUptoRow.holds Try.pinned (OpenSpec.upto schedRobinsSpec)

/-- 'runriglaw32.SchedRandoms', WHERE WHAT IT READS IS OF BULK AT MOST 1048576: true; the input reads as it did. -/
def schedRandomsUptoRow : OpenClaim := { program := "ytkiicgdfibncfaa", sum := "df777b2d8eb2fddf8f1b3492f50d2eeed8a8fb9cdf8f8cd47a0afddbb1209451", func := "runrig/runriglaw32.SchedRandoms", spec := "schedRandoms", apart := false, narrowed := true }
def SchedRandomsUptoSaid : Prop := schedRandomsUptoRow.holds Try.pinned (OpenSpec.upto schedRandomsSpec)

/-- 'runriglaw32.SchedWeaves', WHERE WHAT IT READS IS OF BULK AT MOST 1048576: true; the input reads as it did. -/
def schedWeavesUptoRow : OpenClaim := { program := "ytkiicgdfibncfaa", sum := "df777b2d8eb2fddf8f1b3492f50d2eeed8a8fb9cdf8f8cd47a0afddbb1209451", func := "runrig/runriglaw32.SchedWeaves", spec := "schedWeaves", apart := false, narrowed := true }
def SchedWeavesUptoSaid : Prop := schedWeavesUptoRow.holds Try.pinned (OpenSpec.upto schedWeavesSpec)

/-- 'runriglaw32.SchedKeeps', WHERE WHAT IT READS IS OF BULK AT MOST 1048576: true; the input reads as it did. -/
def schedKeepsUptoRow : OpenClaim := { program := "ytkiicgdfibncfaa", sum := "df777b2d8eb2fddf8f1b3492f50d2eeed8a8fb9cdf8f8cd47a0afddbb1209451", func := "runrig/runriglaw32.SchedKeeps", spec := "schedKeeps", apart := false, narrowed := true }
def SchedKeepsUptoSaid : Prop := schedKeepsUptoRow.holds Try.pinned (OpenSpec.upto schedKeepsSpec)

end Rows
end Go.Proofs.Ytkiicgdfibncfaa
