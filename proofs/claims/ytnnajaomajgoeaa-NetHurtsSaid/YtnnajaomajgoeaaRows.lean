/-
  No cell of these rows narrows 'for every input' (looked for: loops, veiled, ifaces, maps, wideKeys, modest, calm, conditions, laid).
  DERIVED. THE GIVEN ROWS OF THIS SEAT. 3 by the template 'for every input the law returns true; each argument reads behind the call as it read before'; 0 by the template 'total and deterministic' (their statements: YtnnajaomajgoeaaTotals.lean).
  GIVEN WITH THE SEED: the statements are not yours to turn. If you find one false, say at which input.
  Laid BY PROGRAM, IN A SANDBOX (cutbox-rows.mjs): the forced cells as the released guide's own fill.sh prints them over the translation bb1193d81eb2808f… (all of the seat's roots in one cut). By AI agents, Wed Nov 11 2026. No macro, syntax, notation, axiom, sorry.
-/
import Derived.Test.YtnnajaomajgoeaaChecked
import GoSem.Claim
import GoSem.ClaimJoined
import GoSem.ClaimMapViews
import Derived.JoinedTies
import Derived.KernelRfl
namespace Go.Proofs.Ytnnajaomajgoeaa
/- THE CELL 'sum', in the pinned program and in every row, IS THE sha256 OF THE DUMP (.gsa) THAT YtnnajaomajgoeaaProg.lean LOADS. Nothing in Lean hashes anything: it is a label: what it is worth is what the hold of that sum in a sandbox is worth. -/
noncomputable def Try.pinned : Pinned := { name := "ytnnajaomajgoeaa", sum := "bb1193d81eb2808fde4d53bfe2fcc61dd356f6594821922ec1c13ffffebef0fa", checked := Try.checked }
namespace Rows
def none {H : Type} : Left H := { results := [], args := [] }

/-- 'runriglaw19.NetPlays': WHATEVER THE INPUT: true; the input reads as it did. -/
def netPlaysSpec : ChangeSpec := { name := "netPlays", fn := fun _ => fun
  | [d] => { results := [.lit (.bool true)], args := [d] }
  | _ => none }
def netPlaysRow : OpenClaim := { program := "ytnnajaomajgoeaa", sum := "bb1193d81eb2808fde4d53bfe2fcc61dd356f6594821922ec1c13ffffebef0fa", func := "runrig/runriglaw19.NetPlays", spec := "netPlays", apart := false }
def NetPlaysSaid : Prop := netPlaysRow.holds Try.pinned (OpenSpec.ofChange netPlaysSpec)

/-- ITS FALSE NEIGHBOUR: 'it returns false'. Refute it at one input. -/
def netPlaysWrong : ChangeSpec := { name := "netPlays", fn := fun _ => fun
  | [d] => { results := [.lit (.bool false)], args := [d] }
  | _ => none }
def NetPlaysWrongFalsely : Prop := netPlaysRow.holds Try.pinned (OpenSpec.ofChange netPlaysWrong)

/-- 'runriglaw19.NetFull': WHATEVER THE INPUT: true; the input reads as it did. -/
def netFullSpec : ChangeSpec := { name := "netFull", fn := fun _ => fun
  | [d1, d2] => { results := [.lit (.bool true)], args := [d1, d2] }
  | _ => none }
def netFullRow : OpenClaim := { program := "ytnnajaomajgoeaa", sum := "bb1193d81eb2808fde4d53bfe2fcc61dd356f6594821922ec1c13ffffebef0fa", func := "runrig/runriglaw19.NetFull", spec := "netFull", apart := false }
def NetFullSaid : Prop := netFullRow.holds Try.pinned (OpenSpec.ofChange netFullSpec)

/-- ITS FALSE NEIGHBOUR: 'it returns false'. Refute it at one input. -/
def netFullWrong : ChangeSpec := { name := "netFull", fn := fun _ => fun
  | [d1, d2] => { results := [.lit (.bool false)], args := [d1, d2] }
  | _ => none }
def NetFullWrongFalsely : Prop := netFullRow.holds Try.pinned (OpenSpec.ofChange netFullWrong)

/-- 'runriglaw19.NetHurts': WHATEVER THE INPUT: true; the input reads as it did. -/
def netHurtsSpec : ChangeSpec := { name := "netHurts", fn := fun _ => fun
  | [d] => { results := [.lit (.bool true)], args := [d] }
  | _ => none }
def netHurtsRow : OpenClaim := { program := "ytnnajaomajgoeaa", sum := "bb1193d81eb2808fde4d53bfe2fcc61dd356f6594821922ec1c13ffffebef0fa", func := "runrig/runriglaw19.NetHurts", spec := "netHurts", apart := false }
def NetHurtsSaid : Prop := netHurtsRow.holds Try.pinned (OpenSpec.ofChange netHurtsSpec)

/-- ITS FALSE NEIGHBOUR: 'it returns false'. Refute it at one input. -/
def netHurtsWrong : ChangeSpec := { name := "netHurts", fn := fun _ => fun
  | [d] => { results := [.lit (.bool false)], args := [d] }
  | _ => none }
def NetHurtsWrongFalsely : Prop := netHurtsRow.holds Try.pinned (OpenSpec.ofChange netHurtsWrong)

/- THE SECOND FORM. 'bulk': how many values and letters a reading holds, each counted each time it is reached (what is shared counts as often as it is met; a slice's spare places count too). A statement '..UptoSaid' is the law's where the arguments, and the package variables that the reading takes, are together of bulk at most 1048576: NARROWER than '..Said'. Prove '..Said' where nothing that the law and all that it calls make is longer than what came in: it says more and counts as full. Else prove '..UptoSaid'. A law counts once. -/
mutual
def uptoBulk {H : Type} : DataW H → Nat
  | .lit (.string bytes) => bytes.length + 1
  | .lit _ => 1
  | .nil => 1
  | .ptr d => uptoBulk d + 1
  | .slice elems spare => uptoBulkAll elems + uptoBulkAll spare + 1
  | .agg parts => uptoBulkAll parts + 1
  | .iface _ d => uptoBulk d + 1
  | .map entries => uptoBulkEntries entries + 1
  | .held _ => 1
def uptoBulkAll {H : Type} : List (DataW H) → Nat
  | [] => 0
  | d :: r => uptoBulk d + uptoBulkAll r
def uptoBulkEntries {H : Type} : List (Lit × DataW H) → Nat
  | [] => 0
  | x :: r => uptoBulkEntry x + uptoBulkEntries r
def uptoBulkEntry {H : Type} : Lit × DataW H → Nat
  | (.string bytes, d) => bytes.length + uptoBulk d + 1
  | (_, d) => uptoBulk d + 1
 end
def uptoSmall : (H : Type) → List (DataW H) → Bool := fun _ ds => decide (uptoBulkAll ds ≤ 1048576)
def OpenSpec.upto (s : _root_.Go.ChangeSpec) : _root_.Go.OpenSpec := { _root_.Go.OpenSpec.ofChange s with cond := some uptoSmall }

/-- 'runriglaw19.NetPlays', WHERE WHAT IT READS IS OF BULK AT MOST 1048576: true; the input reads as it did. -/
def netPlaysUptoRow : OpenClaim := { program := "ytnnajaomajgoeaa", sum := "bb1193d81eb2808fde4d53bfe2fcc61dd356f6594821922ec1c13ffffebef0fa", func := "runrig/runriglaw19.NetPlays", spec := "netPlays", apart := false, narrowed := true }
def NetPlaysUptoSaid : Prop := netPlaysUptoRow.holds Try.pinned (OpenSpec.upto netPlaysSpec)

/-- 'runriglaw19.NetFull', WHERE WHAT IT READS IS OF BULK AT MOST 1048576: true; the input reads as it did. -/
def netFullUptoRow : OpenClaim := { program := "ytnnajaomajgoeaa", sum := "bb1193d81eb2808fde4d53bfe2fcc61dd356f6594821922ec1c13ffffebef0fa", func := "runrig/runriglaw19.NetFull", spec := "netFull", apart := false, narrowed := true }
def NetFullUptoSaid : Prop := netFullUptoRow.holds Try.pinned (OpenSpec.upto netFullSpec)

/-- 'runriglaw19.NetHurts', WHERE WHAT IT READS IS OF BULK AT MOST 1048576: true; the input reads as it did. -/
def netHurtsUptoRow : OpenClaim := { program := "ytnnajaomajgoeaa", sum := "bb1193d81eb2808fde4d53bfe2fcc61dd356f6594821922ec1c13ffffebef0fa", func := "runrig/runriglaw19.NetHurts", spec := "netHurts", apart := false, narrowed := true }
def NetHurtsUptoSaid : Prop := netHurtsUptoRow.holds Try.pinned (OpenSpec.upto netHurtsSpec)

end Rows
end Go.Proofs.Ytnnajaomajgoeaa
