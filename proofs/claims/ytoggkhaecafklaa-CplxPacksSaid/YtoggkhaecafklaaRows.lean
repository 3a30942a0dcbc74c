/-
  No cell of these rows narrows 'for every input' (looked for: loops, veiled, ifaces, maps, wideKeys, modest, calm, conditions, laid).
  DERIVED. THE GIVEN ROWS OF THIS SEAT. 4 by the template 'for every input the law returns true; each argument reads behind the call as it read before'; 0 by the template 'total and deterministic' (their statements: YtoggkhaecafklaaTotals.lean).
  GIVEN WITH THE SEED: the statements are not yours to turn. If you find one false, say at which input.
  Laid BY PROGRAM, IN A SANDBOX (cutbox-rows.mjs): the forced cells as the released guide's own fill.sh prints them over the translation 50cc39e445bd1a9a… (all of the seat's roots in one cut). By AI agents, Wed Nov 11 2026. No macro, syntax, notation, axiom, sorry.
-/
import Derived.Test.YtoggkhaecafklaaChecked
import GoSem.Claim
import GoSem.ClaimJoined
import GoSem.ClaimMapViews
import Derived.JoinedTies
import Derived.KernelRfl
namespace Go.Proofs.Ytoggkhaecafklaa
/- THE CELL 'sum', in the pinned program and in every row, IS THE sha256 OF THE DUMP (.gsa) THAT YtoggkhaecafklaaProg.lean LOADS. Nothing in Lean hashes anything: it is a label: what it is worth is what the hold of that sum in a sandbox is worth. -/
noncomputable def Try.pinned : Pinned := { name := "ytoggkhaecafklaa", sum := "50cc39e445bd1a9ae973f7b844692ff1d9a27797aa2dc121d35f6b7c6be274cf", checked := Try.checked }
namespace Rows
def none {H : Type} : Left H := { results := [], args := [] }

/-- 'runriglaw04.CplxPacks': WHATEVER THE INPUT: true; the input reads as it did. -/
def cplxPacksSpec : ChangeSpec := { name := "cplxPacks", fn := fun _ => fun
  | [d1, d2, d3] => { results := [.lit (.bool true)], args := [d1, d2, d3] }
  | _ => none }
def cplxPacksRow : OpenClaim := { program := "ytoggkhaecafklaa", sum := "50cc39e445bd1a9ae973f7b844692ff1d9a27797aa2dc121d35f6b7c6be274cf", func := "runrig/runriglaw04.CplxPacks", spec := "cplxPacks", inPlace := ["math.Float32bits", "math.Float32frombits"], recurses := true, apart := false }
def CplxPacksSaid : Prop := cplxPacksRow.holds Try.pinned (OpenSpec.ofChange cplxPacksSpec)

/-- ITS FALSE NEIGHBOUR: 'it returns false'. Refute it at one input. -/
def cplxPacksWrong : ChangeSpec := { name := "cplxPacks", fn := fun _ => fun
  | [d1, d2, d3] => { results := [.lit (.bool false)], args := [d1, d2, d3] }
  | _ => none }
def CplxPacksWrongFalsely : Prop := cplxPacksRow.holds Try.pinned (OpenSpec.ofChange cplxPacksWrong)

/-- 'runriglaw04.CplxTimes': WHATEVER THE INPUT: true; the input reads as it did. -/
def cplxTimesSpec : ChangeSpec := { name := "cplxTimes", fn := fun _ => fun
  | [d1, d2] => { results := [.lit (.bool true)], args := [d1, d2] }
  | _ => none }
def cplxTimesRow : OpenClaim := { program := "ytoggkhaecafklaa", sum := "50cc39e445bd1a9ae973f7b844692ff1d9a27797aa2dc121d35f6b7c6be274cf", func := "runrig/runriglaw04.CplxTimes", spec := "cplxTimes", inPlace := ["math.Float32bits", "math.Float32frombits"], recurses := true, apart := false }
def CplxTimesSaid : Prop := cplxTimesRow.holds Try.pinned (OpenSpec.ofChange cplxTimesSpec)

/-- ITS FALSE NEIGHBOUR: 'it returns false'. Refute it at one input. -/
def cplxTimesWrong : ChangeSpec := { name := "cplxTimes", fn := fun _ => fun
  | [d1, d2] => { results := [.lit (.bool false)], args := [d1, d2] }
  | _ => none }
def CplxTimesWrongFalsely : Prop := cplxTimesRow.holds Try.pinned (OpenSpec.ofChange cplxTimesWrong)

/-- 'runriglaw04.CplxSums': WHATEVER THE INPUT: true; the input reads as it did. -/
def cplxSumsSpec : ChangeSpec := { name := "cplxSums", fn := fun _ => fun
  | [d1, d2] => { results := [.lit (.bool true)], args := [d1, d2] }
  | _ => none }
def cplxSumsRow : OpenClaim := { program := "ytoggkhaecafklaa", sum := "50cc39e445bd1a9ae973f7b844692ff1d9a27797aa2dc121d35f6b7c6be274cf", func := "runrig/runriglaw04.CplxSums", spec := "cplxSums", inPlace := ["math.Float32bits", "math.Float32frombits"], recurses := true, apart := false }
def CplxSumsSaid : Prop := cplxSumsRow.holds Try.pinned (OpenSpec.ofChange cplxSumsSpec)

/-- ITS FALSE NEIGHBOUR: 'it returns false'. Refute it at one input. -/
def cplxSumsWrong : ChangeSpec := { name := "cplxSums", fn := fun _ => fun
  | [d1, d2] => { results := [.lit (.bool false)], args := [d1, d2] }
  | _ => none }
def CplxSumsWrongFalsely : Prop := cplxSumsRow.holds Try.pinned (OpenSpec.ofChange cplxSumsWrong)

/-- 'runriglaw04.CplxRules': WHATEVER THE INPUT: true; the input reads as it did. -/
def cplxRulesSpec : ChangeSpec := { name := "cplxRules", fn := fun _ => fun
  | [d1, d2] => { results := [.lit (.bool true)], args := [d1, d2] }
  | _ => none }
def cplxRulesRow : OpenClaim := { program := "ytoggkhaecafklaa", sum := "50cc39e445bd1a9ae973f7b844692ff1d9a27797aa2dc121d35f6b7c6be274cf", func := "runrig/runriglaw04.CplxRules", spec := "cplxRules", inPlace := ["math.Float32bits", "math.Float32frombits"], recurses := true, apart := false }
def CplxRulesSaid : Prop := cplxRulesRow.holds Try.pinned (OpenSpec.ofChange cplxRulesSpec)

/-- ITS FALSE NEIGHBOUR: 'it returns false'. Refute it at one input. -/
def cplxRulesWrong : ChangeSpec := { name := "cplxRules", fn := fun _ => fun
  | [d1, d2] => { results := [.lit (.bool false)], args := [d1, d2] }
  | _ => none }
def CplxRulesWrongFalsely : Prop := cplxRulesRow.holds Try.pinned (OpenSpec.ofChange cplxRulesWrong)

/- THE SECOND FORM. 'bulk': how many values and letters a reading holds, each counted each time it is reached (what is shared counts as often as it is met; a slice's spare places count too). A statement '..UptoSaid' is the law's where the arguments, and the package variables that the reading takes, are together of bulk at most 1048576: NARROWER than '..Said'. Prove '..Said' where nothing that the law and all that it calls make is longer than what came in: it says more and counts as full. Else prove '..UptoSaid'. A law counts once. -/
mutual
def uptoBulk {H : Type} : DataW H → Nat
  | .lit (.string bytes) => bytes.length + 1
  | .lit _ => 1
  | .nil => 1
  | .ptr d => uptoBulk d + 1
  | .slice elems spare => uptoBulkAll elems + uptoBulkAll spare + 1
  | .agg parts => uptoBulkAll parts + 1
  | .iface _ d => uptoBulk d + 1
  | .map entries => uptoBulkEntries entries + 1
  | .held _ => 1
def uptoBulkAll {H : Type} : List (DataW H) → Nat
  | [] => 0
  | d :: r => uptoBulk d + uptoBulkAll r
def uptoBulkEntries {H : Type} : List (Lit × DataW H) → Nat
  | [] => 0
  | x :: r => uptoBulkEntry x + uptoBulkEntries r
def uptoBulkEntry {H : Type} : Lit × DataW H → Nat
  | (.string bytes, d) => bytes.length + uptoBulk d + 1
  | (_, d) => uptoBulk d + 1
 end
def uptoSmall : (H : Type) → List (DataW H) → Bool := fun _ ds => decide (uptoBulkAll ds ≤ 1048576)
def OpenSpec.upto (s : _root_.Go.ChangeSpec) : _root_.Go.OpenSpec := { _root_.Go.OpenSpec.ofChange s with cond := some uptoSmall }

/-- 'runriglaw04.CplxPacks', WHERE WHAT IT READS IS OF BULK AT MOST 1048576: true; the input reads as it did. -/
def cplxPacksUptoRow : OpenClaim := { program := "ytoggkhaecafklaa", sum := "50cc39e445bd1a9ae973f7b844692ff1d9a27797aa2dc121d35f6b7c6be274cf", func := "runrig/runriglaw04.CplxPacks", spec := "cplxPacks", inPlace := ["math.Float32bits", "math.Float32frombits"], recurses := true, apart := false, narrowed := true }
def CplxPacksUptoSaid : Prop := cplxPacksUptoRow.holds Try.pinned (OpenSpec.upto cplxPacksSpec)

/-- 'runriglaw04.CplxTimes', WHERE WHAT IT READS IS OF BULK AT MOST 1048576: true; the input reads as it did. -/
def cplxTimesUptoRow : OpenClaim := { program := "ytoggkhaecafklaa", sum := "50cc39e445bd1a9ae973f7b844692ff1d9a27797aa2dc121d35f6b7c6be274cf", func := "runrig/runriglaw04.CplxTimes", spec := "cplxTimes", inPlace := ["math.Float32bits", "math.Float32frombits"], recurses := true, apart := false, narrowed := true }
def CplxTimesUptoSaid : Prop := cplxTimesUptoRow.holds Try.pinned (OpenSpec.upto cplxTimesSpec)

/-- 'runriglaw04.CplxSums', WHERE WHAT IT READS IS OF BULK AT MOST 1048576: true; the input reads as it did. -/
def cplxSumsUptoRow : OpenClaim := { program := "ytoggkhaecafklaa", sum := "50cc39e445bd1a9ae973f7b844692ff1d9a27797aa2dc121d35f6b7c6be274cf", func := "runrig/runriglaw04.CplxSums", spec := "cplxSums", inPlace := ["math.Float32bits", "math.Float32frombits"], recurses := true, apart := false, narrowed := true }
def CplxSumsUptoSaid : Prop := cplxSumsUptoRow.holds Try.pinned (OpenSpec.upto cplxSumsSpec)

/-- 'runriglaw04.CplxRules', WHERE WHAT IT READS IS OF BULK AT MOST 1048576: true; the input reads as it did. -/
def cplxRulesUptoRow : OpenClaim := { program := "ytoggkhaecafklaa", sum := "50cc39e445bd1a9ae973f7b844692ff1d9a27797aa2dc121d35f6b7c6be274cf", func := "runrig/runriglaw04.CplxRules", spec := "cplxRules", inPlace := ["math.Float32bits", "math.Float32frombits"], recurses := true, apart := false, narrowed := true }
def CplxRulesUptoSaid : Prop := cplxRulesUptoRow.holds Try.pinned (OpenSpec.upto cplxRulesSpec)

end Rows
end Go.Proofs.Ytoggkhaecafklaa
