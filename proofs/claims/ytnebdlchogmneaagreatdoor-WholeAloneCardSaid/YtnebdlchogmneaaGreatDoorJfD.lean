/- Closed facts of the row: which variables are named. -/
import Derived.Test.YtnebdlchogmneaaGreatDoorRows
import Derived.JoinedOf
namespace Go.Proofs.YtnebdlchogmneaaGreatDoor
set_option maxRecDepth 100000 in
theorem jNa : (Rows.wholeAloneRow.named == Tryz.pinned.checked.prog.varsNamed 3) = true := by kernel_rfl
end Go.Proofs.YtnebdlchogmneaaGreatDoor
