/- Closed facts of the row: what is run in place. -/
import Derived.Test.YtnebdlchogmneaaGreatDoorRows
import Derived.JoinedOf
namespace Go.Proofs.YtnebdlchogmneaaGreatDoor
set_option maxRecDepth 100000 in
theorem jIn : (Rows.wholeAloneRow.inPlace == Tryz.pinned.checked.prog.inPlace 3) = true := by kernel_rfl
end Go.Proofs.YtnebdlchogmneaaGreatDoor
