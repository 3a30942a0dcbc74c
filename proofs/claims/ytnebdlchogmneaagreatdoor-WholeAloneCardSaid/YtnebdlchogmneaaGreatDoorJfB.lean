/- Closed facts of the row: what is not followed. -/
import Derived.Test.YtnebdlchogmneaaGreatDoorRows
import Derived.JoinedOf
namespace Go.Proofs.YtnebdlchogmneaaGreatDoor
set_option maxRecDepth 100000 in
theorem jUn : (Rows.wholeAloneRow.unfollowed == Tryz.pinned.checked.prog.unfollowed 3) = true := by kernel_rfl
end Go.Proofs.YtnebdlchogmneaaGreatDoor
