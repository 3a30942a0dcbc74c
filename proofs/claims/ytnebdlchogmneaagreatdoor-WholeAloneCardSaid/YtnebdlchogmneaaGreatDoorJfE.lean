/- Closed facts of the row: what the row goes by. -/
import Derived.Test.YtnebdlchogmneaaGreatDoorRows
import Derived.JoinedOf
import Derived.Stop.Joined
import Derived.SevenTiedAt
namespace Go.Proofs.YtnebdlchogmneaaGreatDoor
set_option maxRecDepth 100000 in
theorem jGo : false = Rows.wholeAloneRow.goesBy Tryz.pinned.checked.prog := by kernel_rfl
set_option maxRecDepth 100000 in
theorem jLk : true = Tryz.pinned.checked.prog.looks [] := by kernel_rfl
end Go.Proofs.YtnebdlchogmneaaGreatDoor
