/- Closed facts of the row: how the program is laid. -/
import Derived.Test.YtnebdlchogmneaaGreatDoorRows
import Derived.JoinedOf
namespace Go.Proofs.YtnebdlchogmneaaGreatDoor
set_option maxRecDepth 100000 in
theorem jLo : laidOutB Tryz.pinned.checked.prog = true := by kernel_rfl
set_option maxRecDepth 100000 in
theorem jMr : mapsRowed Tryz.pinned.checked.prog = true := by kernel_rfl
end Go.Proofs.YtnebdlchogmneaaGreatDoor
