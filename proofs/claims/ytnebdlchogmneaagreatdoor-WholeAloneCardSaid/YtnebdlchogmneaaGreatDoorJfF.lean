/- Closed facts of the row: all together. -/
import Derived.Test.YtnebdlchogmneaaGreatDoorJfA
import Derived.Test.YtnebdlchogmneaaGreatDoorJfB
import Derived.Test.YtnebdlchogmneaaGreatDoorJfC
import Derived.Test.YtnebdlchogmneaaGreatDoorJfD
import Derived.Test.YtnebdlchogmneaaGreatDoorJfE
import Derived.Test.YtnebdlchogmneaaGreatDoorJfG
namespace Go.Proofs.YtnebdlchogmneaaGreatDoor
theorem and2 {a b : Bool} (h : a = true) (k : b = true) : (a && b) = true := by rw [h, k]; rfl
set_option maxRecDepth 100000 in
set_option maxHeartbeats 8000000 in
theorem jAll : joinedFacts Tryz.pinned.checked.prog 3 Tryz.f3 Rows.wholeAloneSpec Rows.wholeAloneRow = true := by
  unfold joinedFacts
  repeat' (with_reducible refine and2 ?_ ?_)
  all_goals first | with_reducible exact jIn | with_reducible exact jUn | with_reducible exact jRe | with_reducible exact jNa | with_reducible exact jLo | with_reducible exact jMr | (as_aux_lemma => kernel_rfl)
end Go.Proofs.YtnebdlchogmneaaGreatDoor
