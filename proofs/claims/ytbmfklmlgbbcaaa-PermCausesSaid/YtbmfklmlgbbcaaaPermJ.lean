/- PermCauses. -/
import Derived.Test.YtbmfklmlgbbcaaaPermH
namespace Go.Proofs.Ytbmfklmlgbbcaaa
open Go.RowKit
namespace Law
set_option maxHeartbeats 4000000 in
theorem PermCauses (acc : Int) (W : World) (_ : (Lit.int .i64 acc).wf = true) :
    Calls Try.prog 6 #[.int .i64 acc] W fun e w' => e = .returned (.bool true) ∧ Below W.heap.size W w' := by
  go_enter Try.func6, Try.ntmps6
  go_wp2_with fail
  refine (first_ok _).mono ?_
  rintro e w1 ⟨rfl, hb⟩
  have HB := Lib.hid hb
  clear hb
  go_wp2_with fail
  refine (page_any _ _).mono ?_
  rintro e w' ⟨rfl, rfl⟩
  go_wp2_with fail
  refine (rcause_any _ 12 13 15 _ _ _ (by simp [go_sem]) (by simp [go_sem]) (by simp [go_sem])).mono ?_
  rintro e w' ⟨rfl, rfl⟩
  go_wp2_with fail
  refine (bound_any _ _).mono ?_
  rintro e w' ⟨rfl, rfl⟩
  go_wp2_with fail
  refine (rcause_any _ 1 5 7 _ _ _ (by simp [go_sem]) (by simp [go_sem]) (by simp [go_sem])).mono ?_
  rintro e w' ⟨rfl, rfl⟩
  go_wp2_with fail
  refine (align_any _ _).mono ?_
  rintro e w' ⟨rfl, rfl⟩
  go_wp2_with fail
  refine (rcause_any _ 0 4 6 _ _ _ (by simp [go_sem]) (by simp [go_sem]) (by simp [go_sem])).mono ?_
  rintro e w' ⟨rfl, rfl⟩
  go_wp2
  go_ret
  refine ⟨by simp, ?_⟩
  have b1 := (HB.out)
  exact ((((((b1.alloc b1.size _).alloc (by have := b1.size; simp; omega) _).alloc (by have := b1.size; simp; omega) _).alloc (by have := b1.size; simp; omega) _).alloc (by have := b1.size; simp; omega) _).alloc (by have := b1.size; simp; omega) _)
end Law
end Go.Proofs.Ytbmfklmlgbbcaaa
