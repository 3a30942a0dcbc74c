/- Contract of word.Aligned. -/
import Derived.Test.YtmnpakfihfjfiaaByte
namespace Go.Proofs.Ytmnpakfihfjfiaa
open Go.RowKit

def alignedB (v : Nat) (s : Int) : Bool := sizeB s && v % s.toNat == 0

theorem aligned_eq (v k : Nat) (m : Int) (hk : k < 63) (hm : m = ((2 ^ k - 1 : Nat) : Int)) (hv : v < 18446744073709551616) : (bits .and .u64 (v : Int) m == 0) = (v % 2 ^ k == 0) := by
  have h1 : 2 ^ k ≤ 2 ^ 63 := Nat.pow_le_pow_right (by decide) (by omega)
  rw [hm, bits_and_u64_nat _ _ hv (by omega), Nat.and_two_pow_sub_one_eq_mod]
  by_cases h : v % 2 ^ k = 0
  · rw [h]; rfl
  · have h2 : ((v % 2 ^ k : Nat) : Int) ≠ 0 := by omega
    rw [beq_false_of_ne h2, beq_false_of_ne h]

theorem aligned_any (v : Nat) (s : Int) (w : World) (hv : v < 18446744073709551616) :
    Calls Try.prog 47 #[.int .u64 v, .int .i64 s] w fun e w' => e = .returned (.bool (alignedB v s)) ∧ w = w' := by
  rcases Bool.eq_false_or_eq_true (sizeB s) with h1 | h1
  · rcases size_cases h1 with rfl | rfl | rfl | rfl
    all_goals
      have H1 := Lib.hid h1
      have HV := Lib.hid hv
      clear h1 hv
      go_enter Try.func47, Try.ntmps47
      go_wp2_with (go_at_call 46; refine (size_any _ _).mono ?_; rintro e w' ⟨rfl, rfl⟩; rw [H1.out])
      go_ret
      refine ⟨?_, rfl⟩
      unfold alignedB
      rw [H1.out, Bool.true_and]
      first
        | exact congrArg (fun x => Ending.returned (.bool x)) (aligned_eq v 0 0 (by decide) rfl HV.out)
        | exact congrArg (fun x => Ending.returned (.bool x)) (aligned_eq v 1 1 (by decide) rfl HV.out)
        | exact congrArg (fun x => Ending.returned (.bool x)) (aligned_eq v 2 3 (by decide) rfl HV.out)
        | exact congrArg (fun x => Ending.returned (.bool x)) (aligned_eq v 3 7 (by decide) rfl HV.out)
  · have H1 := Lib.hid h1
    clear h1
    go_enter Try.func47, Try.ntmps47
    go_wp2_with (go_at_call 46; refine (size_any _ _).mono ?_; rintro e w' ⟨rfl, rfl⟩; rw [H1.out])
    go_ret
    exact ⟨by simp [alignedB, H1.out], rfl⟩
end Go.Proofs.Ytmnpakfihfjfiaa
