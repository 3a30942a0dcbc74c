/- Contracts of word.mask, Cut, Sign, Aligned. -/
import Derived.Test.YtggpmfgmdhfpaaaWordD
namespace Go.Proofs.Ytggpmfgmdhfpaaa
open Go.RowKit

theorem maskV_size_not (s : Int) (h : sizeB s = false) : maskV s = 18446744073709551615 := by
  have := size_not h
  unfold maskV
  rw [if_neg (by omega), if_neg (by omega), if_neg (by omega)]
theorem cutV_size_not (v : Nat) (s : Int) (h : sizeB s = false) : cutV v s = v := by
  have := size_not h
  unfold cutV
  rw [if_neg (by omega), if_neg (by omega), if_neg (by omega)]
theorem signV_size_not (v : Nat) (s : Int) (h : sizeB s = false) : signV v s = v := by
  have := size_not h
  unfold signV
  rw [if_neg (by omega), if_neg (by omega), if_neg (by omega)]

theorem mask_any (s : Int) (w : World) :
    Calls Try.prog 21 #[.int .i64 s] w fun e w' => e = .returned (.int .u64 (maskV s : Nat)) ∧ w = w' := by
  rcases Bool.eq_false_or_eq_true (sizeB s) with h1 | h1
  · rcases size_cases h1 with rfl | rfl | rfl | rfl
    all_goals
      have H1 := Lib.hid h1
      clear h1
      go_enter Try.func21, Try.ntmps21
      go_wp2_with (go_at_call 10; refine (size_any _ _).mono ?_; rintro e w' ⟨rfl, rfl⟩; rw [H1.out])
      go_ret
      exact ⟨rfl, rfl⟩
  · have H1 := Lib.hid h1
    clear h1
    go_enter Try.func21, Try.ntmps21
    go_wp2_with (go_at_call 10; refine (size_any _ _).mono ?_; rintro e w' ⟨rfl, rfl⟩; rw [H1.out])
    go_ret
    exact ⟨by rw [maskV_size_not s H1.out]; rfl, rfl⟩

theorem cut_any (v : Nat) (s : Int) (w : World) (hv : v < 18446744073709551616) :
    Calls Try.prog 14 #[.int .u64 v, .int .i64 s] w fun e w' => e = .returned (.int .u64 (cutV v s : Nat)) ∧ w = w' := by
  have HV := Lib.hid hv
  clear hv
  go_enter Try.func14, Try.ntmps14
  go_wp2_with (go_at_call 21; refine (mask_any _ _).mono ?_; rintro e w' ⟨rfl, rfl⟩)
  go_ret
  refine ⟨?_, rfl⟩
  show Ending.returned (Value.int .u64 (bits .and .u64 (v : Int) (maskV s : Nat))) = _
  rw [bits_and_u64_nat _ _ HV.out (maskV_lt s), cut_and v s HV.out]

theorem sign_any (v : Nat) (s : Int) (w : World) (hv : v < 18446744073709551616) :
    Calls Try.prog 16 #[.int .u64 v, .int .i64 s] w fun e w' => e = .returned (.int .u64 (signV v s : Nat)) ∧ w = w' := by
  have e1 : bits .xor .u64 ((maskV s : Nat) : Int) (((maskV s : Nat) : Int) / 2) = ((signBit s : Nat) : Int) := by
    have := xorShift_u64 (maskV s) 2 (maskV_lt s)
    rw [xor_mask s] at this; exact this
  have hs : signBit s < 18446744073709551616 := by unfold signBit; repeat' split
                                                   all_goals omega
  have e2 : bits .and .u64 (v : Int) ((signBit s : Nat) : Int) = ((v &&& signBit s : Nat) : Int) := bits_and_u64_nat _ _ hv hs
  have HV := Lib.hid hv
  have HS := Lib.hid hs
  clear hs
  by_cases hb : v &&& signBit s = 0
  · have e3 : (((v &&& signBit s : Nat) : Int) != 0) = false := by rw [hb]; rfl
    have HB := Lib.hid hb
    clear hb
    go_enter Try.func16, Try.ntmps16
    go_wp2_with (go_at_call 21; refine (mask_any _ _).mono ?_; rintro e w' ⟨rfl, rfl⟩)
    go_ret
    refine ⟨?_, rfl⟩
    show Ending.returned (Value.int .u64 (bits .and .u64 (v : Int) (maskV s : Nat))) = _
    rw [bits_and_u64_nat _ _ HV.out (maskV_lt s), sign_off v s HV.out HB.out]
  · have e3 : (((v &&& signBit s : Nat) : Int) != 0) = true := by rw [bne_iff_ne]; omega
    have HB := Lib.hid hb
    clear hb
    go_enter Try.func16, Try.ntmps16
    go_wp2_with (go_at_call 21; refine (mask_any _ _).mono ?_; rintro e w' ⟨rfl, rfl⟩)
    go_ret
    refine ⟨?_, rfl⟩
    show Ending.returned (Value.int .u64 (bits .or .u64 (v : Int) (bits .xor .u64 18446744073709551615 (maskV s : Nat)))) = _
    have e4 : bits .xor .u64 18446744073709551615 (maskV s : Nat) = ((18446744073709551615 - maskV s : Nat) : Int) := by
      have h := bits_xor_u64_nat 18446744073709551615 (maskV s) (by decide) (maskV_lt s)
      rw [show (18446744073709551615 ^^^ maskV s) = 18446744073709551615 - maskV s from by unfold maskV; repeat' split
                                                                                           all_goals decide] at h
      exact h
    rw [e4, bits_or_u64_nat _ _ HV.out (by omega), sign_on v s HV.out HB.out]

def alignedB (v : Nat) (s : Int) : Bool := sizeB s && v % s.toNat == 0

theorem aligned_eq (v k : Nat) (m : Int) (hk : k < 63) (hm : m = ((2 ^ k - 1 : Nat) : Int)) (hv : v < 18446744073709551616) : (bits .and .u64 (v : Int) m == 0) = (v % 2 ^ k == 0) := by
  have h1 : 2 ^ k ≤ 2 ^ 63 := Nat.pow_le_pow_right (by decide) (by omega)
  rw [hm, bits_and_u64_nat _ _ hv (by omega), Nat.and_two_pow_sub_one_eq_mod]
  by_cases h : v % 2 ^ k = 0
  · rw [h]; rfl
  · have h2 : ((v % 2 ^ k : Nat) : Int) ≠ 0 := by omega
    rw [beq_false_of_ne h2, beq_false_of_ne h]

theorem aligned_any (v : Nat) (s : Int) (w : World) (hv : v < 18446744073709551616) :
    Calls Try.prog 19 #[.int .u64 v, .int .i64 s] w fun e w' => e = .returned (.bool (alignedB v s)) ∧ w = w' := by
  rcases Bool.eq_false_or_eq_true (sizeB s) with h1 | h1
  · rcases size_cases h1 with rfl | rfl | rfl | rfl
    all_goals
      have H1 := Lib.hid h1
      have HV := Lib.hid hv
      clear h1 hv
      go_enter Try.func19, Try.ntmps19
      go_wp2_with (go_at_call 10; refine (size_any _ _).mono ?_; rintro e w' ⟨rfl, rfl⟩; rw [H1.out])
      go_ret
      refine ⟨?_, rfl⟩
      unfold alignedB
      rw [H1.out, Bool.true_and]
      first
        | exact congrArg (fun x => Ending.returned (.bool x)) (aligned_eq v 0 0 (by decide) rfl HV.out)
        | exact congrArg (fun x => Ending.returned (.bool x)) (aligned_eq v 1 1 (by decide) rfl HV.out)
        | exact congrArg (fun x => Ending.returned (.bool x)) (aligned_eq v 2 3 (by decide) rfl HV.out)
        | exact congrArg (fun x => Ending.returned (.bool x)) (aligned_eq v 3 7 (by decide) rfl HV.out)
  · have H1 := Lib.hid h1
    clear h1
    go_enter Try.func19, Try.ntmps19
    go_wp2_with (go_at_call 10; refine (size_any _ _).mono ?_; rintro e w' ⟨rfl, rfl⟩; rw [H1.out])
    go_ret
    exact ⟨by simp [alignedB, H1.out], rfl⟩
end Go.Proofs.Ytggpmfgmdhfpaaa
