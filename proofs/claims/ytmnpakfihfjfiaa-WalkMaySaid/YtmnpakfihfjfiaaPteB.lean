/- Contracts: Canonical, Vpn, Join, Leaf, Right. -/
import Derived.Test.YtmnpakfihfjfiaaPteA
namespace Go.Proofs.Ytmnpakfihfjfiaa
open Go.RowKit

theorem field64_any (v : Nat) (a n : Int) (w : World) (hv : v < 18446744073709551616) (ha : 0 ≤ a) (hn : 0 < n) (h : a + n = 64) :
    Calls Try.prog 51 #[.int .u64 v, .int .i64 a, .int .i64 n] w fun e w' => e = .returned (.int .u64 ((fieldV v a.toNat n.toNat : Nat) : Int)) ∧ w = w' := by
  have hf : fieldV v a.toNat n.toNat = v / 2 ^ a.toNat := by
    unfold fieldV
    refine Nat.mod_eq_of_lt (Nat.div_lt_of_lt_mul ?_)
    rw [← Nat.pow_add, show a.toNat + n.toNat = 64 by omega]
    exact hv
  have HF := Lib.hid hf
  have hp := Nat.two_pow_pos a.toNat
  generalize hP : 2 ^ a.toNat = P at hp hf
  have HP := Lib.hid hP
  have e64 : ((a + n : Int) == 64) = true := by rw [beq_iff_eq]; omega
  have hd := div_u64 v P hv
  have hz : ¬ (P = 0) := by omega
  have HH := Lib.hid h
  have b1 : a ≤ 63 := by omega
  have b2 : n ≤ 64 := by omega
  clear hP hf h hv
  go_enter Try.func51, Try.ntmps51
  go_wp2_with (go_at_call 52; refine (pow_any _ _ ha (by have := HH.out; omega)).mono ?_; rintro e w' ⟨rfl, rfl⟩; rw [HP.out])
  go_ret
  exact ⟨by rw [HF.out, HP.out, Int.natCast_ediv]; rfl, rfl⟩

def canonB (va : Nat) : Bool := ((fieldV va 38 26 : Nat) : Int) == 0 || ((fieldV va 38 26 : Nat) : Int) == 67108863

theorem canon_any (va : Nat) (w : World) (hv : va < 18446744073709551616) :
    Calls Try.prog 20 #[.int .u64 va] w fun e w' => e = .returned (.bool (canonB va)) ∧ w = w' := by
  have HV := Lib.hid hv
  clear hv
  go_enter Try.func20, Try.ntmps20
  go_wp2
  go_ret
  refine ⟨?_, rfl⟩
  refine congrArg (fun b => Ending.returned (.bool b)) ?_
  show (IntKind.u64.wrap (wrap64 (wrap64 (va : Int) * 33554432) / 33554432) == (va : Int)) = canonB va
  have hv := HV.out
  rw [Bool.eq_iff_iff]
  simp only [canonB, fieldV, beq_iff_eq, Bool.or_eq_true, IntKind.wrap_u64, wrap64, Nat.reducePow]
  omega

theorem rcanon_any (va : Nat) (w : World) (hv : va < 18446744073709551616) :
    Calls Try.prog 36 #[.int .u64 va] w fun e w' => e = .returned (.bool (canonB va)) ∧ w = w' := by
  have HV := Lib.hid hv
  clear hv
  go_enter Try.func36, Try.ntmps36
  go_wp2_with (first | (go_at_call 51; refine (field64_any _ _ _ _ HV.out (by decide) (by decide) (by decide)).mono ?_; rintro e w' ⟨rfl, rfl⟩) | (go_at_call 52; refine (pow_any _ _ (by decide) (by decide)).mono ?_; rintro e w' ⟨rfl, rfl⟩; rw [show ((2 ^ (26 : Int).toNat : Nat) : Int) = 67108864 from rfl]))
  all_goals (go_ret; refine ⟨?_, rfl⟩; first | rfl | simp [canonB, *])

def vpnV (va : Nat) : Nat := va / 4096 % 134217728
theorem and_high (x k j : Nat) (hx : x < 2 ^ (k + j)) : x &&& (2 ^ (k + j) - 2 ^ k) = x / 2 ^ k * 2 ^ k := by
  have e : 2 ^ (k + j) - 2 ^ k = 2 ^ k * (2 ^ j - 1) := by rw [Nat.pow_add, Nat.mul_sub, Nat.mul_one]
  rw [e]
  have h1 : (x &&& 2 ^ k * (2 ^ j - 1)) % 2 ^ k = 0 := by
    rw [Nat.and_mod_two_pow, Nat.mul_mod_right, Nat.and_zero]
  have h2 : (x &&& 2 ^ k * (2 ^ j - 1)) / 2 ^ k = x / 2 ^ k := by
    rw [Nat.and_div_two_pow, Nat.mul_div_cancel_left _ (Nat.two_pow_pos k), Nat.and_two_pow_sub_one_eq_mod]
    exact Nat.mod_eq_of_lt (Nat.div_lt_of_lt_mul (by rw [← Nat.pow_add]; exact hx))
  have h3 := Nat.div_add_mod (x &&& 2 ^ k * (2 ^ j - 1)) (2 ^ k)
  rw [h1, h2, Nat.add_zero, Nat.mul_comm] at h3
  exact h3.symm
theorem or_low (a b k : Nat) (hb : b < 2 ^ k) : a * 2 ^ k ||| b = a * 2 ^ k + b := by
  rw [Nat.mul_comm, ← Nat.two_pow_add_eq_or_of_lt hb]
theorem join_eq (ppn va k j S : Nat) (m : Int) (hk : k + j = 64) (hS : S = 2 ^ k) (hm : m = ((2 ^ k - 1 : Nat) : Int)) (hk1 : k ≤ 63) (hv : va < 18446744073709551616) :
    bits .or .u64 (bits .andNot .u64 (IntKind.u64.wrap ((ppn : Int) * 4096)) m) (bits .and .u64 (va : Int) m) = (((ppn * 4096 % 18446744073709551616) / S * S + va % S : Nat) : Int) := by
  have h1 : 2 ^ k ≤ 2 ^ 63 := Nat.pow_le_pow_right (by decide) hk1
  have h2 := Nat.two_pow_pos k
  have e1 : IntKind.u64.wrap ((ppn : Int) * 4096) = ((ppn * 4096 % 18446744073709551616 : Nat) : Int) := by rw [IntKind.wrap_u64]; omega
  have hlt : ppn * 4096 % 18446744073709551616 < 18446744073709551616 := Nat.mod_lt _ (by decide)
  rw [and_mask va k m hk1 hm hv, e1, hm]
  generalize ppn * 4096 % 18446744073709551616 = x at *
  have e2 := u64_andNot_nat x (2 ^ k - 1) hlt (by omega)
  rw [e2]
  have e3 : 18446744073709551615 - (2 ^ k - 1) = 2 ^ (k + j) - 2 ^ k := by
    rw [hk]; omega
  have hxx : x < 2 ^ (k + j) := by rw [hk]; exact hlt
  rw [e3, and_high x k j hxx]
  have h4 : x / 2 ^ k * 2 ^ k ≤ x := Nat.div_mul_le_self _ _
  have h5 : va % 2 ^ k < 2 ^ k := Nat.mod_lt _ h2
  rw [bits_or_u64_nat _ _ (by omega) (by omega), or_low _ _ _ h5, hS]

/-- A frame's number and an address. -/
def joinV (ppn va : Nat) (n : Int) : Nat := if levelB n then (ppn * 4096 % 18446744073709551616) / spanV n * spanV n + va % spanV n else 0

theorem join_any (ppn va : Nat) (n : Int) (w : World) (hp : ppn < 18446744073709551616) (hv : va < 18446744073709551616) :
    Calls Try.prog 26 #[.int .u64 ppn, .int .u64 va, .int .i64 n] w fun e w' => e = .returned (.int .u64 ((joinV ppn va n : Nat) : Int)) ∧ w = w' := by
  rcases Bool.eq_false_or_eq_true (levelB n) with h1 | h1
  · rcases level_cases h1 with rfl | rfl | rfl
    all_goals
      have H1 := Lib.hid h1
      have HV := Lib.hid hv
      have HP := Lib.hid hp
      clear h1 hv hp
      go_enter Try.func26, Try.ntmps26
      go_wp2_with (first | (go_at_call 42; refine (level_any _ _).mono ?_; rintro e w' ⟨rfl, rfl⟩; rw [H1.out]) | (go_at_call 45; refine (span_any _ _).mono ?_; rintro e w' ⟨rfl, rfl⟩; first | rw [show ((spanV 0 : Nat) : Int) = 4096 from rfl] | rw [show ((spanV 1 : Nat) : Int) = 2097152 from rfl] | rw [show ((spanV 2 : Nat) : Int) = 1073741824 from rfl]))
      go_ret
      refine ⟨?_, rfl⟩
      first
      | exact congrArg (fun x => Ending.returned (.int .u64 x)) (join_eq ppn va 12 52 4096 4095 rfl rfl rfl (by decide) HV.out)
      | exact congrArg (fun x => Ending.returned (.int .u64 x)) (join_eq ppn va 21 43 2097152 2097151 rfl rfl rfl (by decide) HV.out)
      | exact congrArg (fun x => Ending.returned (.int .u64 x)) (join_eq ppn va 30 34 1073741824 1073741823 rfl rfl rfl (by decide) HV.out)
  · have H1 := Lib.hid h1
    clear h1
    go_enter Try.func26, Try.ntmps26
    go_wp2_with (go_at_call 42; refine (level_any _ _).mono ?_; rintro e w' ⟨rfl, rfl⟩; rw [H1.out])
    go_ret
    exact ⟨by rw [joinV, H1.out]; rfl, rfl⟩
end Go.Proofs.Ytmnpakfihfjfiaa
