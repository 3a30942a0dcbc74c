/- The walk of the law PteSpells. -/
import Derived.Test.YtikgdnlnhmikgaaPteE
import Derived.Test.YtikgdnlnhmikgaaOpen
namespace Go.Proofs.Ytikgdnlnhmikgaa
open Go.RowKit

def low39 (va : Nat) : Nat := va % 549755813888
theorem sp_and (va : Nat) (hv : va < 18446744073709551616) : bits .and .u64 (va : Int) 4095 = ((va % 4096 : Nat) : Int) := and_mask va 12 4095 (by decide) rfl hv
theorem sp_or (a k m : Nat) (M : Int) (x : Nat) (ha : a < 2 ^ k) (hx : x < 512) (hk : k ≤ 30) (hm : m = 2 ^ k) (hM : M = (m : Int)) :
    bits .or .u64 (a : Int) (IntKind.u64.wrap (IntKind.u64.wrap (x : Int) * M)) = ((a + x * m : Nat) : Int) := by
  have h1 : 2 ^ k ≤ 2 ^ 30 := Nat.pow_le_pow_right (by decide) hk
  subst hM hm
  have h2 : x * 2 ^ k ≤ 511 * 2 ^ k := Nat.mul_le_mul_right _ (by omega)
  rw [IntWalk.u64_in (x : Int) (by omega)]
  have e : (x : Int) * ((2 ^ k : Nat) : Int) = ((x * 2 ^ k : Nat) : Int) := by simp
  rw [e, IntWalk.u64_in _ (by omega), bits_or_u64_nat _ _ (by omega) (by omega), Nat.or_comm, or_low x a k ha]
  omega

theorem index_unf (va : Nat) : indexV va 0 = va / 4096 % 512 ∧ indexV va 1 = va / 2097152 % 512 ∧ indexV va 2 = va / 1073741824 % 512 := ⟨rfl, rfl, rfl⟩
theorem spell_low (va : Nat) : va % 4096 + indexV va 0 * 4096 + indexV va 1 * 2097152 + indexV va 2 * 1073741824 = low39 va := by
  obtain ⟨h0, h1, h2⟩ := index_unf va
  rw [h0, h1, h2, low39]
  omega
theorem sp_high (x : Nat) (hx : x < 549755813888) : bits .or .u64 (x : Int) 18446743523953737728 = ((x + 18446743523953737728 : Nat) : Int) := by
  have h := bits_or_u64_nat x (33554431 * 2 ^ 39) (by omega) (by decide)
  rw [show ((33554431 * 2 ^ 39 : Nat) : Int) = 18446743523953737728 from rfl, Nat.or_comm, or_low 33554431 x 39 (by omega)] at h
  rw [h]
  omega
theorem canon_nat (va : Nat) (hv : va < 18446744073709551616) : canonB va = decide (va / 274877906944 = 0 ∨ va / 274877906944 = 67108863) := by
  rw [Bool.eq_iff_iff]
  simp only [canonB, fieldV, beq_iff_eq, Bool.or_eq_true, decide_eq_true_eq, Nat.reducePow]
  omega
theorem sp_canon0 (va : Nat) (hv : va < 18446744073709551616) (h : low39 va / 274877906944 ≠ 1) : (((low39 va : Nat) : Int) == (va : Int)) = canonB va := by
  rw [canon_nat va hv, Bool.eq_iff_iff]
  unfold low39 at *
  simp only [beq_iff_eq, decide_eq_true_eq]
  omega
theorem sp_canon1 (va : Nat) (hv : va < 18446744073709551616) (h : low39 va / 274877906944 = 1) : (((low39 va + 18446743523953737728 : Nat) : Int) == (va : Int)) = canonB va := by
  rw [canon_nat va hv, Bool.eq_iff_iff]
  unfold low39 at *
  simp only [beq_iff_eq, decide_eq_true_eq]
  omega
theorem sp_vpn (va : Nat) (hv : va < 18446744073709551616) : IntKind.u64.wrap (((vpnV va : Nat) : Int) * 4096) / 274877906944 = IntKind.u64.wrap ((va : Int) * 33554432) / 9223372036854775808 := by
  rw [IntKind.wrap_u64, IntKind.wrap_u64, vpnV]
  omega
theorem vpnV_lt (va : Nat) : vpnV va < 134217728 := Nat.mod_lt _ (by decide)
theorem sp_join (va : Nat) (hv : va < 18446744073709551616) : bits .and .u64 ((joinV (vpnV va) va 0 : Nat) : Int) 4095 = ((va % 4096 : Nat) : Int) := by
  have h : joinV (vpnV va) va 0 = (vpnV va * 4096 % 18446744073709551616) / 4096 * 4096 + va % 4096 := rfl
  have := vpnV_lt va
  rw [h, and_mask _ 12 4095 (by decide) rfl (by omega)]
  omega

namespace Law
theorem PteSpells (a0 : Int) (w : World) (w0 : (Lit.int .u64 a0).wf = true) :
    Calls Try.prog 5 #[.int .u64 a0] w fun e w' => e = .returned (.bool true) ∧ Below w.heap.size w w' := by
  obtain ⟨v0, v1⟩ := u64_of_wf w0
  obtain ⟨va, rfl⟩ := Int.eq_ofNat_of_zero_le v0
  have hv : va < 18446744073709551616 := by omega
  have HV := Lib.hid hv
  have i0 : indexV va 0 < 512 := Nat.mod_lt _ (by decide)
  have i1 : indexV va 1 < 512 := Nat.mod_lt _ (by decide)
  have i2 : indexV va 2 < 512 := Nat.mod_lt _ (by decide)
  have e0 := sp_and va hv
  have e1 := sp_or (va % 4096) 12 4096 4096 (indexV va 0) (by omega) i0 (by decide) rfl rfl
  have e2 := sp_or (va % 4096 + indexV va 0 * 4096) 21 2097152 2097152 (indexV va 1) (by omega) i1 (by decide) rfl rfl
  have e3 := sp_or (va % 4096 + indexV va 0 * 4096 + indexV va 1 * 2097152) 30 1073741824 1073741824 (indexV va 2) (by omega) i2 (by decide) rfl rfl
  rw [spell_low] at e3
  have e5 := sp_vpn va hv
  have e6 := sp_join va hv
  have hl : low39 va < 549755813888 := Nat.mod_lt _ (by decide)
  have e4 := sp_high (low39 va) hl
  have hcan : (∃ b, ((((low39 va : Nat) : Int) / 274877906944) == 1) = b ∧ b = false ∧ (((low39 va : Nat) : Int) == (va : Int)) = canonB va) ∨ (∃ b, ((((low39 va : Nat) : Int) / 274877906944) == 1) = b ∧ b = true ∧ (((low39 va + 18446743523953737728 : Nat) : Int) == (va : Int)) = canonB va) := by
    by_cases h : low39 va / 274877906944 = 1
    · exact .inr ⟨_, rfl, by rw [beq_iff_eq]; omega, sp_canon1 va hv h⟩
    · exact .inl ⟨_, rfl, by rw [beq_eq_false_iff_ne]; omega, sp_canon0 va hv h⟩
  have HVP := Lib.hid (vpnV_lt va)
  generalize hX0 : va % 4096 = X0 at *
  generalize hX1 : X0 + indexV va 0 * 4096 = X1 at *
  generalize hX2 : X1 + indexV va 1 * 2097152 = X2 at *
  generalize hX3 : low39 va = X3 at *
  generalize hX4 : X3 + 18446743523953737728 = X4 at *
  clear hX0 hX1 hX2 hX3 hX4 w0 v0 v1 hv i0 i1 i2 hl
  rcases hcan with ⟨b, hb, rfl, hc⟩ | ⟨b, hb, rfl, hc⟩
  all_goals
    go_enter Try.func5, Try.ntmps5
    go_wp2_with (go_at_call 7; refine (first_ok _).mono ?_; rintro e w1 ⟨rfl, hb1⟩; have HB1 := Lib.hid hb1; clear hb1)
    refine wp_loop_rounds 4 ?_
    rw [rounds_succ]
    go_wp2_with (go_at_call 16; refine (index_any _ _ _ HV.out).mono ?_; rintro e w' ⟨rfl, rfl⟩)
    rw [rounds_succ]
    go_wp2_with (go_at_call 16; refine (index_any _ _ _ HV.out).mono ?_; rintro e w' ⟨rfl, rfl⟩)
    rw [rounds_succ]
    go_wp2_with (go_at_call 16; refine (index_any _ _ _ HV.out).mono ?_; rintro e w' ⟨rfl, rfl⟩)
    rw [rounds_succ]
    go_wp2_with (first
    | (go_at_call 17; refine (canon_any _ _ HV.out).mono ?_; rintro e w' ⟨rfl, rfl⟩)
    | (go_at_call 18; refine (vpn_any _ _ HV.out).mono ?_; rintro e w' ⟨rfl, rfl⟩)
    | (go_at_call 19; refine (join_any _ _ _ _ (Nat.lt_trans HVP.out (by decide)) HV.out).mono ?_; rintro e w' ⟨rfl, rfl⟩))
    go_ret
    exact ⟨rfl, HB1.out⟩
end Law
end Go.Proofs.Ytikgdnlnhmikgaa
