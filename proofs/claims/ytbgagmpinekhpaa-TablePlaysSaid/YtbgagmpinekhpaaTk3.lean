/- Merged texts: PteA, PteB, PteC, PteD, PteG, PteH. -/
import Derived.Test.YtbgagmpinekhpaaTk2
import Derived.Test.YtbgagmpinekhpaaPlan
import Derived.IntWalk
import Derived.Laws.BitsAllLaws
import Derived.Laws.Bits64b
import Derived.BigRegion
/- Contracts of the packages pte and its reference: numbers of addresses. -/
namespace Go.Proofs.Ytbgagmpinekhpaa
open Go.RowKit

def levelB (n : Int) : Bool := n == 0 || n == 1 || n == 2
theorem level_cases {n : Int} (h : levelB n = true) : n = 0 ∨ n = 1 ∨ n = 2 := by simp [levelB] at h; omega
theorem level_not {n : Int} (h : levelB n = false) : n < 0 ∨ 2 < n := by simp [levelB] at h; omega
theorem levelB_eq (n : Int) : levelB n = (decide (0 ≤ n) && decide (n < 3)) := by
  rw [Bool.eq_iff_iff]; simp [levelB]; omega

theorem level_any (n : Int) (w : World) :
    Calls Try.prog 65 #[.int .i64 n] w fun e w' => e = .returned (.bool (levelB n)) ∧ w = w' := by
  rw [levelB_eq]
  go_enter Try.func65, Try.ntmps65
  go_wp2
  all_goals (go_ret; refine ⟨?_, rfl⟩; first | rfl | (simp [*]; done) | (simp [*]; omega))
theorem rlevel_any (n : Int) (w : World) :
    Calls Try.prog 61 #[.int .i64 n] w fun e w' => e = .returned (.bool (levelB n)) ∧ w = w' := by
  unfold levelB
  go_enter Try.func61, Try.ntmps61
  go_wp2
  all_goals (go_ret; refine ⟨?_, rfl⟩; first | rfl | simp [*])

theorem wrap_dbl (i : Nat) (h : i < 63) : IntKind.u64.wrap (((2 ^ i : Nat) : Int) * 2) = ((2 ^ (i + 1) : Nat) : Int) := by
  have h1 : 2 ^ i ≤ 2 ^ 62 := Nat.pow_le_pow_right (by decide) (by omega)
  rw [Nat.pow_succ]
  generalize 2 ^ i = P at *
  rw [IntWalk.u64_in _ (by omega)]
  omega
theorem pow_any (k : Int) (w : World) (h0 : 0 ≤ k) (h1 : k ≤ 63) :
    Calls Try.prog 58 #[.int .i64 k] w fun e w' => e = .returned (.int .u64 ((2 ^ k.toNat : Nat) : Int)) ∧ w = w' := by
  obtain ⟨n, rfl⟩ := Int.eq_ofNat_of_zero_le h0
  have hn : n ≤ 63 := by omega
  clear h0 h1
  rw [show (n : Int).toNat = n from rfl]
  go_enter Try.func58, Try.ntmps58
  go_wp2
  go_loop [3, 4] (fun p i => ∃ j : Nat, j ≤ n ∧ i = .int .i64 j ∧ p = .int .u64 ((2 ^ j : Nat) : Int)) (fun _ i => (n - intOf i).toNat)
  case atStart => exact ⟨0, by omega, rfl, rfl⟩
  case round =>
    obtain ⟨j, hj, rfl, rfl⟩ := hrel
    by_cases hlt : j < n
    · have hw := wrap_dbl j (by omega)
      have HW := Lib.hid hw
      clear hw
      go_wp2
      have hw := HW.out
      rw [Int.natCast_pow, Int.natCast_pow] at hw
      exact ⟨⟨j + 1, by omega, by go_num, by rw [Int.natCast_pow]; exact congrArg (Value.int .u64) hw⟩, by simp [intOf]; omega⟩
    · obtain rfl : j = n := by omega
      go_wp2
      go_ret
      exact ⟨by simp, rfl⟩

def fieldV (v a n : Nat) : Nat := v / 2 ^ a % 2 ^ n
theorem fieldV_lt (v a n : Nat) : fieldV v a n < 2 ^ n := Nat.mod_lt _ (Nat.two_pow_pos n)
theorem div_u64 (v P : Nat) (hv : v < 18446744073709551616) : IntKind.u64.wrap ((v : Int) / (P : Int)) = (v : Int) / (P : Int) := by
  have h : v / P ≤ v := Nat.div_le_self _ _
  rw [← Int.natCast_ediv]
  generalize v / P = x at *
  exact IntWalk.u64_in _ (by omega)
theorem fin_field (v P R : Nat) : ((v : Int) / (P : Int)).tmod (R : Int) = ((v / P % R : Nat) : Int) := by
  rw [← Int.natCast_ediv, Int.tmod_eq_emod_of_nonneg (Int.natCast_nonneg _), ← Int.natCast_emod]

theorem field_any (v : Nat) (a n : Int) (w : World) (hv : v < 18446744073709551616) (ha : 0 ≤ a) (hn : 0 ≤ n) (hn63 : n ≤ 63) (h : a + n ≤ 63) :
    Calls Try.prog 57 #[.int .u64 v, .int .i64 a, .int .i64 n] w fun e w' => e = .returned (.int .u64 ((fieldV v a.toNat n.toNat : Nat) : Int)) ∧ Below w.heap.size w w' := by
  unfold fieldV
  have hp := Nat.two_pow_pos a.toNat
  generalize hP : 2 ^ a.toNat = P at hp ⊢
  have hr := Nat.two_pow_pos n.toNat
  generalize hR : 2 ^ n.toNat = R at hr ⊢
  have HP := Lib.hid hP
  have HR := Lib.hid hR
  clear hP hR
  have e64 : ((a + n : Int) == 64) = false := by rw [beq_eq_false_iff_ne]; omega
  go_enter Try.func57, Try.ntmps57
  go_wp2_with fail
  refine wp_region_plan [(0, false), (1, false), (4, false), (2, true), (3, false), (5, true), (6, false), (7, false)] (by kernel_rfl) (by kernel_rfl) (fun _ d _ _ _ h => by cases d <;> exact h) ?_
  iterate 3 (refine plan_take (v := ?_) rfl (by kernel_rfl) ?_ ?_; rotate_left; (focus (intro w' hw'; try go_simp; try with_reducible rfl)); simp only [Act.put, List.setIfInBounds_toArray, List.set_cons_zero, List.set_cons_succ])
  refine plan_call rfl (by kernel_rfl) (by go_simp; exact ⟨rfl, rfl⟩) ?_
  refine (pow_any a _ ha (by omega)).mono ?_
  rintro e w' ⟨rfl, rfl⟩
  rw [HP.out]
  refine ⟨_, rfl, Ext.refl _, ?_⟩
  simp only [Act.put, List.setIfInBounds_toArray, List.set_cons_zero, List.set_cons_succ]
  have hz : ¬ (P = 0) := by omega
  have hd := div_u64 v P hv
  iterate 1 (refine plan_take (v := ?_) rfl (by kernel_rfl) ?_ ?_; rotate_left; (focus (intro w' hw'; try go_simp; try with_reducible rfl)); simp only [Act.put, List.setIfInBounds_toArray, List.set_cons_zero, List.set_cons_succ])
  refine plan_call rfl (by kernel_rfl) (by go_simp; exact ⟨rfl, rfl⟩) ?_
  refine (pow_any n _ hn hn63).mono ?_
  rintro e w' ⟨rfl, rfl⟩
  rw [HR.out]
  refine ⟨_, rfl, Ext.refl _, ?_⟩
  simp only [Act.put, List.setIfInBounds_toArray, List.set_cons_zero, List.set_cons_succ]
  have hzr : ¬ (R = 0) := by omega
  iterate 2 (refine plan_take (v := ?_) rfl (by kernel_rfl) ?_ ?_; rotate_left; (focus (intro w' hw'; try go_simp; try with_reducible rfl)); simp only [Act.put, List.setIfInBounds_toArray, List.set_cons_zero, List.set_cons_succ])
  refine plan_end ?_
  clear hd hz hzr
  go_wp2
  go_ret
  exact ⟨by rw [← fin_field]; rfl, (Below.refl _ _).drew⟩

/-! Numbers of an address. -/
def shV (n : Int) : Nat := if n = 0 then 12 else if n = 1 then 21 else 30
def indexV (va : Nat) (n : Int) : Nat := if levelB n then fieldV va (shV n) 9 else 0
def spanV (n : Int) : Nat := if levelB n then 2 ^ shV n else 0
theorem indexV_not (va : Nat) (n : Int) (h : levelB n = false) : indexV va n = 0 := by simp [indexV, h]
theorem spanV_not (n : Int) (h : levelB n = false) : spanV n = 0 := by simp [spanV, h]
theorem and_mask (v k : Nat) (m : Int) (hk : k ≤ 63) (hm : m = ((2 ^ k - 1 : Nat) : Int)) (hv : v < 18446744073709551616) : bits .and .u64 (v : Int) m = ((v % 2 ^ k : Nat) : Int) := by
  have h1 : 2 ^ k ≤ 2 ^ 63 := Nat.pow_le_pow_right (by decide) hk
  have h2 := Nat.two_pow_pos k
  rw [hm, bits_and_u64_nat _ _ hv (by omega), Nat.and_two_pow_sub_one_eq_mod]
theorem index_eq (va k : Nat) (d : Int) (hd : d = ((2 ^ k : Nat) : Int)) (hv : va < 18446744073709551616) : wrap64 (bits .and .u64 ((va : Int) / d) 511) = ((fieldV va k 9 : Nat) : Int) := by
  have h : va / 2 ^ k ≤ va := Nat.div_le_self _ _
  have h2 : va / 2 ^ k % 512 < 512 := Nat.mod_lt _ (by decide)
  unfold fieldV
  rw [hd, ← Int.natCast_ediv]
  generalize va / 2 ^ k = x at *
  rw [and_mask _ 9 511 (by decide) rfl (by omega), IntWalk.wrap64_in _ (by omega)]
theorem wrap_field (va k : Nat) : wrap64 ((fieldV va k 9 : Nat) : Int) = ((fieldV va k 9 : Nat) : Int) := by
  have := fieldV_lt va k 9
  exact IntWalk.wrap64_in _ (by omega)

theorem index_any (va : Nat) (n : Int) (w : World) (hv : va < 18446744073709551616) :
    Calls Try.prog 46 #[.int .u64 va, .int .i64 n] w fun e w' => e = .returned (.int .i64 ((indexV va n : Nat) : Int)) ∧ w = w' := by
  rcases Bool.eq_false_or_eq_true (levelB n) with h1 | h1
  · rcases level_cases h1 with rfl | rfl | rfl
    all_goals
      have H1 := Lib.hid h1
      have HV := Lib.hid hv
      clear h1 hv
      go_enter Try.func46, Try.ntmps46
      go_wp2_with (go_at_call 65; refine (level_any _ _).mono ?_; rintro e w' ⟨rfl, rfl⟩; rw [H1.out])
      go_ret
      refine ⟨?_, rfl⟩
      first
      | exact congrArg (fun x => Ending.returned (.int .i64 x)) (index_eq va 12 4096 rfl HV.out)
      | exact congrArg (fun x => Ending.returned (.int .i64 x)) (index_eq va 21 2097152 rfl HV.out)
      | exact congrArg (fun x => Ending.returned (.int .i64 x)) (index_eq va 30 1073741824 rfl HV.out)
  · have H1 := Lib.hid h1
    clear h1
    go_enter Try.func46, Try.ntmps46
    go_wp2_with (go_at_call 65; refine (level_any _ _).mono ?_; rintro e w' ⟨rfl, rfl⟩; rw [H1.out])
    go_ret
    exact ⟨by rw [indexV_not va n H1.out]; rfl, rfl⟩

theorem span_any (n : Int) (w : World) :
    Calls Try.prog 52 #[.int .i64 n] w fun e w' => e = .returned (.int .u64 ((spanV n : Nat) : Int)) ∧ w = w' := by
  rcases Bool.eq_false_or_eq_true (levelB n) with h1 | h1
  · rcases level_cases h1 with rfl | rfl | rfl
    all_goals
      have H1 := Lib.hid h1
      clear h1
      go_enter Try.func52, Try.ntmps52
      go_wp2_with (go_at_call 65; refine (level_any _ _).mono ?_; rintro e w' ⟨rfl, rfl⟩; rw [H1.out])
      go_ret
      exact ⟨rfl, rfl⟩
  · have H1 := Lib.hid h1
    clear h1
    go_enter Try.func52, Try.ntmps52
    go_wp2_with (go_at_call 65; refine (level_any _ _).mono ?_; rintro e w' ⟨rfl, rfl⟩; rw [H1.out])
    go_ret
    exact ⟨by rw [spanV_not n H1.out]; rfl, rfl⟩
theorem rspan_any (n : Int) (w : World) :
    Calls Try.prog 62 #[.int .i64 n] w fun e w' => e = .returned (.int .u64 ((spanV n : Nat) : Int)) ∧ w = w' := by
  rcases Bool.eq_false_or_eq_true (levelB n) with h1 | h1
  · rcases level_cases h1 with rfl | rfl | rfl
    all_goals
      have H1 := Lib.hid h1
      clear h1
      go_enter Try.func62, Try.ntmps62
      go_wp2_with (first | (go_at_call 61; refine (rlevel_any _ _).mono ?_; rintro e w' ⟨rfl, rfl⟩; rw [H1.out]) | (go_at_call 58; refine (pow_any _ _ (by decide) (by decide)).mono ?_; rintro e w' ⟨rfl, rfl⟩))
      go_ret
      exact ⟨rfl, rfl⟩
  · have H1 := Lib.hid h1
    clear h1
    go_enter Try.func62, Try.ntmps62
    go_wp2_with (go_at_call 61; refine (rlevel_any _ _).mono ?_; rintro e w' ⟨rfl, rfl⟩; rw [H1.out])
    go_ret
    exact ⟨by rw [spanV_not n H1.out]; rfl, rfl⟩
end Go.Proofs.Ytbgagmpinekhpaa

/- Contracts: Canonical, Vpn, Join, Leaf, Right. -/
namespace Go.Proofs.Ytbgagmpinekhpaa
open Go.RowKit

theorem field64_any (v : Nat) (a n : Int) (w : World) (hv : v < 18446744073709551616) (ha : 0 ≤ a) (hn : 0 < n) (h : a + n = 64) :
    Calls Try.prog 57 #[.int .u64 v, .int .i64 a, .int .i64 n] w fun e w' => e = .returned (.int .u64 ((fieldV v a.toNat n.toNat : Nat) : Int)) ∧ w = w' := by
  have hf : fieldV v a.toNat n.toNat = v / 2 ^ a.toNat := by
    unfold fieldV
    refine Nat.mod_eq_of_lt (Nat.div_lt_of_lt_mul ?_)
    rw [← Nat.pow_add, show a.toNat + n.toNat = 64 by omega]
    exact hv
  have HF := Lib.hid hf
  have hp := Nat.two_pow_pos a.toNat
  generalize hP : 2 ^ a.toNat = P at hp hf
  have HP := Lib.hid hP
  have e64 : ((a + n : Int) == 64) = true := by rw [beq_iff_eq]; omega
  have hd := div_u64 v P hv
  have hz : ¬ (P = 0) := by omega
  have HH := Lib.hid h
  have b1 : a ≤ 63 := by omega
  have b2 : n ≤ 64 := by omega
  clear hP hf h hv
  go_enter Try.func57, Try.ntmps57
  go_wp2_with (go_at_call 58; refine (pow_any _ _ ha (by have := HH.out; omega)).mono ?_; rintro e w' ⟨rfl, rfl⟩; rw [HP.out])
  go_ret
  exact ⟨by rw [HF.out, HP.out, Int.natCast_ediv]; rfl, rfl⟩

def canonB (va : Nat) : Bool := ((fieldV va 38 26 : Nat) : Int) == 0 || ((fieldV va 38 26 : Nat) : Int) == 67108863

theorem canon_any (va : Nat) (w : World) (hv : va < 18446744073709551616) :
    Calls Try.prog 25 #[.int .u64 va] w fun e w' => e = .returned (.bool (canonB va)) ∧ w = w' := by
  have HV := Lib.hid hv
  clear hv
  go_enter Try.func25, Try.ntmps25
  go_wp2
  go_ret
  refine ⟨?_, rfl⟩
  refine congrArg (fun b => Ending.returned (.bool b)) ?_
  show (IntKind.u64.wrap (wrap64 (wrap64 (va : Int) * 33554432) / 33554432) == (va : Int)) = canonB va
  have hv := HV.out
  rw [Bool.eq_iff_iff]
  simp only [canonB, fieldV, beq_iff_eq, Bool.or_eq_true, IntKind.wrap_u64, wrap64, Nat.reducePow]
  omega

theorem rcanon_any (va : Nat) (w : World) (hv : va < 18446744073709551616) :
    Calls Try.prog 35 #[.int .u64 va] w fun e w' => e = .returned (.bool (canonB va)) ∧ w = w' := by
  have HV := Lib.hid hv
  clear hv
  go_enter Try.func35, Try.ntmps35
  go_wp2_with (first | (go_at_call 57; refine (field64_any _ _ _ _ HV.out (by decide) (by decide) (by decide)).mono ?_; rintro e w' ⟨rfl, rfl⟩) | (go_at_call 58; refine (pow_any _ _ (by decide) (by decide)).mono ?_; rintro e w' ⟨rfl, rfl⟩; rw [show ((2 ^ (26 : Int).toNat : Nat) : Int) = 67108864 from rfl]))
  all_goals (go_ret; refine ⟨?_, rfl⟩; first | rfl | simp [canonB, *])

def vpnV (va : Nat) : Nat := va / 4096 % 134217728
theorem and_high (x k j : Nat) (hx : x < 2 ^ (k + j)) : x &&& (2 ^ (k + j) - 2 ^ k) = x / 2 ^ k * 2 ^ k := by
  have e : 2 ^ (k + j) - 2 ^ k = 2 ^ k * (2 ^ j - 1) := by rw [Nat.pow_add, Nat.mul_sub, Nat.mul_one]
  rw [e]
  have h1 : (x &&& 2 ^ k * (2 ^ j - 1)) % 2 ^ k = 0 := by
    rw [Nat.and_mod_two_pow, Nat.mul_mod_right, Nat.and_zero]
  have h2 : (x &&& 2 ^ k * (2 ^ j - 1)) / 2 ^ k = x / 2 ^ k := by
    rw [Nat.and_div_two_pow, Nat.mul_div_cancel_left _ (Nat.two_pow_pos k), Nat.and_two_pow_sub_one_eq_mod]
    exact Nat.mod_eq_of_lt (Nat.div_lt_of_lt_mul (by rw [← Nat.pow_add]; exact hx))
  have h3 := Nat.div_add_mod (x &&& 2 ^ k * (2 ^ j - 1)) (2 ^ k)
  rw [h1, h2, Nat.add_zero, Nat.mul_comm] at h3
  exact h3.symm
theorem or_low (a b k : Nat) (hb : b < 2 ^ k) : a * 2 ^ k ||| b = a * 2 ^ k + b := by
  rw [Nat.mul_comm, ← Nat.two_pow_add_eq_or_of_lt hb]
theorem join_eq (ppn va k j S : Nat) (m : Int) (hk : k + j = 64) (hS : S = 2 ^ k) (hm : m = ((2 ^ k - 1 : Nat) : Int)) (hk1 : k ≤ 63) (hv : va < 18446744073709551616) :
    bits .or .u64 (bits .andNot .u64 (IntKind.u64.wrap ((ppn : Int) * 4096)) m) (bits .and .u64 (va : Int) m) = (((ppn * 4096 % 18446744073709551616) / S * S + va % S : Nat) : Int) := by
  have h1 : 2 ^ k ≤ 2 ^ 63 := Nat.pow_le_pow_right (by decide) hk1
  have h2 := Nat.two_pow_pos k
  have e1 : IntKind.u64.wrap ((ppn : Int) * 4096) = ((ppn * 4096 % 18446744073709551616 : Nat) : Int) := by rw [IntKind.wrap_u64]; omega
  have hlt : ppn * 4096 % 18446744073709551616 < 18446744073709551616 := Nat.mod_lt _ (by decide)
  rw [and_mask va k m hk1 hm hv, e1, hm]
  generalize ppn * 4096 % 18446744073709551616 = x at *
  have e2 := u64_andNot_nat x (2 ^ k - 1) hlt (by omega)
  rw [e2]
  have e3 : 18446744073709551615 - (2 ^ k - 1) = 2 ^ (k + j) - 2 ^ k := by
    rw [hk]; omega
  have hxx : x < 2 ^ (k + j) := by rw [hk]; exact hlt
  rw [e3, and_high x k j hxx]
  have h4 : x / 2 ^ k * 2 ^ k ≤ x := Nat.div_mul_le_self _ _
  have h5 : va % 2 ^ k < 2 ^ k := Nat.mod_lt _ h2
  rw [bits_or_u64_nat _ _ (by omega) (by omega), or_low _ _ _ h5, hS]

/-- A frame's number and an address. -/
def joinV (ppn va : Nat) (n : Int) : Nat := if levelB n then (ppn * 4096 % 18446744073709551616) / spanV n * spanV n + va % spanV n else 0

end Go.Proofs.Ytbgagmpinekhpaa

/- Contracts: the reference's Join; Leaf, Right; flags; Put. -/
namespace Go.Proofs.Ytbgagmpinekhpaa
open Go.RowKit

theorem at_eq (ppn : Nat) : ppn % 4503599627370496 * 4096 = ppn * 4096 % 18446744073709551616 := by omega
theorem rjoin_fin12 (ppn va : Nat) : IntKind.u64.wrap (IntKind.u64.wrap ((ppn : Int) * 4096 % 18446744073709551616 - ((ppn : Int) * 4096 % 18446744073709551616).tmod 4096) + (va : Int).tmod 4096) = ((ppn * 4096 % 18446744073709551616 / 4096 * 4096 + va % 4096 : Nat) : Int) := by
  rw [Int.tmod_eq_emod_of_nonneg (by omega), Int.tmod_eq_emod_of_nonneg (by omega), IntKind.wrap_u64, IntKind.wrap_u64]
  omega
theorem rjoin_fin21 (ppn va : Nat) : IntKind.u64.wrap (IntKind.u64.wrap ((ppn : Int) * 4096 % 18446744073709551616 - ((ppn : Int) * 4096 % 18446744073709551616).tmod 2097152) + (va : Int).tmod 2097152) = ((ppn * 4096 % 18446744073709551616 / 2097152 * 2097152 + va % 2097152 : Nat) : Int) := by
  rw [Int.tmod_eq_emod_of_nonneg (by omega), Int.tmod_eq_emod_of_nonneg (by omega), IntKind.wrap_u64, IntKind.wrap_u64]
  omega
theorem rjoin_fin30 (ppn va : Nat) : IntKind.u64.wrap (IntKind.u64.wrap ((ppn : Int) * 4096 % 18446744073709551616 - ((ppn : Int) * 4096 % 18446744073709551616).tmod 1073741824) + (va : Int).tmod 1073741824) = ((ppn * 4096 % 18446744073709551616 / 1073741824 * 1073741824 + va % 1073741824 : Nat) : Int) := by
  rw [Int.tmod_eq_emod_of_nonneg (by omega), Int.tmod_eq_emod_of_nonneg (by omega), IntKind.wrap_u64, IntKind.wrap_u64]
  omega
/-! Entries. -/
structure Pte where
  v : Bool
  r : Bool
  w : Bool
  x : Bool
  u : Bool
  g : Bool
  a : Bool
  d : Bool
  rsw : Int
  ppn : Int
def Pte.val (p : Pte) : Value := .agg #[.bool p.v, .bool p.r, .bool p.w, .bool p.x, .bool p.u, .bool p.g, .bool p.a, .bool p.d, .int .i64 p.rsw, .int .u64 p.ppn]

theorem leaf_any (v r w x u g a d : Bool) (rsw ppn : Int) (W : World) :
    Calls Try.prog 45 #[.agg #[.bool v, .bool r, .bool w, .bool x, .bool u, .bool g, .bool a, .bool d, .int .i64 rsw, .int .u64 ppn]] W fun e w' => e = .returned (.bool (r || x)) ∧ Below W.heap.size W w' := by
  cases r
  all_goals
    go_enter Try.func45, Try.ntmps45
    go_wp2
    go_ret
    exact ⟨rfl, (Below.refl _ _).alloc (Nat.le_refl _) _⟩
theorem right_any (v r w x u g a d : Bool) (rsw ppn : Int) (W : World) :
    Calls Try.prog 44 #[.agg #[.bool v, .bool r, .bool w, .bool x, .bool u, .bool g, .bool a, .bool d, .int .i64 rsw, .int .u64 ppn]] W fun e w' => e = .returned (.bool (v && (r || !w))) ∧ Below W.heap.size W w' := by
  cases v <;> cases r
  all_goals
    go_enter Try.func44, Try.ntmps44
    go_wp2
    go_ret
    exact ⟨rfl, (Below.refl _ _).alloc (Nat.le_refl _) _⟩

theorem flags_any (v r w x u g a d : Bool) (rsw ppn : Int) (W : World) :
    Calls Try.prog 51 #[.agg #[.bool v, .bool r, .bool w, .bool x, .bool u, .bool g, .bool a, .bool d, .int .i64 rsw, .int .u64 ppn]] W fun e w' => e = .returned (.agg #[.bool v, .bool r, .bool w, .bool x, .bool u, .bool g, .bool a, .bool d]) ∧ Below W.heap.size W w' := by
  go_enter Try.func51, Try.ntmps51
  go_wp2
  exact bodyPost_ret (v := .agg #[.bool v, .bool r, .bool w, .bool x, .bool u, .bool g, .bool a, .bool d]) (by simp [results, Try.results51, go_sem]) rfl ⟨rfl, by go_grown⟩

def bt (b : Bool) : Nat := if b then 1 else 0
/-- The word of an entry. -/
def putV (v r w x u g a d : Bool) (rsw ppn : Int) : Nat :=
  bt v + 2 * bt r + 4 * bt w + 8 * bt x + 16 * bt u + 32 * bt g + 64 * bt a + 128 * bt d + 256 * (rsw % 4).toNat + 1024 * (ppn.toNat % 17592186044416)

def lowL (l : List Bool) : Nat → Nat
  | 0 => 0
  | j + 1 => lowL l j + 2 ^ j * bt (l.getD j false)
theorem lowL_lt (l : List Bool) : ∀ j, lowL l j < 2 ^ j
  | 0 => by simp [lowL]
  | j + 1 => by
    have := lowL_lt l j
    have hb : 2 ^ j * bt (l.getD j false) ≤ 2 ^ j := by unfold bt; split <;> simp
    rw [lowL, Nat.pow_succ]
    omega
theorem or_pow (x i : Nat) (h : x / 2 ^ i % 2 = 0) : x ||| 2 ^ i = x + 2 ^ i := by
  have hp := Nat.two_pow_pos i
  have h1 : (x ||| 2 ^ i) % 2 ^ i = x % 2 ^ i := by rw [Nat.or_mod_two_pow, Nat.mod_self, Nat.or_zero]
  have h2 : (x ||| 2 ^ i) / 2 ^ i = x / 2 ^ i + 1 := by
    rw [Nat.or_div_two_pow, Nat.div_self hp]
    have := or_low (x / 2 ^ i / 2) 1 1 (by decide)
    rw [show x / 2 ^ i / 2 * 2 ^ 1 = x / 2 ^ i by omega] at this
    exact this
  have h3 := Nat.div_add_mod (x ||| 2 ^ i) (2 ^ i)
  have h4 := Nat.div_add_mod x (2 ^ i)
  rw [h1, h2, Nat.mul_add] at h3
  omega
def baseV (rsw ppn : Int) : Nat := 256 * (rsw % 4).toNat + 1024 * (ppn.toNat % 17592186044416)
theorem baseV_lt (rsw ppn : Int) : baseV rsw ppn < 18014398509481984 := by unfold baseV; omega
theorem i64_and3 (n : Int) : bits .and .i64 n 3 = n % 4 := by
  show IntKind.i64.wrap ((BitVec.ofInt 64 n &&& BitVec.ofInt 64 3).toNat : Int) = n % 4
  have e : (BitVec.ofInt 64 n &&& BitVec.ofInt 64 3).toNat = (n % 18446744073709551616).toNat % 4 := by
    rw [BitVec.toNat_and, show (BitVec.ofInt 64 3).toNat = 2 ^ 2 - 1 from rfl, Nat.and_two_pow_sub_one_eq_mod, BitVec.toNat_ofInt]
    rfl
  rw [e, IntKind.wrap_i64]
  omega
theorem base_eq (rsw ppn : Int) (hp : 0 ≤ ppn ∧ ppn < 18446744073709551616) :
    bits .or .u64 (IntKind.u64.wrap (bits .and .u64 ppn 17592186044415 * 1024)) (IntKind.u64.wrap (IntKind.u64.wrap (bits .and .i64 rsw 3) * 256)) = ((baseV rsw ppn : Nat) : Int) := by
  obtain ⟨P, rfl⟩ := Int.eq_ofNat_of_zero_le hp.1
  rw [and_mask P 44 17592186044415 (by decide) rfl (by omega), i64_and3]
  have hP : P % 2 ^ 44 < 17592186044416 := Nat.mod_lt _ (by decide)
  unfold baseV
  rw [show (P : Int).toNat = P from rfl, show (17592186044416 : Nat) = 2 ^ 44 from rfl]
  generalize P % 2 ^ 44 = q at *
  rw [IntWalk.u64_in ((q : Int) * 1024) (by omega), IntWalk.u64_in (rsw % 4) (by omega), IntWalk.u64_in (rsw % 4 * 256) (by omega)]
  have e1 : (q : Int) * 1024 = ((q * 2 ^ 10 : Nat) : Int) := by omega
  have e2 : rsw % 4 * 256 = ((256 * (rsw % 4).toNat : Nat) : Int) := by omega
  rw [e1, e2, bits_or_u64_nat _ _ (by omega) (by omega), or_low q _ 10 (by omega)]
  omega
theorem put_round (l : List Bool) (rsw ppn : Int) (j : Nat) (hj : j < 8) (hb : l.getD j false = true) :
    bits .or .u64 ((baseV rsw ppn + lowL l j : Nat) : Int) ((2 ^ j : Nat) : Int) = ((baseV rsw ppn + lowL l (j + 1) : Nat) : Int) := by
  have h1 := lowL_lt l j
  have h2 := baseV_lt rsw ppn
  have h3 : 2 ^ j ≤ 2 ^ 7 := Nat.pow_le_pow_right (by decide) (by omega)
  have h4 : baseV rsw ppn % 2 ^ (j + 1) = 0 := by
    have : baseV rsw ppn % 256 = 0 := by unfold baseV; omega
    refine Nat.mod_eq_zero_of_dvd (Nat.dvd_trans (Nat.pow_dvd_pow 2 (show j + 1 ≤ 8 by omega)) (Nat.dvd_of_mod_eq_zero this))
  have h5 : (baseV rsw ppn + lowL l j) / 2 ^ j % 2 = 0 := by
    obtain ⟨k, hk⟩ := Nat.dvd_of_mod_eq_zero h4
    rw [hk, Nat.pow_succ, Nat.mul_assoc, Nat.mul_add_div (Nat.two_pow_pos j), Nat.div_eq_of_lt h1]
    omega
  rw [bits_or_u64_nat _ _ (by omega) (by omega), or_pow _ _ h5]
  simp only [lowL, hb, bt, if_true]
  omega
theorem put_round' (l : List Bool) (rsw ppn : Int) (j : Nat) (hj : j < 8) (hb : l.getD j false = true) :
    bits .or .u64 (((baseV rsw ppn : Nat) : Int) + ((lowL l j : Nat) : Int)) (IntKind.u64.wrap ((2 : Int) ^ j)) = ((baseV rsw ppn + lowL l (j + 1) : Nat) : Int) := by
  have h3 : 2 ^ j ≤ 2 ^ 7 := Nat.pow_le_pow_right (by decide) (by omega)
  rw [← put_round l rsw ppn j hj hb]
  have e : (2 : Int) ^ j = ((2 ^ j : Nat) : Int) := by simp
  rw [e]
  generalize 2 ^ j = P at *
  rw [IntWalk.u64_in _ (by omega), Int.natCast_add]
theorem put_skip (l : List Bool) (rsw ppn : Int) (j : Nat) (hb : l.getD j false = false) : baseV rsw ppn + lowL l (j + 1) = baseV rsw ppn + lowL l j := by
  rw [lowL, hb]; simp [bt]
theorem put_last (v r w x u g a d : Bool) (rsw ppn : Int) : baseV rsw ppn + lowL [v, r, w, x, u, g, a, d] 8 = putV v r w x u g a d rsw ppn := by
  simp [lowL, putV, baseV]
  omega

theorem put_any (v r w x u g a d : Bool) (rsw ppn : Int) (W : World) (hp : 0 ≤ ppn ∧ ppn < 18446744073709551616) :
    Calls Try.prog 31 #[.agg #[.bool v, .bool r, .bool w, .bool x, .bool u, .bool g, .bool a, .bool d, .int .i64 rsw, .int .u64 ppn]] W fun e w' => e = .returned (.int .u64 ((putV v r w x u g a d rsw ppn : Nat) : Int)) ∧ Below W.heap.size W w' := by
  have HP := Lib.hid hp
  clear hp
  go_enter Try.func31, Try.ntmps31
  go_wp2_with (go_at_call 51; refine (flags_any _ _ _ _ _ _ _ _ _ _ _).mono ?_; rintro e w1 ⟨rfl, hb⟩)
  go_loop [3, 18] (fun x' i => ∃ j : Nat, j ≤ 8 ∧ i = .int .i64 j ∧ x' = .int .u64 ((baseV rsw ppn + lowL [v, r, w, x, u, g, a, d] j : Nat) : Int)) (fun _ i => (8 - intOf i).toNat)
  case atStart => exact ⟨0, by omega, rfl, by rw [base_eq rsw ppn HP.out]; rfl⟩
  case round =>
    obtain ⟨j, hj, rfl, rfl⟩ := hrel
    by_cases h0 : j < 8
    · have hidx : ∀ W', (Instr.index 105 (.agg #[.bool v, .bool r, .bool w, .bool x, .bool u, .bool g, .bool a, .bool d]) (.int .i64 (j : Int))).run Try.prog W' = .ok (.bool ([v, r, w, x, u, g, a, d].getD j false)) W' := by
        intro W'
        rcases (show j = 0 ∨ j = 1 ∨ j = 2 ∨ j = 3 ∨ j = 4 ∨ j = 5 ∨ j = 6 ∨ j = 7 by omega) with rfl | rfl | rfl | rfl | rfl | rfl | rfl | rfl <;> kernel_rfl
      have hr : [v, r, w, x, u, g, a, d].getD j false = true → _ := put_round' [v, r, w, x, u, g, a, d] rsw ppn j h0
      have hs := put_skip [v, r, w, x, u, g, a, d] rsw ppn j
      have HR := Lib.hid hr
      have HS := Lib.hid hs
      clear hr hs
      cases hbb : [v, r, w, x, u, g, a, d].getD j false with
      | false =>
        rw [hbb] at hidx
        have HB := Lib.hid hbb
        clear hbb
        go_wp2
        exact ⟨⟨j + 1, by omega, by go_num, by rw [HS.out HB.out]⟩, by simp [intOf]; omega⟩
      | true =>
        rw [hbb] at hidx
        have HB := Lib.hid hbb
        clear hbb
        go_wp2
        exact ⟨⟨j + 1, by omega, by go_num, by rw [HR.out HB.out]⟩, by simp [intOf]; omega⟩
    · obtain rfl : j = 8 := by omega
      go_wp2
      go_ret
      exact ⟨by rw [← put_last, Int.natCast_add]; rfl, ((Below.refl _ _).alloc (Nat.le_refl _) _).trans (hb.mono (by simp))⟩

theorem getfn_any (x : Nat) (i : Int) (p : Addr) (W : World) (hx : x < 18446744073709551616) (hi : 0 ≤ i) (hi2 : i ≤ 7) (hc : W.cell? p = some (.int .u64 (x : Int))) :
    Calls Try.prog 64 #[.int .i64 i, .pointer (some p)] W fun e w' => e = .returned (.bool (x / 2 ^ i.toNat % 2 == 1)) ∧ W = w' := by
  go_enter Try.func64, Try.ntmps64
  go_wp2
  go_ret
  refine ⟨congrArg (fun b => Ending.returned (.bool b)) ?_, rfl⟩
  show (bits .and .u64 ((x : Int) / 2 ^ i.toNat) 1 == 1) = _
  have h : x / 2 ^ i.toNat ≤ x := Nat.div_le_self _ _
  have e : ((x : Int) / 2 ^ i.toNat) = ((x / 2 ^ i.toNat : Nat) : Int) := by simp
  rw [e]
  generalize x / 2 ^ i.toNat = y at *
  rw [and_mask y 1 1 (by decide) rfl (by omega), show (2 : Nat) ^ 1 = 2 from rfl]
  rcases Nat.mod_two_eq_zero_or_one y with hy | hy <;> rw [hy] <;> rfl

def bitB (x i : Nat) : Bool := x / 2 ^ i % 2 == 1
/-- The entry of a word. -/
def entryV (x : Nat) : Value := .agg #[.bool (bitB x 0), .bool (bitB x 1), .bool (bitB x 2), .bool (bitB x 3), .bool (bitB x 4), .bool (bitB x 5), .bool (bitB x 6), .bool (bitB x 7), .int .i64 ((x / 256 % 4 : Nat) : Int), .int .u64 ((x / 1024 % 17592186044416 : Nat) : Int)]
end Go.Proofs.Ytbgagmpinekhpaa

/- Contract of pte.Get, GetSatp. -/
namespace Go.Proofs.Ytbgagmpinekhpaa
open Go.RowKit

theorem rsw_eq (x : Nat) (hx : x < 18446744073709551616) : wrap64 (bits .and .u64 ((x : Int) / 256) 3) = ((x / 256 % 4 : Nat) : Int) := by
  have e : ((x : Int) / 256) = ((x / 256 : Nat) : Int) := by omega
  rw [e, and_mask (x / 256) 2 3 (by decide) rfl (by omega), IntWalk.wrap64_in _ (by omega)]
theorem ppn_eq (x : Nat) (hx : x < 18446744073709551616) : bits .and .u64 (x : Int) 18014398509481983 / 1024 = ((x / 1024 % 17592186044416 : Nat) : Int) := by
  rw [and_mask x 54 18014398509481983 (by decide) rfl hx]
  omega
theorem ok_eq (x : Nat) (hx : x < 18446744073709551616) : (bits .andNot .u64 (x : Int) 18014398509481983 == 0) = (x / 18014398509481984 == 0) := by
  have h := u64_andNot_nat x (2 ^ 54 - 1) hx (by decide)
  rw [show ((2 ^ 54 - 1 : Nat) : Int) = 18014398509481983 from rfl, show 18446744073709551615 - (2 ^ 54 - 1) = 2 ^ (54 + 10) - 2 ^ 54 from rfl, and_high x 54 10 hx] at h
  rw [h, show (2 : Nat) ^ 54 = 18014398509481984 from rfl, Bool.eq_iff_iff]
  simp only [beq_iff_eq]
  omega
theorem entry_eq (x : Nat) (hx : x < 18446744073709551616) : Value.agg #[.bool (x % 2 == 1), .bool (x / 2 % 2 == 1), .bool (x / 4 % 2 == 1), .bool (x / 8 % 2 == 1), .bool (x / 16 % 2 == 1), .bool (x / 32 % 2 == 1), .bool (x / 64 % 2 == 1), .bool (x / 128 % 2 == 1), .int .i64 (wrap64 (bits .and .u64 ((x : Int) / 256) 3)), .int .u64 (bits .and .u64 (x : Int) 18014398509481983 / 1024)] = entryV x := by
  rw [rsw_eq x hx, ppn_eq x hx]
  simp [entryV, bitB]
theorem three (x : Nat) (W : World) : ∃ W3, W3 = ((W.alloc (.cells #[.int .u64 (x : Int)] 23)).alloc (.cells #[.bool false, .bool false, .bool false, .bool false, .bool false, .bool false, .bool false, .bool false, .int .i64 0, .int .u64 0] 25)).alloc (.cells #[.bool (x % 2 == 1), .bool (x / 2 % 2 == 1), .bool (x / 4 % 2 == 1), .bool (x / 8 % 2 == 1), .bool (x / 16 % 2 == 1), .bool (x / 32 % 2 == 1), .bool (x / 64 % 2 == 1), .bool (x / 128 % 2 == 1), .int .i64 (wrap64 (bits .and .u64 ((x : Int) / 256) 3)), .int .u64 (bits .and .u64 (x : Int) 18014398509481983 / 1024)] 25) ∧ Below W.heap.size W W3 ∧ W3.cell? ⟨W.heap.size, 0, none⟩ = some (.int .u64 (x : Int)) ∧ W3.heap.size = W.heap.size + 1 + 1 + 1 ∧ W3.cell? ⟨W.heap.size + 1 + 1, 0, none⟩ = some (.bool (x % 2 == 1)) ∧ W3.cell? ⟨W.heap.size + 1 + 1, 1, none⟩ = some (.bool (x / 2 % 2 == 1)) ∧ W3.cell? ⟨W.heap.size + 1 + 1, 2, none⟩ = some (.bool (x / 4 % 2 == 1)) ∧ W3.cell? ⟨W.heap.size + 1 + 1, 3, none⟩ = some (.bool (x / 8 % 2 == 1)) ∧ W3.cell? ⟨W.heap.size + 1 + 1, 4, none⟩ = some (.bool (x / 16 % 2 == 1)) ∧ W3.cell? ⟨W.heap.size + 1 + 1, 5, none⟩ = some (.bool (x / 32 % 2 == 1)) ∧ W3.cell? ⟨W.heap.size + 1 + 1, 6, none⟩ = some (.bool (x / 64 % 2 == 1)) ∧ W3.cell? ⟨W.heap.size + 1 + 1, 7, none⟩ = some (.bool (x / 128 % 2 == 1)) ∧ W3.cell? ⟨W.heap.size + 1 + 1, 8, none⟩ = some (.int .i64 (wrap64 (bits .and .u64 ((x : Int) / 256) 3))) ∧ W3.cell? ⟨W.heap.size + 1 + 1, 9, none⟩ = some (.int .u64 (bits .and .u64 (x : Int) 18014398509481983 / 1024)) ∧ W3.cell? ⟨W.heap.size + 1, 0, none⟩ = some (.bool false) ∧ W3.cell? ⟨W.heap.size + 1, 1, none⟩ = some (.bool false) ∧ W3.cell? ⟨W.heap.size + 1, 2, none⟩ = some (.bool false) ∧ W3.cell? ⟨W.heap.size + 1, 3, none⟩ = some (.bool false) ∧ W3.cell? ⟨W.heap.size + 1, 4, none⟩ = some (.bool false) ∧ W3.cell? ⟨W.heap.size + 1, 5, none⟩ = some (.bool false) ∧ W3.cell? ⟨W.heap.size + 1, 6, none⟩ = some (.bool false) ∧ W3.cell? ⟨W.heap.size + 1, 7, none⟩ = some (.bool false) ∧ W3.cell? ⟨W.heap.size + 1, 8, none⟩ = some (.int .i64 0) ∧ W3.cell? ⟨W.heap.size + 1, 9, none⟩ = some (.int .u64 0) ∧ (∀ i, W3.frozen? ⟨W.heap.size + 1, i, none⟩ = false) := by
  refine ⟨_, rfl, by go_grown, ?_⟩
  simp [go_sem]

theorem pte_save_set {g i : Nat} {w w' : World} {v : Value} (h : Save g w w') : Save g w (w'.setCell ⟨g, i, none⟩ v) := fun p hp => by
  rw [World.cell?_setCell_other _ _ _ _ (by rintro rfl; exact hp rfl)]; exact h p hp
theorem pte_save_drew {g : Nat} {w w' : World} (h : Save g w w') : Save g w.drew w'.drew := h
set_option maxHeartbeats 2000000 in
theorem get_any (x : Nat) (W : World) (hx : x < 18446744073709551616) :
    Calls Try.prog 43 #[.int .u64 (x : Int)] W fun e w' => e = .returned (.tuple #[entryV x, .bool (x / 18014398509481984 == 0)]) ∧ Below W.heap.size W w' := by
  have HX := Lib.hid hx
  clear hx
  have h3 := three x W
  have H3 := Lib.hid h3
  clear h3
  go_enter Try.func43, Try.ntmps43
  go_wp2_with (go_at_call 64; refine (getfn_any x _ _ _ HX.out (by decide) (by decide) (by simp)).mono ?_; rintro e w' ⟨rfl, rfl⟩)
  obtain ⟨W3, hW3, hb, hcx, hsz, hc0, hc1, hc2, hc3, hc4, hc5, hc6, hc7, hc8, hc9, hz0, hz1, hz2, hz3, hz4, hz5, hz6, hz7, hz8, hz9, hfz⟩ := H3.out
  rw [← hW3]
  clear hW3 H3
  have HB := Lib.hid hb
  clear hb
  have hs0 := fun W' (h : Save (W.heap.size + 1) W3.drew W') => (h ⟨W.heap.size + 1 + 1, 0, none⟩ (by simp)).trans hc0
  have hs1 := fun W' (h : Save (W.heap.size + 1) W3.drew W') => (h ⟨W.heap.size + 1 + 1, 1, none⟩ (by simp)).trans hc1
  have hs2 := fun W' (h : Save (W.heap.size + 1) W3.drew W') => (h ⟨W.heap.size + 1 + 1, 2, none⟩ (by simp)).trans hc2
  have hs3 := fun W' (h : Save (W.heap.size + 1) W3.drew W') => (h ⟨W.heap.size + 1 + 1, 3, none⟩ (by simp)).trans hc3
  have hs4 := fun W' (h : Save (W.heap.size + 1) W3.drew W') => (h ⟨W.heap.size + 1 + 1, 4, none⟩ (by simp)).trans hc4
  have hs5 := fun W' (h : Save (W.heap.size + 1) W3.drew W') => (h ⟨W.heap.size + 1 + 1, 5, none⟩ (by simp)).trans hc5
  have hs6 := fun W' (h : Save (W.heap.size + 1) W3.drew W') => (h ⟨W.heap.size + 1 + 1, 6, none⟩ (by simp)).trans hc6
  have hs7 := fun W' (h : Save (W.heap.size + 1) W3.drew W') => (h ⟨W.heap.size + 1 + 1, 7, none⟩ (by simp)).trans hc7
  have hs8 := fun W' (h : Save (W.heap.size + 1) W3.drew W') => (h ⟨W.heap.size + 1 + 1, 8, none⟩ (by simp)).trans hc8
  have hs9 := fun W' (h : Save (W.heap.size + 1) W3.drew W') => (h ⟨W.heap.size + 1 + 1, 9, none⟩ (by simp)).trans hc9
  have hsx := fun W' (h : Save (W.heap.size + 1) W3.drew W') => (h ⟨W.heap.size, 0, none⟩ (by simp)).trans hcx
  refine wp_region_plan_by (Save (W.heap.size + 1)) (later_save _) [(0, false), (1, false), (2, false), (3, false), (4, true), (5, false)] (by kernel_rfl) (by kernel_rfl) (fun _ d _ _ _ h => by cases d <;> exact h) ?_
  iterate 4 (refine plan_take (v := ?_) rfl (by kernel_rfl) ?_ ?_; rotate_left; (focus (intro w' hw'; try go_simp; try with_reducible rfl)); simp only [Act.put, List.setIfInBounds_toArray, List.set_cons_zero, List.set_cons_succ])
  refine plan_turn rfl (by kernel_rfl) (fun K hK => ?_)
  go_simp
  refine hK _ _ ⟨pte_save_drew (by repeat (first | (with_reducible exact (later_save _).refl _) | (with_reducible refine pte_save_set ?_))), ?_⟩
  iterate 1 (refine plan_take (v := ?_) rfl (by kernel_rfl) ?_ ?_; rotate_left; (focus (intro w' hw'; try go_simp; try with_reducible rfl)); simp only [Act.put, List.setIfInBounds_toArray, List.set_cons_zero, List.set_cons_succ])
  refine plan_end ?_
  clear hs0 hs1 hs2 hs3 hs4 hs5 hs6 hs7 hs8 hs9 hsx hc0 hc1 hc2 hc3 hc4 hc5 hc6 hc7 hc8 hc9 hcx
  go_wp2
  refine bodyPost_ret (v := .tuple #[.agg #[.bool (x % 2 == 1), .bool (x / 2 % 2 == 1), .bool (x / 4 % 2 == 1), .bool (x / 8 % 2 == 1), .bool (x / 16 % 2 == 1), .bool (x / 32 % 2 == 1), .bool (x / 64 % 2 == 1), .bool (x / 128 % 2 == 1), .int .i64 (wrap64 (bits .and .u64 ((x : Int) / 256) 3)), .int .u64 (bits .and .u64 (x : Int) 18014398509481983 / 1024)], .bool (bits .andNot .u64 (x : Int) 18014398509481983 == 0)]) (by simp [results, Try.results43, go_sem, hz0, hz1, hz2, hz3, hz4, hz5, hz6, hz7, hz8, hz9]) rfl ⟨?_, ?_⟩
  · rw [entry_eq x HX.out, ok_eq x HX.out]
  · have hB := HB.out
    refine Below.drew ?_
    repeat (first | (with_reducible exact hB) | (with_reducible refine Below.setCell ?_ (by simp) _))
end Go.Proofs.Ytbgagmpinekhpaa

/- Contract of the reference's Get. -/
namespace Go.Proofs.Ytbgagmpinekhpaa
open Go.RowKit

theorem field_drew (v : Nat) (a n : Int) (w : World) (hv : v < 18446744073709551616) (ha : 0 ≤ a) (hn : 0 ≤ n) (hn63 : n ≤ 63) (h : a + n ≤ 63) :
    Calls Try.prog 57 #[.int .u64 v, .int .i64 a, .int .i64 n] w fun e w' => e = .returned (.int .u64 ((fieldV v a.toNat n.toNat : Nat) : Int)) ∧ w.drew = w' := by
  unfold fieldV
  have hp := Nat.two_pow_pos a.toNat
  generalize hP : 2 ^ a.toNat = P at hp ⊢
  have hr := Nat.two_pow_pos n.toNat
  generalize hR : 2 ^ n.toNat = R at hr ⊢
  have HP := Lib.hid hP
  have HR := Lib.hid hR
  clear hP hR
  have e64 : ((a + n : Int) == 64) = false := by rw [beq_eq_false_iff_ne]; omega
  go_enter Try.func57, Try.ntmps57
  go_wp2_with fail
  refine wp_region_plan [(0, false), (1, false), (4, false), (2, true), (3, false), (5, true), (6, false), (7, false)] (by kernel_rfl) (by kernel_rfl) (fun _ d _ _ _ h => by cases d <;> exact h) ?_
  iterate 3 (refine plan_take (v := ?_) rfl (by kernel_rfl) ?_ ?_; rotate_left; (focus (intro w' hw'; try go_simp; try with_reducible rfl)); simp only [Act.put, List.setIfInBounds_toArray, List.set_cons_zero, List.set_cons_succ])
  refine plan_call rfl (by kernel_rfl) (by go_simp; exact ⟨rfl, rfl⟩) ?_
  refine (pow_any a _ ha (by omega)).mono ?_
  rintro e w' ⟨rfl, rfl⟩
  rw [HP.out]
  refine ⟨_, rfl, Ext.refl _, ?_⟩
  simp only [Act.put, List.setIfInBounds_toArray, List.set_cons_zero, List.set_cons_succ]
  have hz : ¬ (P = 0) := by omega
  have hd := div_u64 v P hv
  iterate 1 (refine plan_take (v := ?_) rfl (by kernel_rfl) ?_ ?_; rotate_left; (focus (intro w' hw'; try go_simp; try with_reducible rfl)); simp only [Act.put, List.setIfInBounds_toArray, List.set_cons_zero, List.set_cons_succ])
  refine plan_call rfl (by kernel_rfl) (by go_simp; exact ⟨rfl, rfl⟩) ?_
  refine (pow_any n _ hn hn63).mono ?_
  rintro e w' ⟨rfl, rfl⟩
  rw [HR.out]
  refine ⟨_, rfl, Ext.refl _, ?_⟩
  simp only [Act.put, List.setIfInBounds_toArray, List.set_cons_zero, List.set_cons_succ]
  have hzr : ¬ (R = 0) := by omega
  iterate 2 (refine plan_take (v := ?_) rfl (by kernel_rfl) ?_ ?_; rotate_left; (focus (intro w' hw'; try go_simp; try with_reducible rfl)); simp only [Act.put, List.setIfInBounds_toArray, List.set_cons_zero, List.set_cons_succ])
  refine plan_end ?_
  clear hd hz hzr
  go_wp2
  go_ret
  exact ⟨by rw [← fin_field]; rfl, rfl⟩

theorem pte_wp_world {P : Program} {c : Code} {Q : Exit → Act → World → Prop} {a : Act} {w : World} (h : ∀ w0, w0 = w → c.wp P Q a w0) : c.wp P Q a w := h w rfl

theorem rget_eq (x : Nat) : Value.agg #[.bool (((fieldV x 0 1 : Nat) : Int) == 1), .bool (((fieldV x 1 1 : Nat) : Int) == 1), .bool (((fieldV x 2 1 : Nat) : Int) == 1), .bool (((fieldV x 3 1 : Nat) : Int) == 1), .bool (((fieldV x 4 1 : Nat) : Int) == 1), .bool (((fieldV x 5 1 : Nat) : Int) == 1), .bool (((fieldV x 6 1 : Nat) : Int) == 1), .bool (((fieldV x 7 1 : Nat) : Int) == 1), .int .i64 (wrap64 ((fieldV x 8 2 : Nat) : Int)), .int .u64 ((fieldV x 10 44 : Nat) : Int)] = entryV x := by
  have h8 : fieldV x 8 2 < 4 := fieldV_lt x 8 2
  have e : ∀ j, (((fieldV x j 1 : Nat) : Int) == 1) = bitB x j := by
    intro j
    rw [Bool.eq_iff_iff]
    simp only [bitB, fieldV, beq_iff_eq, Nat.reducePow]
    omega
  rw [IntWalk.wrap64_in _ (by omega), e, e, e, e, e, e, e, e]
  rfl

set_option maxHeartbeats 2000000 in
theorem rget_any (x : Nat) (W : World) (hx : x < 18446744073709551616) :
    Calls Try.prog 59 #[.int .u64 (x : Int)] W fun e w' => e = .returned (.tuple #[entryV x, .bool (x / 18014398509481984 == 0)]) ∧ Below W.heap.size W w' := by
  have HX := Lib.hid hx
  clear hx
  go_enter Try.func59, Try.ntmps59
  iterate 10
    go_wp2_with fail
    refine (field_drew _ _ _ _ HX.out (by decide) (by decide) (by decide) (by decide)).mono ?_
    rintro e w' ⟨rfl, rfl⟩
  go_wp2_with fail
  refine pte_wp_world (fun W3 hW3 => ?_)
  have hb : Below W.heap.size W W3 := by rw [hW3]; go_grown
  have hfz : ∀ i, W3.frozen? ⟨W.heap.size, i, none⟩ = false := by intro i; rw [hW3]; simp [go_sem]
  have hc0 : W3.cell? ⟨W.heap.size + 1, 0, none⟩ = some (.bool (((fieldV x 0 1 : Nat) : Int) == 1)) := by rw [hW3]; simp [go_sem]
  have hc1 : W3.cell? ⟨W.heap.size + 1, 1, none⟩ = some (.bool (((fieldV x 1 1 : Nat) : Int) == 1)) := by rw [hW3]; simp [go_sem]
  have hc2 : W3.cell? ⟨W.heap.size + 1, 2, none⟩ = some (.bool (((fieldV x 2 1 : Nat) : Int) == 1)) := by rw [hW3]; simp [go_sem]
  have hc3 : W3.cell? ⟨W.heap.size + 1, 3, none⟩ = some (.bool (((fieldV x 3 1 : Nat) : Int) == 1)) := by rw [hW3]; simp [go_sem]
  have hc4 : W3.cell? ⟨W.heap.size + 1, 4, none⟩ = some (.bool (((fieldV x 4 1 : Nat) : Int) == 1)) := by rw [hW3]; simp [go_sem]
  have hc5 : W3.cell? ⟨W.heap.size + 1, 5, none⟩ = some (.bool (((fieldV x 5 1 : Nat) : Int) == 1)) := by rw [hW3]; simp [go_sem]
  have hc6 : W3.cell? ⟨W.heap.size + 1, 6, none⟩ = some (.bool (((fieldV x 6 1 : Nat) : Int) == 1)) := by rw [hW3]; simp [go_sem]
  have hc7 : W3.cell? ⟨W.heap.size + 1, 7, none⟩ = some (.bool (((fieldV x 7 1 : Nat) : Int) == 1)) := by rw [hW3]; simp [go_sem]
  have hc8 : W3.cell? ⟨W.heap.size + 1, 8, none⟩ = some (.int .i64 (wrap64 ((fieldV x 8 2 : Nat) : Int))) := by rw [hW3]; simp [go_sem]
  have hc9 : W3.cell? ⟨W.heap.size + 1, 9, none⟩ = some (.int .u64 ((fieldV x 10 44 : Nat) : Int)) := by rw [hW3]; simp [go_sem]
  have hz0 : W3.cell? ⟨W.heap.size, 0, none⟩ = some (.bool false) := by rw [hW3]; simp [go_sem]
  have hz1 : W3.cell? ⟨W.heap.size, 1, none⟩ = some (.bool false) := by rw [hW3]; simp [go_sem]
  have hz2 : W3.cell? ⟨W.heap.size, 2, none⟩ = some (.bool false) := by rw [hW3]; simp [go_sem]
  have hz3 : W3.cell? ⟨W.heap.size, 3, none⟩ = some (.bool false) := by rw [hW3]; simp [go_sem]
  have hz4 : W3.cell? ⟨W.heap.size, 4, none⟩ = some (.bool false) := by rw [hW3]; simp [go_sem]
  have hz5 : W3.cell? ⟨W.heap.size, 5, none⟩ = some (.bool false) := by rw [hW3]; simp [go_sem]
  have hz6 : W3.cell? ⟨W.heap.size, 6, none⟩ = some (.bool false) := by rw [hW3]; simp [go_sem]
  have hz7 : W3.cell? ⟨W.heap.size, 7, none⟩ = some (.bool false) := by rw [hW3]; simp [go_sem]
  have hz8 : W3.cell? ⟨W.heap.size, 8, none⟩ = some (.int .i64 0) := by rw [hW3]; simp [go_sem]
  have hz9 : W3.cell? ⟨W.heap.size, 9, none⟩ = some (.int .u64 0) := by rw [hW3]; simp [go_sem]
  clear hW3
  have HB := Lib.hid hb
  clear hb
  have hs0 := fun W' (h : Save W.heap.size W3.drew W') => (h ⟨W.heap.size + 1, 0, none⟩ (by simp)).trans hc0
  have hs1 := fun W' (h : Save W.heap.size W3.drew W') => (h ⟨W.heap.size + 1, 1, none⟩ (by simp)).trans hc1
  have hs2 := fun W' (h : Save W.heap.size W3.drew W') => (h ⟨W.heap.size + 1, 2, none⟩ (by simp)).trans hc2
  have hs3 := fun W' (h : Save W.heap.size W3.drew W') => (h ⟨W.heap.size + 1, 3, none⟩ (by simp)).trans hc3
  have hs4 := fun W' (h : Save W.heap.size W3.drew W') => (h ⟨W.heap.size + 1, 4, none⟩ (by simp)).trans hc4
  have hs5 := fun W' (h : Save W.heap.size W3.drew W') => (h ⟨W.heap.size + 1, 5, none⟩ (by simp)).trans hc5
  have hs6 := fun W' (h : Save W.heap.size W3.drew W') => (h ⟨W.heap.size + 1, 6, none⟩ (by simp)).trans hc6
  have hs7 := fun W' (h : Save W.heap.size W3.drew W') => (h ⟨W.heap.size + 1, 7, none⟩ (by simp)).trans hc7
  have hs8 := fun W' (h : Save W.heap.size W3.drew W') => (h ⟨W.heap.size + 1, 8, none⟩ (by simp)).trans hc8
  have hs9 := fun W' (h : Save W.heap.size W3.drew W') => (h ⟨W.heap.size + 1, 9, none⟩ (by simp)).trans hc9
  refine wp_region_plan_by (Save W.heap.size) (later_save _) [(0, false), (1, false), (2, true), (3, false), (4, true), (5, false)] (by kernel_rfl) (by kernel_rfl) (fun _ d _ _ _ h => by cases d <;> exact h) ?_
  iterate 2 (refine plan_take (v := ?_) rfl (by kernel_rfl) ?_ ?_; rotate_left; (focus (intro w' hw'; try go_simp; try with_reducible rfl)); simp only [Act.put, List.setIfInBounds_toArray, List.set_cons_zero, List.set_cons_succ])
  refine plan_call rfl (by kernel_rfl) (by go_simp; exact ⟨rfl, rfl⟩) ?_
  refine (field64_any x 54 10 _ HX.out (by decide) (by decide) (by decide)).mono ?_
  rintro e w' ⟨rfl, rfl⟩
  refine ⟨_, rfl, (later_save _).refl _, ?_⟩
  simp only [Act.put, List.setIfInBounds_toArray, List.set_cons_zero, List.set_cons_succ]
  iterate 1 (refine plan_take (v := ?_) rfl (by kernel_rfl) ?_ ?_; rotate_left; (focus (intro w' hw'; try go_simp; try with_reducible rfl)); simp only [Act.put, List.setIfInBounds_toArray, List.set_cons_zero, List.set_cons_succ])
  refine plan_turn rfl (by kernel_rfl) (fun K hK => ?_)
  go_simp
  refine hK _ _ ⟨pte_save_drew (by repeat (first | (with_reducible exact (later_save _).refl _) | (with_reducible refine pte_save_set ?_))), ?_⟩
  iterate 1 (refine plan_take (v := ?_) rfl (by kernel_rfl) ?_ ?_; rotate_left; (focus (intro w' hw'; try go_simp; try with_reducible rfl)); simp only [Act.put, List.setIfInBounds_toArray, List.set_cons_zero, List.set_cons_succ])
  refine plan_end ?_
  clear hs0 hs1 hs2 hs3 hs4 hs5 hs6 hs7 hs8 hs9 hc0 hc1 hc2 hc3 hc4 hc5 hc6 hc7 hc8 hc9
  go_wp2
  refine bodyPost_ret (v := .tuple #[.agg #[.bool (((fieldV x 0 1 : Nat) : Int) == 1), .bool (((fieldV x 1 1 : Nat) : Int) == 1), .bool (((fieldV x 2 1 : Nat) : Int) == 1), .bool (((fieldV x 3 1 : Nat) : Int) == 1), .bool (((fieldV x 4 1 : Nat) : Int) == 1), .bool (((fieldV x 5 1 : Nat) : Int) == 1), .bool (((fieldV x 6 1 : Nat) : Int) == 1), .bool (((fieldV x 7 1 : Nat) : Int) == 1), .int .i64 (wrap64 ((fieldV x 8 2 : Nat) : Int)), .int .u64 ((fieldV x 10 44 : Nat) : Int)], .bool (((fieldV x 54 10 : Nat) : Int) == 0)]) (by simp [results, Try.results59, go_sem, hz0, hz1, hz2, hz3, hz4, hz5, hz6, hz7, hz8, hz9]) rfl ⟨?_, ?_⟩
  rotate_left
  · have hB := HB.out
    repeat (first | (with_reducible exact hB) | (with_reducible refine Below.drew ?_) | (with_reducible refine Below.setCell ?_ (by simp) _))
  rw [rget_eq x]
  have hv := HX.out
  have e : (((fieldV x 54 10 : Nat) : Int) == 0) = (x / 18014398509481984 == 0) := by
    rw [Bool.eq_iff_iff]
    simp only [fieldV, beq_iff_eq, Nat.reducePow]
    omega
  rw [e]
end Go.Proofs.Ytbgagmpinekhpaa

/- Contract of the reference's Put. -/
namespace Go.Proofs.Ytbgagmpinekhpaa
open Go.RowKit

theorem one_any (b : Bool) (w : World) :
    Calls Try.prog 70 #[.bool b] w fun e w' => e = .returned (.int .u64 ((bt b : Nat) : Int)) ∧ w = w' := by
  cases b
  all_goals
    go_enter Try.func70, Try.ntmps70
    go_wp2
    go_ret
    exact ⟨rfl, rfl⟩
theorem bt_le (b : Bool) : bt b ≤ 1 := by cases b <;> decide

theorem tmod4 (n : Int) : (0 ≤ n.tmod 4 ∧ n.tmod 4 = n % 4) ∨ (n.tmod 4 < 0 ∧ n.tmod 4 + 4 = n % 4) := by
  by_cases h : 0 ≤ n
  · rw [Int.tmod_eq_emod_of_nonneg h]; omega
  · have h1 : (-n).tmod 4 = -n % 4 := Int.tmod_eq_emod_of_nonneg (by omega)
    rw [Int.neg_tmod] at h1
    omega

theorem rput_eq (v r w x u g a d : Bool) (rsw ppn Q : Int) (hp : 0 ≤ ppn ∧ ppn < 18446744073709551616) (hQ : Q = rsw % 4) :
    IntKind.u64.wrap (IntKind.u64.wrap (IntKind.u64.wrap (IntKind.u64.wrap (IntKind.u64.wrap (IntKind.u64.wrap (IntKind.u64.wrap (IntKind.u64.wrap (IntKind.u64.wrap ((bt v : Int) + IntKind.u64.wrap (2 * (bt r : Int))) + IntKind.u64.wrap (4 * (bt w : Int))) + IntKind.u64.wrap (8 * (bt x : Int))) + IntKind.u64.wrap (16 * (bt u : Int))) + IntKind.u64.wrap (32 * (bt g : Int))) + IntKind.u64.wrap (64 * (bt a : Int))) + IntKind.u64.wrap (128 * (bt d : Int))) + IntKind.u64.wrap (256 * IntKind.u64.wrap Q)) + IntKind.u64.wrap (1024 * ppn.tmod 17592186044416)) = ((putV v r w x u g a d rsw ppn : Nat) : Int) := by
  have := bt_le v
  have := bt_le r
  have := bt_le w
  have := bt_le x
  have := bt_le u
  have := bt_le g
  have := bt_le a
  have := bt_le d
  rw [Int.tmod_eq_emod_of_nonneg hp.1]
  have hq : 0 ≤ Q ∧ Q < 4 := by omega
  rw [IntWalk.u64_in (2 * (bt r : Int)) (by omega), IntWalk.u64_in ((bt v : Int) + (2 * (bt r : Int))) (by omega), IntWalk.u64_in (4 * (bt w : Int)) (by omega), IntWalk.u64_in (((bt v : Int) + (2 * (bt r : Int))) + (4 * (bt w : Int))) (by omega), IntWalk.u64_in (8 * (bt x : Int)) (by omega), IntWalk.u64_in ((((bt v : Int) + (2 * (bt r : Int))) + (4 * (bt w : Int))) + (8 * (bt x : Int))) (by omega), IntWalk.u64_in (16 * (bt u : Int)) (by omega), IntWalk.u64_in (((((bt v : Int) + (2 * (bt r : Int))) + (4 * (bt w : Int))) + (8 * (bt x : Int))) + (16 * (bt u : Int))) (by omega), IntWalk.u64_in (32 * (bt g : Int)) (by omega), IntWalk.u64_in ((((((bt v : Int) + (2 * (bt r : Int))) + (4 * (bt w : Int))) + (8 * (bt x : Int))) + (16 * (bt u : Int))) + (32 * (bt g : Int))) (by omega), IntWalk.u64_in (64 * (bt a : Int)) (by omega), IntWalk.u64_in (((((((bt v : Int) + (2 * (bt r : Int))) + (4 * (bt w : Int))) + (8 * (bt x : Int))) + (16 * (bt u : Int))) + (32 * (bt g : Int))) + (64 * (bt a : Int))) (by omega), IntWalk.u64_in (128 * (bt d : Int)) (by omega), IntWalk.u64_in ((((((((bt v : Int) + (2 * (bt r : Int))) + (4 * (bt w : Int))) + (8 * (bt x : Int))) + (16 * (bt u : Int))) + (32 * (bt g : Int))) + (64 * (bt a : Int))) + (128 * (bt d : Int))) (by omega), IntWalk.u64_in Q (by omega), IntWalk.u64_in (256 * Q) (by omega), IntWalk.u64_in (((((((((bt v : Int) + (2 * (bt r : Int))) + (4 * (bt w : Int))) + (8 * (bt x : Int))) + (16 * (bt u : Int))) + (32 * (bt g : Int))) + (64 * (bt a : Int))) + (128 * (bt d : Int))) + 256 * Q) (by omega), IntWalk.u64_in (1024 * (ppn % 17592186044416)) (by omega), IntWalk.u64_in ((((((((((bt v : Int) + (2 * (bt r : Int))) + (4 * (bt w : Int))) + (8 * (bt x : Int))) + (16 * (bt u : Int))) + (32 * (bt g : Int))) + (64 * (bt a : Int))) + (128 * (bt d : Int))) + 256 * Q) + 1024 * (ppn % 17592186044416)) (by omega)]
  unfold putV
  omega

set_option maxHeartbeats 4000000 in
theorem rput_any (v r w x u g a d : Bool) (rsw ppn : Int) (W : World) (hp : 0 ≤ ppn ∧ ppn < 18446744073709551616) :
    Calls Try.prog 60 #[.agg #[.bool v, .bool r, .bool w, .bool x, .bool u, .bool g, .bool a, .bool d, .int .i64 rsw, .int .u64 ppn]] W fun e w' => e = .returned (.int .u64 ((putV v r w x u g a d rsw ppn : Nat) : Int)) ∧ Below W.heap.size W w' := by
  have hs : (rsw.tmod 4 < 0 ∧ rsw.tmod 4 + 4 = rsw % 4) ∨ (¬ rsw.tmod 4 < 0 ∧ rsw.tmod 4 = rsw % 4) := by
    have := tmod4 rsw
    omega
  have hm : rsw.tmod 4 < 4 ∧ -4 < rsw.tmod 4 := ⟨Int.tmod_lt_of_pos _ (by decide), Int.lt_tmod_of_pos _ (by decide)⟩
  generalize hR : rsw.tmod 4 = R at hs hm
  have HP := Lib.hid hp
  clear hp
  obtain ⟨hm1, hm2⟩ := hm
  rcases hs with ⟨h1, h2⟩ | ⟨h1, h2⟩
  all_goals
    have H2 := Lib.hid h2
    clear h2
    go_enter Try.func60, Try.ntmps60
    go_wp2_with fail
    refine pte_wp_world (fun W3 hW3 => ?_)
    have hc0 : W3.cell? ⟨W.heap.size, 0, none⟩ = some (.bool v) := by rw [hW3]; simp [go_sem]
    have hc1 : W3.cell? ⟨W.heap.size, 1, none⟩ = some (.bool r) := by rw [hW3]; simp [go_sem]
    have hc2 : W3.cell? ⟨W.heap.size, 2, none⟩ = some (.bool w) := by rw [hW3]; simp [go_sem]
    have hc3 : W3.cell? ⟨W.heap.size, 3, none⟩ = some (.bool x) := by rw [hW3]; simp [go_sem]
    have hc4 : W3.cell? ⟨W.heap.size, 4, none⟩ = some (.bool u) := by rw [hW3]; simp [go_sem]
    have hc5 : W3.cell? ⟨W.heap.size, 5, none⟩ = some (.bool g) := by rw [hW3]; simp [go_sem]
    have hc6 : W3.cell? ⟨W.heap.size, 6, none⟩ = some (.bool a) := by rw [hW3]; simp [go_sem]
    have hc7 : W3.cell? ⟨W.heap.size, 7, none⟩ = some (.bool d) := by rw [hW3]; simp [go_sem]
    have hc8 : W3.cell? ⟨W.heap.size, 8, none⟩ = some (.int .i64 rsw) := by rw [hW3]; simp [go_sem]
    have hc9 : W3.cell? ⟨W.heap.size, 9, none⟩ = some (.int .u64 ppn) := by rw [hW3]; simp [go_sem]
    have hb : Below W.heap.size W W3 := by rw [hW3]; go_grown
    have hl : W.heap.size < W3.heap.size := cell_lt hc0
    clear hW3
    have HB := Lib.hid hb
    clear hb
    have hs0 := fun W' (h : Ext W3.drew W') => (h.cell (p := ⟨W.heap.size, 0, none⟩) hl).trans hc0
    have hs1 := fun W' (h : Ext W3.drew W') => (h.cell (p := ⟨W.heap.size, 1, none⟩) hl).trans hc1
    have hs2 := fun W' (h : Ext W3.drew W') => (h.cell (p := ⟨W.heap.size, 2, none⟩) hl).trans hc2
    have hs3 := fun W' (h : Ext W3.drew W') => (h.cell (p := ⟨W.heap.size, 3, none⟩) hl).trans hc3
    have hs4 := fun W' (h : Ext W3.drew W') => (h.cell (p := ⟨W.heap.size, 4, none⟩) hl).trans hc4
    have hs5 := fun W' (h : Ext W3.drew W') => (h.cell (p := ⟨W.heap.size, 5, none⟩) hl).trans hc5
    have hs6 := fun W' (h : Ext W3.drew W') => (h.cell (p := ⟨W.heap.size, 6, none⟩) hl).trans hc6
    have hs7 := fun W' (h : Ext W3.drew W') => (h.cell (p := ⟨W.heap.size, 7, none⟩) hl).trans hc7
    have hs8 := fun W' (h : Ext W3.drew W') => (h.cell (p := ⟨W.heap.size, 8, none⟩) hl).trans hc8
    have hs9 := fun W' (h : Ext W3.drew W') => (h.cell (p := ⟨W.heap.size, 9, none⟩) hl).trans hc9
    refine wp_region_plan [(0, false), (1, false), (3, false), (4, false), (8, false), (9, false), (13, false), (14, false), (18, false), (19, false), (23, false), (24, false), (28, false), (29, false), (33, false), (34, false), (2, true), (5, true), (6, false), (7, false), (10, true), (11, false), (12, false), (15, true), (16, false), (17, false), (20, true), (21, false), (22, false), (25, true), (26, false), (27, false), (30, true), (31, false), (32, false), (35, true), (36, false), (37, false), (38, false)] (by kernel_rfl) (by kernel_rfl) (fun _ d _ _ _ h => by cases d <;> exact h) ?_
    iterate 16 (refine plan_take (v := ?_) rfl (by kernel_rfl) ?_ ?_; rotate_left; (focus (intro w' hw'; try go_simp; try with_reducible rfl)); simp only [Act.put, List.setIfInBounds_toArray, List.set_cons_zero, List.set_cons_succ])
    refine plan_call rfl (by kernel_rfl) (by go_simp; exact ⟨rfl, rfl⟩) ?_
    refine (one_any _ _).mono ?_
    rintro e w' ⟨rfl, rfl⟩
    refine ⟨_, rfl, Ext.refl _, ?_⟩
    simp only [Act.put, List.setIfInBounds_toArray, List.set_cons_zero, List.set_cons_succ]
    refine plan_call rfl (by kernel_rfl) (by go_simp; exact ⟨rfl, rfl⟩) ?_
    refine (one_any _ _).mono ?_
    rintro e w' ⟨rfl, rfl⟩
    refine ⟨_, rfl, Ext.refl _, ?_⟩
    simp only [Act.put, List.setIfInBounds_toArray, List.set_cons_zero, List.set_cons_succ]
    iterate 2 (refine plan_take (v := ?_) rfl (by kernel_rfl) ?_ ?_; rotate_left; (focus (intro w' hw'; try go_simp; try with_reducible rfl)); simp only [Act.put, List.setIfInBounds_toArray, List.set_cons_zero, List.set_cons_succ])
    refine plan_call rfl (by kernel_rfl) (by go_simp; exact ⟨rfl, rfl⟩) ?_
    refine (one_any _ _).mono ?_
    rintro e w' ⟨rfl, rfl⟩
    refine ⟨_, rfl, Ext.refl _, ?_⟩
    simp only [Act.put, List.setIfInBounds_toArray, List.set_cons_zero, List.set_cons_succ]
    iterate 2 (refine plan_take (v := ?_) rfl (by kernel_rfl) ?_ ?_; rotate_left; (focus (intro w' hw'; try go_simp; try with_reducible rfl)); simp only [Act.put, List.setIfInBounds_toArray, List.set_cons_zero, List.set_cons_succ])
    refine plan_call rfl (by kernel_rfl) (by go_simp; exact ⟨rfl, rfl⟩) ?_
    refine (one_any _ _).mono ?_
    rintro e w' ⟨rfl, rfl⟩
    refine ⟨_, rfl, Ext.refl _, ?_⟩
    simp only [Act.put, List.setIfInBounds_toArray, List.set_cons_zero, List.set_cons_succ]
    iterate 2 (refine plan_take (v := ?_) rfl (by kernel_rfl) ?_ ?_; rotate_left; (focus (intro w' hw'; try go_simp; try with_reducible rfl)); simp only [Act.put, List.setIfInBounds_toArray, List.set_cons_zero, List.set_cons_succ])
    refine plan_call rfl (by kernel_rfl) (by go_simp; exact ⟨rfl, rfl⟩) ?_
    refine (one_any _ _).mono ?_
    rintro e w' ⟨rfl, rfl⟩
    refine ⟨_, rfl, Ext.refl _, ?_⟩
    simp only [Act.put, List.setIfInBounds_toArray, List.set_cons_zero, List.set_cons_succ]
    iterate 2 (refine plan_take (v := ?_) rfl (by kernel_rfl) ?_ ?_; rotate_left; (focus (intro w' hw'; try go_simp; try with_reducible rfl)); simp only [Act.put, List.setIfInBounds_toArray, List.set_cons_zero, List.set_cons_succ])
    refine plan_call rfl (by kernel_rfl) (by go_simp; exact ⟨rfl, rfl⟩) ?_
    refine (one_any _ _).mono ?_
    rintro e w' ⟨rfl, rfl⟩
    refine ⟨_, rfl, Ext.refl _, ?_⟩
    simp only [Act.put, List.setIfInBounds_toArray, List.set_cons_zero, List.set_cons_succ]
    iterate 2 (refine plan_take (v := ?_) rfl (by kernel_rfl) ?_ ?_; rotate_left; (focus (intro w' hw'; try go_simp; try with_reducible rfl)); simp only [Act.put, List.setIfInBounds_toArray, List.set_cons_zero, List.set_cons_succ])
    refine plan_call rfl (by kernel_rfl) (by go_simp; exact ⟨rfl, rfl⟩) ?_
    refine (one_any _ _).mono ?_
    rintro e w' ⟨rfl, rfl⟩
    refine ⟨_, rfl, Ext.refl _, ?_⟩
    simp only [Act.put, List.setIfInBounds_toArray, List.set_cons_zero, List.set_cons_succ]
    iterate 2 (refine plan_take (v := ?_) rfl (by kernel_rfl) ?_ ?_; rotate_left; (focus (intro w' hw'; try go_simp; try with_reducible rfl)); simp only [Act.put, List.setIfInBounds_toArray, List.set_cons_zero, List.set_cons_succ])
    refine plan_call rfl (by kernel_rfl) (by go_simp; exact ⟨rfl, rfl⟩) ?_
    refine (one_any _ _).mono ?_
    rintro e w' ⟨rfl, rfl⟩
    refine ⟨_, rfl, Ext.refl _, ?_⟩
    simp only [Act.put, List.setIfInBounds_toArray, List.set_cons_zero, List.set_cons_succ]
    iterate 3 (refine plan_take (v := ?_) rfl (by kernel_rfl) ?_ ?_; rotate_left; (focus (intro w' hw'; try go_simp; try with_reducible rfl)); simp only [Act.put, List.setIfInBounds_toArray, List.set_cons_zero, List.set_cons_succ])
    refine plan_end ?_
    go_wp2_with fail
    have hp9 := fun W' (h : Ext W3.drew.drew W') => (h.cell (p := ⟨W.heap.size, 9, none⟩) hl).trans hc9
    refine wp_region_plan [(0, false), (1, false), (2, false), (3, false), (4, false), (5, false), (6, false), (7, true), (8, false), (9, false), (10, false), (11, false)] (by kernel_rfl) (by kernel_rfl) (fun _ d _ _ _ h => by cases d <;> exact h) ?_
    iterate 7 (refine plan_take (v := ?_) rfl (by kernel_rfl) ?_ ?_; rotate_left; (focus (intro w' hw'; try go_simp; try with_reducible rfl)); simp only [Act.put, List.setIfInBounds_toArray, List.set_cons_zero, List.set_cons_succ])
    refine plan_call rfl (by kernel_rfl) (by go_simp; exact ⟨rfl, rfl⟩) ?_
    refine (pow_any _ _ (by decide) (by decide)).mono ?_
    rintro e w' ⟨rfl, rfl⟩
    rw [show ((2 ^ (44 : Int).toNat : Nat) : Int) = 17592186044416 from rfl]
    refine ⟨_, rfl, Ext.refl _, ?_⟩
    simp only [Act.put, List.setIfInBounds_toArray, List.set_cons_zero, List.set_cons_succ]
    iterate 4 (refine plan_take (v := ?_) rfl (by kernel_rfl) ?_ ?_; rotate_left; (focus (intro w' hw'; try go_simp; try with_reducible rfl)); simp only [Act.put, List.setIfInBounds_toArray, List.set_cons_zero, List.set_cons_succ])
    refine plan_end ?_
    go_wp2
    go_ret
    refine ⟨congrArg (fun n => Ending.returned (.int .u64 n)) ?_, by have hB := HB.out; repeat (first | (with_reducible exact hB) | (with_reducible refine Below.drew ?_))⟩
    clear hs0 hs1 hs2 hs3 hs4 hs5 hs6 hs7 hs8 hs9 hp9 hc0 hc1 hc2 hc3 hc4 hc5 hc6 hc7 hc8 hc9
    exact rput_eq v r w x u g a d rsw ppn _ HP.out H2.out
end Go.Proofs.Ytbgagmpinekhpaa
