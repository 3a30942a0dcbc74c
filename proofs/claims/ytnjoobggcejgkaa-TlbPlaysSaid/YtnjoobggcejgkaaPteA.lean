/- Contracts of the packages pte and its reference: numbers of addresses. -/
import Derived.Test.YtnjoobggcejgkaaPlan
import Derived.IntWalk
import Derived.Laws.BitsAllLaws
import Derived.Laws.Bits64b
namespace Go.Proofs.Ytnjoobggcejgkaa
open Go.RowKit

def levelB (n : Int) : Bool := n == 0 || n == 1 || n == 2
theorem level_cases {n : Int} (h : levelB n = true) : n = 0 ∨ n = 1 ∨ n = 2 := by simp [levelB] at h; omega
theorem level_not {n : Int} (h : levelB n = false) : n < 0 ∨ 2 < n := by simp [levelB] at h; omega
theorem levelB_eq (n : Int) : levelB n = (decide (0 ≤ n) && decide (n < 3)) := by
  rw [Bool.eq_iff_iff]; simp [levelB]; omega

theorem rlevel_any (n : Int) (w : World) :
    Calls Try.prog 29 #[.int .i64 n] w fun e w' => e = .returned (.bool (levelB n)) ∧ w = w' := by
  unfold levelB
  go_enter Try.func29, Try.ntmps29
  go_wp2
  all_goals (go_ret; refine ⟨?_, rfl⟩; first | rfl | simp [*])

theorem wrap_dbl (i : Nat) (h : i < 63) : IntKind.u64.wrap (((2 ^ i : Nat) : Int) * 2) = ((2 ^ (i + 1) : Nat) : Int) := by
  have h1 : 2 ^ i ≤ 2 ^ 62 := Nat.pow_le_pow_right (by decide) (by omega)
  rw [Nat.pow_succ]
  generalize 2 ^ i = P at *
  rw [IntWalk.u64_in _ (by omega)]
  omega
theorem pow_any (k : Int) (w : World) (h0 : 0 ≤ k) (h1 : k ≤ 63) :
    Calls Try.prog 31 #[.int .i64 k] w fun e w' => e = .returned (.int .u64 ((2 ^ k.toNat : Nat) : Int)) ∧ w = w' := by
  obtain ⟨n, rfl⟩ := Int.eq_ofNat_of_zero_le h0
  have hn : n ≤ 63 := by omega
  clear h0 h1
  rw [show (n : Int).toNat = n from rfl]
  go_enter Try.func31, Try.ntmps31
  go_wp2
  go_loop [3, 4] (fun p i => ∃ j : Nat, j ≤ n ∧ i = .int .i64 j ∧ p = .int .u64 ((2 ^ j : Nat) : Int)) (fun _ i => (n - intOf i).toNat)
  case atStart => exact ⟨0, by omega, rfl, rfl⟩
  case round =>
    obtain ⟨j, hj, rfl, rfl⟩ := hrel
    by_cases hlt : j < n
    · have hw := wrap_dbl j (by omega)
      have HW := Lib.hid hw
      clear hw
      go_wp2
      have hw := HW.out
      rw [Int.natCast_pow, Int.natCast_pow] at hw
      exact ⟨⟨j + 1, by omega, by go_num, by rw [Int.natCast_pow]; exact congrArg (Value.int .u64) hw⟩, by simp [intOf]; omega⟩
    · obtain rfl : j = n := by omega
      go_wp2
      go_ret
      exact ⟨by simp, rfl⟩

def fieldV (v a n : Nat) : Nat := v / 2 ^ a % 2 ^ n
theorem fieldV_lt (v a n : Nat) : fieldV v a n < 2 ^ n := Nat.mod_lt _ (Nat.two_pow_pos n)
theorem div_u64 (v P : Nat) (hv : v < 18446744073709551616) : IntKind.u64.wrap ((v : Int) / (P : Int)) = (v : Int) / (P : Int) := by
  have h : v / P ≤ v := Nat.div_le_self _ _
  rw [← Int.natCast_ediv]
  generalize v / P = x at *
  exact IntWalk.u64_in _ (by omega)
theorem fin_field (v P R : Nat) : ((v : Int) / (P : Int)).tmod (R : Int) = ((v / P % R : Nat) : Int) := by
  rw [← Int.natCast_ediv, Int.tmod_eq_emod_of_nonneg (Int.natCast_nonneg _), ← Int.natCast_emod]

theorem field_any (v : Nat) (a n : Int) (w : World) (hv : v < 18446744073709551616) (ha : 0 ≤ a) (hn : 0 ≤ n) (hn63 : n ≤ 63) (h : a + n ≤ 63) :
    Calls Try.prog 30 #[.int .u64 v, .int .i64 a, .int .i64 n] w fun e w' => e = .returned (.int .u64 ((fieldV v a.toNat n.toNat : Nat) : Int)) ∧ Below w.heap.size w w' := by
  unfold fieldV
  have hp := Nat.two_pow_pos a.toNat
  generalize hP : 2 ^ a.toNat = P at hp ⊢
  have hr := Nat.two_pow_pos n.toNat
  generalize hR : 2 ^ n.toNat = R at hr ⊢
  have HP := Lib.hid hP
  have HR := Lib.hid hR
  clear hP hR
  have e64 : ((a + n : Int) == 64) = false := by rw [beq_eq_false_iff_ne]; omega
  go_enter Try.func30, Try.ntmps30
  go_wp2_with fail
  refine wp_region_plan [(0, false), (1, false), (4, false), (2, true), (3, false), (5, true), (6, false), (7, false)] (by kernel_rfl) (by kernel_rfl) (fun _ d _ _ _ h => by cases d <;> exact h) ?_
  iterate 3 (refine plan_take (v := ?_) rfl (by kernel_rfl) ?_ ?_; rotate_left; (focus (intro w' hw'; try go_simp; try with_reducible rfl)); simp only [Act.put, List.setIfInBounds_toArray, List.set_cons_zero, List.set_cons_succ])
  refine plan_call rfl (by kernel_rfl) (by go_simp; exact ⟨rfl, rfl⟩) ?_
  refine (pow_any a _ ha (by omega)).mono ?_
  rintro e w' ⟨rfl, rfl⟩
  rw [HP.out]
  refine ⟨_, rfl, Ext.refl _, ?_⟩
  simp only [Act.put, List.setIfInBounds_toArray, List.set_cons_zero, List.set_cons_succ]
  have hz : ¬ (P = 0) := by omega
  have hd := div_u64 v P hv
  iterate 1 (refine plan_take (v := ?_) rfl (by kernel_rfl) ?_ ?_; rotate_left; (focus (intro w' hw'; try go_simp; try with_reducible rfl)); simp only [Act.put, List.setIfInBounds_toArray, List.set_cons_zero, List.set_cons_succ])
  refine plan_call rfl (by kernel_rfl) (by go_simp; exact ⟨rfl, rfl⟩) ?_
  refine (pow_any n _ hn hn63).mono ?_
  rintro e w' ⟨rfl, rfl⟩
  rw [HR.out]
  refine ⟨_, rfl, Ext.refl _, ?_⟩
  simp only [Act.put, List.setIfInBounds_toArray, List.set_cons_zero, List.set_cons_succ]
  have hzr : ¬ (R = 0) := by omega
  iterate 2 (refine plan_take (v := ?_) rfl (by kernel_rfl) ?_ ?_; rotate_left; (focus (intro w' hw'; try go_simp; try with_reducible rfl)); simp only [Act.put, List.setIfInBounds_toArray, List.set_cons_zero, List.set_cons_succ])
  refine plan_end ?_
  clear hd hz hzr
  go_wp2
  go_ret
  exact ⟨by rw [← fin_field]; rfl, (Below.refl _ _).drew⟩

/-! Numbers of an address. -/
def shV (n : Int) : Nat := if n = 0 then 12 else if n = 1 then 21 else 30
def indexV (va : Nat) (n : Int) : Nat := if levelB n then fieldV va (shV n) 9 else 0
def spanV (n : Int) : Nat := if levelB n then 2 ^ shV n else 0
theorem indexV_not (va : Nat) (n : Int) (h : levelB n = false) : indexV va n = 0 := by simp [indexV, h]
theorem spanV_not (n : Int) (h : levelB n = false) : spanV n = 0 := by simp [spanV, h]
theorem and_mask (v k : Nat) (m : Int) (hk : k ≤ 63) (hm : m = ((2 ^ k - 1 : Nat) : Int)) (hv : v < 18446744073709551616) : bits .and .u64 (v : Int) m = ((v % 2 ^ k : Nat) : Int) := by
  have h1 : 2 ^ k ≤ 2 ^ 63 := Nat.pow_le_pow_right (by decide) hk
  have h2 := Nat.two_pow_pos k
  rw [hm, bits_and_u64_nat _ _ hv (by omega), Nat.and_two_pow_sub_one_eq_mod]
theorem index_eq (va k : Nat) (d : Int) (hd : d = ((2 ^ k : Nat) : Int)) (hv : va < 18446744073709551616) : wrap64 (bits .and .u64 ((va : Int) / d) 511) = ((fieldV va k 9 : Nat) : Int) := by
  have h : va / 2 ^ k ≤ va := Nat.div_le_self _ _
  have h2 : va / 2 ^ k % 512 < 512 := Nat.mod_lt _ (by decide)
  unfold fieldV
  rw [hd, ← Int.natCast_ediv]
  generalize va / 2 ^ k = x at *
  rw [and_mask _ 9 511 (by decide) rfl (by omega), IntWalk.wrap64_in _ (by omega)]
theorem wrap_field (va k : Nat) : wrap64 ((fieldV va k 9 : Nat) : Int) = ((fieldV va k 9 : Nat) : Int) := by
  have := fieldV_lt va k 9
  exact IntWalk.wrap64_in _ (by omega)

theorem rindex_any (va : Nat) (n : Int) (w : World) (hv : va < 18446744073709551616) :
    Calls Try.prog 28 #[.int .u64 va, .int .i64 n] w fun e w' => e = .returned (.int .i64 ((indexV va n : Nat) : Int)) ∧ Below w.heap.size w w' := by
  rcases Bool.eq_false_or_eq_true (levelB n) with h1 | h1
  · rcases level_cases h1 with rfl | rfl | rfl
    all_goals
      have H1 := Lib.hid h1
      have HV := Lib.hid hv
      clear h1 hv
      go_enter Try.func28, Try.ntmps28
      go_wp2_with (first | (go_at_call 29; refine (rlevel_any _ _).mono ?_; rintro e w' ⟨rfl, rfl⟩; rw [H1.out]) | (go_at_call 30; refine (field_any _ _ _ _ HV.out (by decide) (by decide) (by decide) (by decide)).mono ?_; rintro e w1 ⟨rfl, hb⟩))
      go_ret
      refine ⟨?_, hb⟩
      first
      | exact congrArg (fun x => Ending.returned (.int .i64 x)) (wrap_field va 12)
      | exact congrArg (fun x => Ending.returned (.int .i64 x)) (wrap_field va 21)
      | exact congrArg (fun x => Ending.returned (.int .i64 x)) (wrap_field va 30)
  · have H1 := Lib.hid h1
    clear h1
    go_enter Try.func28, Try.ntmps28
    go_wp2_with (go_at_call 29; refine (rlevel_any _ _).mono ?_; rintro e w' ⟨rfl, rfl⟩; rw [H1.out])
    go_ret
    exact ⟨by rw [indexV_not va n H1.out]; rfl, Below.refl _ _⟩

end Go.Proofs.Ytnjoobggcejgkaa
