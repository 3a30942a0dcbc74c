/- The walk of the law WordBack. -/
import Derived.Test.YtggpmfgmdhfpaaaWordM
namespace Go.Proofs.Ytggpmfgmdhfpaaa
open Go.RowKit Go.ChangeShapes

theorem byteOf_sign (v : Nat) (s : Int) (i : Nat) (h : sizeB s = true) (hi : i < s.toNat) : byteOf (signV v s) i = byteOf v i := by
  have key : signV v s % 256 ^ s.toNat = v % 256 ^ s.toNat := by
    unfold signV
    rcases size_cases h with rfl | rfl | rfl | rfl
    · show (if v % 256 < 128 then v % 256 else v % 256 + 18446744073709551360) % 256 = v % 256
      split <;> omega
    · show (if v % 65536 < 32768 then v % 65536 else v % 65536 + 18446744073709486080) % 65536 = v % 65536
      split <;> omega
    · show (if v % 4294967296 < 2147483648 then v % 4294967296 else v % 4294967296 + 18446744069414584320) % 4294967296 = v % 4294967296
      split <;> omega
    · rfl
  have h2 : ∀ x : Nat, byteOf (x % 256 ^ s.toNat) i = byteOf x i := fun x => by
    unfold byteOf
    obtain ⟨k, hk⟩ : ∃ k, s.toNat = i + (k + 1) := ⟨s.toNat - i - 1, by omega⟩
    rw [hk, Nat.pow_add, Nat.mod_mul_right_div_self, Nat.pow_succ, Nat.mul_comm (256 ^ k) 256]
    exact Nat.mod_mul_right_mod _ _ _
  rw [← h2 (signV v s), key, h2]
theorem bytesOf_sign (v : Nat) (s : Int) (h : sizeB s = true) : bytesOf (signV v s) s = bytesOf v s := by
  unfold bytesOf
  rw [if_pos h, if_pos h]
  exact List.map_congr_left fun i hi => byteOf_sign v s i h (by simpa using hi)
theorem cutV_sign (v : Nat) (s : Int) (hv : v < 18446744073709551616) (h : sizeB s = true) : cutV (signV v s) s = cutV v s := by
  rw [← leNat_bytesOf _ s (signV_lt v s hv) h, bytesOf_sign v s h, leNat_bytesOf v s hv h]

namespace Law
theorem WordBack_no (v a : Nat) (a2 : Int) (hv : v < 18446744073709551616) (ha : a < 18446744073709551616) (h1 : sizeB a2 = false) (w : World) :
    Calls Try.prog 6 #[.int .u64 v, .int .u64 a, .int .i64 a2] w fun e w' => e = .returned (.bool true) ∧ Below w.heap.size w w' := by
  have H1 := Lib.hid h1
  have HA := Lib.hid ha
  have HV := Lib.hid hv
  clear h1 ha hv
  go_enter Try.func6, Try.ntmps6
  go_wp2_with (first
    | (go_at_call 7; refine (first_ok _).mono ?_; rintro e w1 ⟨rfl, hb1⟩; have HB1 := Lib.hid hb1; clear hb1)
    | (go_at_call 11; refine (rsize_any _ _).mono ?_; rintro e w2 ⟨rfl, hb2⟩; rw [H1.out]; have HB2 := Lib.hid hb2; clear hb2)
    | (go_at_call 19; refine (aligned_any _ _ _ HA.out).mono ?_; rintro e w' ⟨rfl, rfl⟩; rw [show alignedB a a2 = false by simp [alignedB, H1.out]])
    | (go_at_call 14; refine (cut_any _ _ _ HV.out).mono ?_; rintro e w' ⟨rfl, rfl⟩; rw [cutV_size_not v a2 H1.out])
    | (go_at_call 16; refine (sign_any _ _ _ HV.out).mono ?_; rintro e w' ⟨rfl, rfl⟩; rw [signV_size_not v a2 H1.out])
    | (go_at_call 18; refine (bytes_no _ _ _ H1.out).mono ?_; rintro e w' ⟨rfl, rfl⟩))
  go_ret
  exact ⟨rfl, HB1.out.trans (HB2.out.mono HB1.out.size)⟩

theorem alignedB_eq (a : Nat) (s : Nat) (h : sizeB s = true) : alignedB a s = (((a : Int).tmod (s : Int)) == 0) := by
  unfold alignedB
  rw [h, Bool.true_and]
  by_cases hh : a % s = 0
  · rw [show ((s : Int).toNat) = s from rfl, hh, Int.tmod_eq_emod_of_nonneg (by omega)]
    have : (a : Int) % (s : Int) = 0 := by omega
    rw [this]; rfl
  · rw [show ((s : Int).toNat) = s from rfl, Int.tmod_eq_emod_of_nonneg (by omega), beq_false_of_ne hh]
    have : (a : Int) % (s : Int) ≠ 0 := by omega
    rw [beq_false_of_ne this]
set_option maxHeartbeats 1000000 in
theorem WordBack_yes (v a q : Nat) (hv : v < 18446744073709551616) (ha : a < 18446744073709551616) (h1 : sizeB q = true) (w : World) :
    Calls Try.prog 6 #[.int .u64 v, .int .u64 a, .int .i64 q] w fun e w' => e = .returned (.bool true) ∧ Below w.heap.size w w' := by
  have H1 := Lib.hid h1
  have HA := Lib.hid ha
  have HV := Lib.hid hv
  have HL := Lib.hid (bytesOf_length v q h1)
  have HT := Lib.hid (there_all q h1)
  have HG : Hid (getV (bytesOf v q) 0 q = cutV v q) := by
    show getV (bytesOf v q) 0 q = cutV v q
    rw [getV_all _ _ (by rw [bytesOf_length v q h1]; rfl), leNat_bytesOf v q hv h1]
  have hq := size_cases h1
  have hq8 : q ≤ 8 := by omega
  have hq1 : 1 ≤ q := by omega
  have HAL := Lib.hid (alignedB_eq a q h1)
  clear h1 ha hv hq
  go_enter Try.func6, Try.ntmps6
  go_wp2_with (first
    | (go_at_call 7; refine (first_ok _).mono ?_; rintro e w1 ⟨rfl, hb1⟩; have HB1 := Lib.hid hb1; clear hb1)
    | (go_at_call 11; refine (rsize_any _ _).mono ?_; rintro e w2 ⟨rfl, hb2⟩; rw [H1.out]; have HB2 := Lib.hid hb2; clear hb2)
    | (go_at_call 18; refine (bytes_any _ _ _ HV.out).mono ?_; rintro e w3 ⟨A, c, rfl, hB, hA, hb3⟩; rw [HL.out]; have HB3 := Lib.hid hb3; have HBB := Lib.hid hB; clear hB hA hb3)
    | (go_at_call 8; refine (get_at _ _ _ _ _ _ _ HL.out (by omega) HBB.out HT.out).mono ?_; rintro e w' ⟨rfl, rfl⟩; rw [HG.out]))
  have hcv : ∀ W, Ext w3.drew W → (convert 22 9 (.slice A q c)).run Try.prog W = .ok (.string (strB (bytesOf v q))) W := fun W hW => conv_bts (bts_below (w := w3.drew) HBB.out hW) HL.out
  refine wp_region_plan [(0, false), (1, false), (2, false), (3, false), (4, false), (5, false), (6, false), (7, false), (8, false), (9, false), (10, false), (11, true), (12, false), (13, false), (14, false), (15, false), (16, false), (18, false), (21, false), (22, false), (17, true), (19, true), (20, false), (23, false), (24, false), (25, false), (26, false), (27, false), (29, false), (31, false), (28, true), (30, true), (32, false), (33, false), (34, false), (35, false), (36, false), (38, false), (39, false), (40, false), (41, false), (42, false), (37, true), (43, false), (44, false), (45, false)] (by kernel_rfl) (by kernel_rfl) (fun _ d _ _ _ h => by cases d <;> exact h) ?_
  iterate 11 (refine plan_take (v := ?_) rfl (by kernel_rfl) ?_ ?_; rotate_left; (focus (intro w' hw'; go_simp; try with_reducible rfl)); simp only [Act.put, List.setIfInBounds_toArray, List.set_cons_zero, List.set_cons_succ])
  refine plan_call rfl (by kernel_rfl) (by go_simp; exact ⟨rfl, rfl⟩) ?_
  refine (cut_any _ _ _ HV.out).mono ?_
  rintro e w' ⟨rfl, rfl⟩
  refine ⟨_, rfl, Ext.refl _, ?_⟩
  simp only [Act.put, List.setIfInBounds_toArray, List.set_cons_zero, List.set_cons_succ]
  iterate 8 (refine plan_take (v := ?_) rfl (by kernel_rfl) ?_ ?_; rotate_left; (focus (intro w' hw'; go_simp; try with_reducible rfl)); simp only [Act.put, List.setIfInBounds_toArray, List.set_cons_zero, List.set_cons_succ])
  refine plan_call rfl (by kernel_rfl) (by go_simp; exact ⟨rfl, rfl⟩) ?_
  refine (sign_any _ _ _ HV.out).mono ?_
  rintro e w' ⟨rfl, rfl⟩
  refine ⟨_, rfl, Ext.refl _, ?_⟩
  simp only [Act.put, List.setIfInBounds_toArray, List.set_cons_zero, List.set_cons_succ]
  refine plan_call rfl (by kernel_rfl) (by go_simp; exact ⟨rfl, rfl⟩) ?_
  refine (bytes_any _ _ _ (signV_lt v q HV.out)).mono ?_
  rintro e w4 ⟨A2, c2, rfl, hB, hA, hb4⟩
  rw [bytesOf_sign v q H1.out] at hB ⊢
  rw [HL.out]
  refine ⟨_, rfl, hb4, ?_⟩
  simp only [Act.put, List.setIfInBounds_toArray, List.set_cons_zero, List.set_cons_succ]
  have hcv2 : ∀ W, Ext w4 W → (convert 22 9 (.slice A2 q c2)).run Try.prog W = .ok (.string (strB (bytesOf v q))) W := fun W hW => conv_bts (bts_below hB hW) HL.out
  iterate 8 (refine plan_take (v := ?_) rfl (by kernel_rfl) ?_ ?_; rotate_left; (focus (intro w' hw'; go_simp; try with_reducible rfl)); simp only [Act.put, List.setIfInBounds_toArray, List.set_cons_zero, List.set_cons_succ])
  refine plan_call rfl (by kernel_rfl) (by go_simp; exact ⟨rfl, rfl⟩) ?_
  refine (sign_any _ _ _ HV.out).mono ?_
  rintro e w' ⟨rfl, rfl⟩
  refine ⟨_, rfl, Ext.refl _, ?_⟩
  simp only [Act.put, List.setIfInBounds_toArray, List.set_cons_zero, List.set_cons_succ]
  refine plan_call rfl (by kernel_rfl) (by go_simp; exact ⟨rfl, rfl⟩) ?_
  refine (cut_any _ _ _ (signV_lt v q HV.out)).mono ?_
  rintro e w' ⟨rfl, rfl⟩
  rw [cutV_sign v q HV.out H1.out]
  refine ⟨_, rfl, Ext.refl _, ?_⟩
  simp only [Act.put, List.setIfInBounds_toArray, List.set_cons_zero, List.set_cons_succ]
  have hnz : ¬ (q = 0) := by omega
  have hwq : IntKind.u64.wrap (q : Int) = (q : Int) := IntWalk.u64_in _ (by omega)
  iterate 10 (refine plan_take (v := ?_) rfl (by kernel_rfl) ?_ ?_; rotate_left; (focus (intro w' hw'; go_simp; try with_reducible rfl)); simp only [Act.put, List.setIfInBounds_toArray, List.set_cons_zero, List.set_cons_succ])
  refine plan_call rfl (by kernel_rfl) (by go_simp; exact ⟨rfl, rfl⟩) ?_
  refine (aligned_any _ _ _ HA.out).mono ?_
  rintro e w' ⟨rfl, rfl⟩
  rw [HAL.out]
  refine ⟨_, rfl, Ext.refl _, ?_⟩
  simp only [Act.put, List.setIfInBounds_toArray, List.set_cons_zero, List.set_cons_succ]
  iterate 3 (refine plan_take (v := ?_) rfl (by kernel_rfl) ?_ ?_; rotate_left; (focus (intro w' hw'; go_simp; try with_reducible rfl)); simp only [Act.put, List.setIfInBounds_toArray, List.set_cons_zero, List.set_cons_succ])
  refine plan_end ?_
  have HB := Lib.hid (((HB1.out.trans (HB2.out.mono HB1.out.size)).trans (HB3.out.mono (Nat.le_trans HB1.out.size HB2.out.size))).drew.trans (hb4.mono (Nat.le_trans HB1.out.size (Nat.le_trans HB2.out.size HB3.out.size))))
  clear hb4 hcv hcv2 hB hA
  go_wp2
  go_ret
  exact ⟨rfl, HB.out⟩

theorem WordBack (a0 a1 a2 : Int) (w : World) (w0 : (Lit.int .u64 a0).wf = true) (w1 : (Lit.int .u64 a1).wf = true) (_w2 : (Lit.int .i64 a2).wf = true) :
    Calls Try.prog 6 #[.int .u64 a0, .int .u64 a1, .int .i64 a2] w fun e w' => e = .returned (.bool true) ∧ Below w.heap.size w w' := by
  obtain ⟨v0, v1⟩ := u64_of_wf w0
  obtain ⟨v, rfl⟩ := Int.eq_ofNat_of_zero_le v0
  obtain ⟨u0, u1⟩ := u64_of_wf w1
  obtain ⟨a, rfl⟩ := Int.eq_ofNat_of_zero_le u0
  rcases Bool.eq_false_or_eq_true (sizeB a2) with h1 | h1
  · obtain ⟨q, rfl⟩ := Int.eq_ofNat_of_zero_le (show 0 ≤ a2 by have := size_cases h1; omega)
    exact WordBack_yes v a q (by omega) (by omega) h1 w
  · exact WordBack_no v a a2 (by omega) (by omega) h1 w
end Law
end Go.Proofs.Ytggpmfgmdhfpaaa
