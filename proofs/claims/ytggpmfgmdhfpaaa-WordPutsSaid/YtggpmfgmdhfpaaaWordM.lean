/- The walk of the law WordSigns. -/
import Derived.Test.YtggpmfgmdhfpaaaWordL
import Derived.Test.YtggpmfgmdhfpaaaPlan
namespace Go.Proofs.Ytggpmfgmdhfpaaa
open Go.RowKit Go.ChangeShapes

theorem beq_refl_bytes (s : ByteArray) : (s.toList == s.toList) = true := by simp

namespace Law
set_option maxHeartbeats 1000000 in
theorem WordSigns (a0 : Int) (a1 : Int) (w : World) (w0 : (Lit.int .u64 a0).wf = true) (_w1 : (Lit.int .i64 a1).wf = true) :
    Calls Try.prog 5 #[.int .u64 a0, .int .i64 a1] w fun e w' => e = .returned (.bool true) ∧ Below w.heap.size w w' := by
  obtain ⟨v0, v1⟩ := u64_of_wf w0
  obtain ⟨v, rfl⟩ := Int.eq_ofNat_of_zero_le v0
  have HV := Lib.hid (show v < 18446744073709551616 by omega)
  clear w0 _w1 v0 v1
  go_enter Try.func5, Try.ntmps5
  go_wp2_with fail
  refine (first_ok _).mono ?_
  rintro e w1 ⟨rfl, hb1⟩
  have HB1 := Lib.hid hb1
  clear hb1
  go_wp2_with fail
  refine wp_region_plan [(0, false), (1, false), (3, false), (4, false), (2, true), (5, true), (6, false), (7, false), (8, false), (9, false), (11, false), (12, false), (10, true), (13, true), (14, false), (15, false), (16, false), (17, false), (18, false), (21, false), (22, false), (19, true), (20, false), (23, true), (24, false), (25, false), (26, false), (27, false)] (by kernel_rfl) (by kernel_rfl) (fun _ d _ _ _ h => by cases d <;> exact h) ?_
  iterate 4 (refine plan_take (v := ?_) rfl (by kernel_rfl) ?_ ?_; rotate_left; (focus (intro w' hw'; go_simp; try with_reducible rfl)); simp only [Act.put, List.setIfInBounds_toArray, List.set_cons_zero, List.set_cons_succ])
  refine plan_call rfl (by kernel_rfl) (by go_simp; exact ⟨rfl, rfl⟩) ?_
  refine (cut_any _ _ _ HV.out).mono ?_
  rintro e w' ⟨rfl, rfl⟩
  refine ⟨_, rfl, Ext.refl _, ?_⟩
  simp only [Act.put, List.setIfInBounds_toArray, List.set_cons_zero, List.set_cons_succ]
  refine plan_call rfl (by kernel_rfl) (by go_simp; exact ⟨rfl, rfl⟩) ?_
  refine (rcut_any _ _ _ HV.out).mono ?_
  rintro e w2 ⟨rfl, hb2⟩
  refine ⟨_, rfl, hb2, ?_⟩
  simp only [Act.put, List.setIfInBounds_toArray, List.set_cons_zero, List.set_cons_succ]
  iterate 6 (refine plan_take (v := ?_) rfl (by kernel_rfl) ?_ ?_; rotate_left; (focus (intro w' hw'; go_simp; try with_reducible rfl)); simp only [Act.put, List.setIfInBounds_toArray, List.set_cons_zero, List.set_cons_succ])
  refine plan_call rfl (by kernel_rfl) (by go_simp; exact ⟨rfl, rfl⟩) ?_
  refine (sign_any _ _ _ HV.out).mono ?_
  rintro e w' ⟨rfl, rfl⟩
  refine ⟨_, rfl, Ext.refl _, ?_⟩
  simp only [Act.put, List.setIfInBounds_toArray, List.set_cons_zero, List.set_cons_succ]
  refine plan_call rfl (by kernel_rfl) (by go_simp; exact ⟨rfl, rfl⟩) ?_
  refine (rsign_any _ _ _ HV.out).mono ?_
  rintro e w3 ⟨rfl, hb3⟩
  refine ⟨_, rfl, hb3, ?_⟩
  simp only [Act.put, List.setIfInBounds_toArray, List.set_cons_zero, List.set_cons_succ]
  iterate 7 (refine plan_take (v := ?_) rfl (by kernel_rfl) ?_ ?_; rotate_left; (focus (intro w' hw'; go_simp; try with_reducible rfl)); simp only [Act.put, List.setIfInBounds_toArray, List.set_cons_zero, List.set_cons_succ])
  refine plan_call rfl (by kernel_rfl) (by go_simp; exact ⟨rfl, rfl⟩) ?_
  refine (bytes_any _ _ _ HV.out).mono ?_
  rintro e w4 ⟨A, c, rfl, hB, hA, hb4⟩
  refine ⟨_, rfl, hb4, ?_⟩
  simp only [Act.put, List.setIfInBounds_toArray, List.set_cons_zero, List.set_cons_succ]
  have hcv : ∀ W, Ext w4 W → (convert 22 9 (.slice A (bytesOf v a1).length c)).run Try.prog W = .ok (.string (strB (bytesOf v a1))) W := fun W hW => conv_bts (bts_below hB hW) rfl
  iterate 1 (refine plan_take (v := ?_) rfl (by kernel_rfl) ?_ ?_; rotate_left; (focus (intro w' hw'; go_simp; try with_reducible rfl)); simp only [Act.put, List.setIfInBounds_toArray, List.set_cons_zero, List.set_cons_succ])
  refine plan_call rfl (by kernel_rfl) (by go_simp; exact ⟨rfl, rfl⟩) ?_
  refine (rbytes_any _ _ _ HV.out).mono ?_
  rintro e w5 ⟨b, rfl, hown, hb5⟩
  obtain ⟨A2, c2, rfl, hB2, hA2⟩ := bts_own hown (bytesOf_lt v a1) rfl
  refine ⟨_, rfl, hb5, ?_⟩
  simp only [Act.put, List.setIfInBounds_toArray, List.set_cons_zero, List.set_cons_succ]
  have hcv2 : ∀ W, Ext w5 W → (convert 22 9 (.slice A2 (bytesOf v a1).length c2)).run Try.prog W = .ok (.string (strB (bytesOf v a1))) W := fun W hW => conv_bts (bts_below hB2 hW) rfl
  iterate 4 (refine plan_take (v := ?_) rfl (by kernel_rfl) ?_ ?_; rotate_left; (focus (intro w' hw'; go_simp; try with_reducible rfl)); simp only [Act.put, List.setIfInBounds_toArray, List.set_cons_zero, List.set_cons_succ])
  refine plan_end ?_
  have b2 := HB1.out.drew.trans (hb2.mono HB1.out.size)
  have b3 := b2.trans (hb3.mono b2.size)
  have b4 := b3.trans (hb4.mono b3.size)
  have HB := Lib.hid (b4.trans (hb5.mono b4.size))
  clear hb2 hb3 hb4 hb5 b2 b3 b4 hcv hcv2 hB hA hB2 hA2 hown
  go_wp2
  go_ret
  exact ⟨rfl, HB.out⟩
end Law
end Go.Proofs.Ytggpmfgmdhfpaaa
