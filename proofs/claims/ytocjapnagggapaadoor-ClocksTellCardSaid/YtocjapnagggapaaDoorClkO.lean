/- first; ClocksOrder. -/
import Derived.Test.YtocjapnagggapaaDoorClkN
namespace Go.Proofs.YtocjapnagggapaaDoor
open Go.RowKit Go.ChangeShapes

set_option maxRecDepth 100000 in
set_option maxHeartbeats 8000000 in
theorem first_any (W : World) (hT : Tab W) : Calls Tryd.prog 5 #[] W fun e w' => e = .returned (.bool true) ∧ Below W.heap.size W w' := by
  have HT := Lib.hid hT
  have xeq := x_eq
  have w0 : okC (tellC fst3 0) := tell_wf fst3 (by decide)
  have w1 : okC (tellC fst3 1) := tell_wf fst3 (by decide)
  have w2 : okC (tellC fst3 2) := tell_wf fst3 (by decide)
  have hne := fun W' => (eq_nat W' _ _ w2 c12_ok).trans (by rw [xeq] : _ = Result.ok (.bool true) W')
  clear hT xeq
  go_enter Tryd.func5, Tryd.ntmps5
  go_wp2_with fail
  refine (st_any 0 0 W).mono ?_
  rintro e v1 ⟨rfl, hb1⟩
  go_wp2_with fail
  refine (st_any 1 8 v1).mono ?_
  rintro e v2 ⟨rfl, hb2⟩
  go_wp2_with fail
  refine (st_any 1 4 v2).mono ?_
  rintro e v3 ⟨rfl, hb3⟩
  have HE3 := Lib.hid ((Ext.trans hb1 hb2).trans hb3)
  clear hb1 hb2 hb3
  have HFS : Hid (FsAt (v3.alloc (.cells flat3 40)) (some ⟨v3.heap.size, 0, none⟩) 3 cst3 fst3) := Lib.hid (fs3 (Blkf.new_at _ _ _ _ rfl))
  have HE4 := Lib.hid (Ext.trans HE3.out (ext_alloc' v3 (.cells flat3 40)))
  clear HE3
  go_wp2_with (first | ((with_reducible refine wl_fact3 rfl rfl ?_ ?_ ?_ ?_); exact rfl; exact rfl; exact rfl))
  generalize v3.alloc (.cells flat3 40) = v4 at *
  generalize v3.heap.size = fb at *
  refine (clocks_any _ 3 3 cst3 fst3 v4 (by decide) HFS.out).mono ?_
  rintro e v5 ⟨v, rfl, hrow, hb5⟩
  obtain ⟨cA, cp, rfl⟩ := row_form hrow
  obtain ⟨cb, rfl, hcl, hcr⟩ := csAt_of hrow (by decide)
  have HE5 := Lib.hid (Ext.trans HE4.out hb5)
  have HFS5 := Lib.hid (HFS.out.below hb5)
  clear hb5 hrow HE4 HFS
  have s0 : ∀ W', Ext v5.drew W' → W'.rangeAt cb 0 (fnC 16 (tellC fst3 0)).toList := fun W' h j v hj => (h.cell (p := ⟨cb, 0 + j, none⟩) hcl).trans (hcr 0 (by decide) j v hj)
  have s1 : ∀ W', Ext v5.drew W' → W'.rangeAt cb 16 (fnC 16 (tellC fst3 1)).toList := fun W' h j v hj => (h.cell (p := ⟨cb, 16 + j, none⟩) hcl).trans (hcr 1 (by decide) j v hj)
  have s2 : ∀ W', Ext v5.drew W' → W'.rangeAt cb 32 (fnC 16 (tellC fst3 2)).toList := fun W' h j v hj => (h.cell (p := ⟨cb, 32 + j, none⟩) hcl).trans (hcr 2 (by decide) j v hj)
  clear hcr hcl
  go_wp2_with fail
  refine wp_region_plan [(0, false), (1, false), (2, false), (3, false), (4, false), (5, false), (6, false), (7, false), (8, false), (9, false), (10, false), (11, false), (12, false), (13, false), (14, false), (15, false), (16, false), (17, true), (18, false), (19, false), (20, false), (21, false), (22, false), (23, false), (24, false), (25, false), (26, true), (27, false), (28, false), (29, false), (30, false), (31, true), (32, false), (33, false), (34, false), (35, false), (36, true), (37, false), (38, false), (39, false), (40, false), (41, true), (42, false), (43, false), (44, false), (45, false), (46, false), (47, true), (48, false), (49, false), (50, false)] (by kernel_rfl) (by kernel_rfl) (fun _ d _ _ _ h => by cases d <;> exact h) ?_
  iterate 6 (refine plan_take (v := ?_) rfl (by kernel_rfl) ?_ ?_; rotate_left; (focus (intro w' hw'; try go_simp; try with_reducible rfl)); simp only [Act.put, List.setIfInBounds_toArray, List.set_cons_zero, List.set_cons_succ])
  refine plan_take (v := .agg (fnC 16 (tellC fst3 2))) rfl (by kernel_rfl) (fun w' hw' => run_load_op 26 (.tmp 18) rfl cb 32 _ rfl (s2 w' hw') (arr_row _)) ?_
  simp only [Act.put, List.setIfInBounds_toArray, List.set_cons_zero, List.set_cons_succ]
  refine plan_take (v := .agg (fnC 16 c12)) rfl (by kernel_rfl) (fun w' hw' => exec_build 26 _ [(0, .int .i64 1), (1, .int .i64 2)] rfl rfl (fnC 16 c12) c12_built) ?_
  simp only [Act.put, List.setIfInBounds_toArray, List.set_cons_zero, List.set_cons_succ]
  refine plan_take (v := .bool true) rfl (by kernel_rfl) (fun w' hw' => execOp_eql _ arr_guard _ _ _ _ rfl rfl rfl (hne w')) ?_
  simp only [Act.put, List.setIfInBounds_toArray, List.set_cons_zero, List.set_cons_succ]
  clear hne
  iterate 4 (refine plan_take (v := ?_) rfl (by kernel_rfl) ?_ ?_; rotate_left; (focus (intro w' hw'; try go_simp; try with_reducible rfl)); simp only [Act.put, List.setIfInBounds_toArray, List.set_cons_zero, List.set_cons_succ])
  refine plan_take (v := .agg (fnC 16 (tellC fst3 0))) rfl (by kernel_rfl) (fun w' hw' => run_load_op 26 (.tmp 25) rfl cb 0 _ rfl (s0 w' hw') (arr_row _)) ?_
  simp only [Act.put, List.setIfInBounds_toArray, List.set_cons_zero, List.set_cons_succ]
  iterate 2 (refine plan_take (v := ?_) rfl (by kernel_rfl) ?_ ?_; rotate_left; (focus (intro w' hw'; try go_simp; try with_reducible rfl)); simp only [Act.put, List.setIfInBounds_toArray, List.set_cons_zero, List.set_cons_succ])
  refine plan_take (v := .agg (fnC 16 (tellC fst3 2))) rfl (by kernel_rfl) (fun w' hw' => run_load_op 26 (.tmp 28) rfl cb 32 _ rfl (s2 w' hw') (arr_row _)) ?_
  simp only [Act.put, List.setIfInBounds_toArray, List.set_cons_zero, List.set_cons_succ]
  refine plan_call rfl (by kernel_rfl) (by go_simp; exact ⟨rfl, rfl⟩) ?_
  refine (ahead_nat (tellC fst3 0) (tellC fst3 2) _ w0 w2).mono ?_
  rintro e v6 ⟨rfl, hb6⟩
  refine ⟨_, rfl, hb6, ?_⟩
  simp only [Act.put, List.setIfInBounds_toArray, List.set_cons_zero, List.set_cons_succ]
  rw [x_02]
  have r0 := fun W' (h : Ext v6 W') => s0 W' (hb6.trans h)
  have r1 := fun W' (h : Ext v6 W') => s1 W' (hb6.trans h)
  have HE6 := Lib.hid (Ext.trans (show Ext W v5.drew from HE5.out.drew) hb6)
  have HFS6 := Lib.hid (HFS5.out.below (Ext.trans (show Ext v5 v5.drew from (Below.refl _ _).drew) hb6))
  clear s0 s1 s2 hb6 HE5 HFS5
  iterate 4 (refine plan_take (v := ?_) rfl (by kernel_rfl) ?_ ?_; rotate_left; (focus (intro w' hw'; try go_simp; try with_reducible rfl)); simp only [Act.put, List.setIfInBounds_toArray, List.set_cons_zero, List.set_cons_succ])
  refine plan_take (v := .agg (fnC 16 (tellC fst3 0))) rfl (by kernel_rfl) (fun w' hw' => run_load_op 26 (.tmp 34) rfl cb 0 _ rfl (r0 w' hw') (arr_row _)) ?_
  simp only [Act.put, List.setIfInBounds_toArray, List.set_cons_zero, List.set_cons_succ]
  iterate 2 (refine plan_take (v := ?_) rfl (by kernel_rfl) ?_ ?_; rotate_left; (focus (intro w' hw'; try go_simp; try with_reducible rfl)); simp only [Act.put, List.setIfInBounds_toArray, List.set_cons_zero, List.set_cons_succ])
  refine plan_take (v := .agg (fnC 16 (tellC fst3 1))) rfl (by kernel_rfl) (fun w' hw' => run_load_op 26 (.tmp 37) rfl cb 16 _ rfl (r1 w' hw') (arr_row _)) ?_
  simp only [Act.put, List.setIfInBounds_toArray, List.set_cons_zero, List.set_cons_succ]
  refine plan_call rfl (by kernel_rfl) (by go_simp; exact ⟨rfl, rfl⟩) ?_
  refine (ahead_nat (tellC fst3 0) (tellC fst3 1) _ w0 w1).mono ?_
  rintro e v7 ⟨rfl, hb7⟩
  refine ⟨_, rfl, hb7, ?_⟩
  simp only [Act.put, List.setIfInBounds_toArray, List.set_cons_zero, List.set_cons_succ]
  rw [x_01]
  have HE7 := Lib.hid (Ext.trans HE6.out hb7)
  have HFS7 := Lib.hid (HFS6.out.below hb7)
  clear r0 r1 hb7 HE6 HFS6
  iterate 4 (refine plan_take (v := ?_) rfl (by kernel_rfl) ?_ ?_; rotate_left; (focus (intro w' hw'; try go_simp; try with_reducible rfl)); simp only [Act.put, List.setIfInBounds_toArray, List.set_cons_zero, List.set_cons_succ])
  refine plan_call rfl (by kernel_rfl) (by go_simp; exact ⟨rfl, rfl⟩) ?_
  refine (beside_any _ 3 3 cst3 fst3 v7 (by decide) HFS7.out).mono ?_
  rintro e v8 ⟨rfl, hb8⟩
  refine ⟨_, rfl, hb8, ?_⟩
  simp only [Act.put, List.setIfInBounds_toArray, List.set_cons_zero, List.set_cons_succ]
  rw [x_bes]
  have HE8 := Lib.hid (Ext.trans HE7.out hb8)
  have HFS8 := Lib.hid (HFS7.out.below hb8)
  clear hb8 HE7 HFS7
  iterate 4 (refine plan_take (v := ?_) rfl (by kernel_rfl) ?_ ?_; rotate_left; (focus (intro w' hw'; try go_simp; try with_reducible rfl)); simp only [Act.put, List.setIfInBounds_toArray, List.set_cons_zero, List.set_cons_succ])
  refine plan_call rfl (by kernel_rfl) (by go_simp; exact ⟨rfl, rfl⟩) ?_
  refine (chain_any _ 3 3 cst3 fst3 v8 (by decide) HFS8.out).mono ?_
  rintro e v9 ⟨rfl, hb9⟩
  refine ⟨_, rfl, hb9, ?_⟩
  simp only [Act.put, List.setIfInBounds_toArray, List.set_cons_zero, List.set_cons_succ]
  rw [x_ch]
  have HE9 := Lib.hid (Ext.trans HE8.out hb9)
  have HFS9 := Lib.hid (HFS8.out.below hb9)
  clear hb9 HE8 HFS8
  iterate 4 (refine plan_take (v := ?_) rfl (by kernel_rfl) ?_ ?_; rotate_left; (focus (intro w' hw'; try go_simp; try with_reducible rfl)); simp only [Act.put, List.setIfInBounds_toArray, List.set_cons_zero, List.set_cons_succ])
  refine plan_call rfl (by kernel_rfl) (by go_simp; exact ⟨rfl, rfl⟩) ?_
  refine (last_any _ 3 3 cst3 fst3 5 v9 (by decide) (by decide) HFS9.out).mono ?_
  rintro e v10 ⟨rfl, hb10⟩
  refine ⟨_, rfl, hb10, ?_⟩
  simp only [Act.put, List.setIfInBounds_toArray, List.set_cons_zero, List.set_cons_succ]
  rw [x_last]
  have HE10 := Lib.hid (Ext.trans HE9.out hb10)
  have HFS10 := Lib.hid (HFS9.out.below hb10)
  clear hb10 HE9 HFS9
  iterate 5 (refine plan_take (v := ?_) rfl (by kernel_rfl) ?_ ?_; rotate_left; (focus (intro w' hw'; try go_simp; try with_reducible rfl)); simp only [Act.put, List.setIfInBounds_toArray, List.set_cons_zero, List.set_cons_succ])
  refine plan_call rfl (by kernel_rfl) (by go_simp; exact ⟨rfl, rfl⟩) ?_
  refine (lanes_one _ 3 cst3 fst3 v10 (HFS10.out.take (by decide)) rfl rfl rfl (HT.out.below HE10.out)).mono ?_
  rintro e v11 ⟨rfl, hb11⟩
  refine ⟨_, rfl, hb11, ?_⟩
  simp only [Act.put, List.setIfInBounds_toArray, List.set_cons_zero, List.set_cons_succ]
  have HE11 := Lib.hid (Ext.trans HE10.out hb11)
  clear hb11 HE10 HFS10
  have ho : (⟨outL.toArray⟩ : ByteArray) = ⟨#[83, 46, 32, 48, 10]⟩ := rfl
  rw [ho]
  clear ho
  iterate 3 (refine plan_take (v := ?_) rfl (by kernel_rfl) ?_ ?_; rotate_left; (focus (intro w' hw'; try go_simp; try with_reducible rfl)); simp only [Act.put, List.setIfInBounds_toArray, List.set_cons_zero, List.set_cons_succ])
  refine plan_end ?_
  go_wp2_with fail
  go_ret
  exact ⟨rfl, HE11.out⟩
theorem ahead_irr (f : Nat → Int) : aheadB f f = false := by
  have h : allEq f f = true := allEq_iff.2 (fun i hi => rfl)
  unfold aheadB
  rw [h]; cases allLe f f <;> rfl
theorem ahead_asym (f g : Nat → Int) (h : aheadB f g = true) : aheadB g f = false := by
  unfold aheadB at *
  simp only [Bool.and_eq_true, Bool.not_eq_true'] at h
  cases hl : allLe g f with
  | false => rfl
  | true =>
    have he : allEq f g = true := allEq_iff.2 (fun i hi => by
      have h1 := allLe_iff.1 h.1 i hi
      have h2 := allLe_iff.1 hl i hi
      omega)
    rw [he] at h; simp at h
theorem ahead_trans (f g k : Nat → Int) (h : aheadB f g = true) (h2 : aheadB g k = true) : aheadB f k = true := by
  unfold aheadB at *
  simp only [Bool.and_eq_true, Bool.not_eq_true'] at h h2 ⊢
  refine ⟨allLe_iff.2 (fun i hi => Int.le_trans (allLe_iff.1 h.1 i hi) (allLe_iff.1 h2.1 i hi)), ?_⟩
  cases he : allEq f k with
  | false => rfl
  | true =>
    have : allEq f g = true := allEq_iff.2 (fun i hi => by
      have h1 := allLe_iff.1 h.1 i hi
      have h3 := allLe_iff.1 h2.1 i hi
      have h4 := allEq_iff.1 he i hi
      omega)
    rw [this] at h; simp at h
end Go.Proofs.YtocjapnagggapaaDoor
