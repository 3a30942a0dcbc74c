/- IsaKinds, instructions 24 to 34. -/
import Derived.Test.YtcmaneeoblmmmaaIsaG
namespace Go.Proofs.Ytcmaneeoblmmmaa
open Go.RowKit
namespace Law
theorem kinds_24 (W : World) : Calls Try.prog 5 #[.int .i64 24] W fun e w' => e = .returned (.bool true) ∧ Below W.heap.size W w' := by
  have hl : (((({ data := #[108, 104, 117] } : ByteArray)[2]'(by decide)).toNat : Nat) : Int) = 117 := rfl
  have t1 : (({ data := #[76] } : ByteArray).toList == [76]) = true := by rw [ByteArray.toList_mk]; rfl
  have t2 : (({ data := #[76] } : ByteArray).toList == [65]) = false := by rw [ByteArray.toList_mk]; rfl
  go_enter Try.func5, Try.ntmps5
  go_wp2_with fail
  refine (first_ok _).mono ?_
  rintro e w1 ⟨rfl, hb1⟩
  have HB1 := Lib.hid hb1
  clear hb1
  go_wp2_with fail
  refine (of_yes 24 _ (by decide)).mono ?_
  rintro e w2 ⟨rfl, hb2⟩
  rw [show nameS 24 = ⟨#[108, 104, 117]⟩ from rfl, show ks (kd ((24 : Nat) : Int)) = ⟨#[76]⟩ from rfl, show sizeV ((24 : Nat) : Int) = 2 from rfl]
  have HB2 := Lib.hid hb2
  clear hb2
  go_wp2_with fail
  have r1 := fun W' (h : Ext (w2.alloc (.cells #[.string ⟨#[108, 104, 117]⟩, .string ⟨#[76]⟩, .int .i64 2] 36)).drew W') => (h.cell (p := ⟨w2.heap.size, 1, none⟩) (by simp)).trans (show _ = some (Value.string ⟨#[76]⟩) from World.cell?_alloc_new _ _ _ _)
  have r2 := fun W' (h : Ext (w2.alloc (.cells #[.string ⟨#[108, 104, 117]⟩, .string ⟨#[76]⟩, .int .i64 2] 36)).drew W') => (h.cell (p := ⟨w2.heap.size, 2, none⟩) (by simp)).trans (show _ = some (Value.int .i64 2) from World.cell?_alloc_new _ _ _ _)
  refine wp_region_plan [(0, false), (2, false), (3, false), (1, true), (4, false), (5, false), (6, false), (8, false), (9, false), (7, true), (10, false), (11, false), (12, false), (13, false), (15, false), (16, false), (17, false), (14, true), (18, false), (19, false), (20, false), (21, false), (22, false), (23, false), (24, false), (25, false), (26, false), (27, false), (28, false), (29, false)] (by kernel_rfl) (by kernel_rfl) (fun _ d _ _ _ h => by cases d <;> exact h) ?_
  iterate 3 (refine plan_take (v := ?_) rfl (by kernel_rfl) ?_ ?_; rotate_left; (focus (intro w' hw'; go_simp; try with_reducible rfl)); simp only [Act.put, List.setIfInBounds_toArray, List.set_cons_zero, List.set_cons_succ])
  refine plan_call rfl (by kernel_rfl) (by go_simp; exact ⟨rfl, rfl⟩) ?_
  refine (kind_any _ _).mono ?_
  rintro e w' ⟨rfl, rfl⟩
  rw [show ks (kd 24) = ⟨#[76]⟩ from rfl]
  refine ⟨_, rfl, Ext.refl _, ?_⟩
  simp only [Act.put, List.setIfInBounds_toArray, List.set_cons_zero, List.set_cons_succ]
  iterate 5 (refine plan_take (v := ?_) rfl (by kernel_rfl) ?_ ?_; rotate_left; (focus (intro w' hw'; go_simp; try with_reducible rfl)); simp only [Act.put, List.setIfInBounds_toArray, List.set_cons_zero, List.set_cons_succ])
  refine plan_call rfl (by kernel_rfl) (by go_simp; exact ⟨rfl, rfl⟩) ?_
  refine (size_any _ _).mono ?_
  rintro e w' ⟨rfl, rfl⟩
  rw [show sizeV 24 = 2 from rfl]
  refine ⟨_, rfl, Ext.refl _, ?_⟩
  simp only [Act.put, List.setIfInBounds_toArray, List.set_cons_zero, List.set_cons_succ]
  iterate 7 (refine plan_take (v := ?_) rfl (by kernel_rfl) ?_ ?_; rotate_left; (focus (intro w' hw'; go_simp; try with_reducible rfl)); simp only [Act.put, List.setIfInBounds_toArray, List.set_cons_zero, List.set_cons_succ])
  refine plan_call rfl (by kernel_rfl) (by go_simp; exact ⟨rfl, rfl⟩) ?_
  refine (sign_any _ _).mono ?_
  rintro e w' ⟨rfl, rfl⟩
  rw [show signB 24 = false from rfl]
  refine ⟨_, rfl, Ext.refl _, ?_⟩
  simp only [Act.put, List.setIfInBounds_toArray, List.set_cons_zero, List.set_cons_succ]
  iterate 1 (refine plan_take (v := ?_) rfl (by kernel_rfl) ?_ ?_; rotate_left; (focus (intro w' hw'; go_simp; try with_reducible rfl)); simp only [Act.put, List.setIfInBounds_toArray, List.set_cons_zero, List.set_cons_succ])
  iterate 3 (refine plan_skip rfl (by kernel_rfl) ?_; simp only [Act.put, List.setIfInBounds_toArray, List.set_cons_zero, List.set_cons_succ])
  iterate 8 (refine plan_take (v := ?_) rfl (by kernel_rfl) ?_ ?_; rotate_left; (focus (intro w' hw'; go_simp; try with_reducible rfl)); simp only [Act.put, List.setIfInBounds_toArray, List.set_cons_zero, List.set_cons_succ])
  refine plan_end ?_
  clear r1 r2
  go_wp2
  go_ret
  refine ⟨rfl, ?_⟩
  have b1 := HB1.out
  have b2 := b1.trans (HB2.out.mono b1.size)
  exact (b2.alloc b2.size _).drew
theorem kinds_25 (W : World) : Calls Try.prog 5 #[.int .i64 25] W fun e w' => e = .returned (.bool true) ∧ Below W.heap.size W w' := by
  have hl : (((({ data := #[108, 119, 117] } : ByteArray)[2]'(by decide)).toNat : Nat) : Int) = 117 := rfl
  have t1 : (({ data := #[76] } : ByteArray).toList == [76]) = true := by rw [ByteArray.toList_mk]; rfl
  have t2 : (({ data := #[76] } : ByteArray).toList == [65]) = false := by rw [ByteArray.toList_mk]; rfl
  go_enter Try.func5, Try.ntmps5
  go_wp2_with fail
  refine (first_ok _).mono ?_
  rintro e w1 ⟨rfl, hb1⟩
  have HB1 := Lib.hid hb1
  clear hb1
  go_wp2_with fail
  refine (of_yes 25 _ (by decide)).mono ?_
  rintro e w2 ⟨rfl, hb2⟩
  rw [show nameS 25 = ⟨#[108, 119, 117]⟩ from rfl, show ks (kd ((25 : Nat) : Int)) = ⟨#[76]⟩ from rfl, show sizeV ((25 : Nat) : Int) = 4 from rfl]
  have HB2 := Lib.hid hb2
  clear hb2
  go_wp2_with fail
  have r1 := fun W' (h : Ext (w2.alloc (.cells #[.string ⟨#[108, 119, 117]⟩, .string ⟨#[76]⟩, .int .i64 4] 36)).drew W') => (h.cell (p := ⟨w2.heap.size, 1, none⟩) (by simp)).trans (show _ = some (Value.string ⟨#[76]⟩) from World.cell?_alloc_new _ _ _ _)
  have r2 := fun W' (h : Ext (w2.alloc (.cells #[.string ⟨#[108, 119, 117]⟩, .string ⟨#[76]⟩, .int .i64 4] 36)).drew W') => (h.cell (p := ⟨w2.heap.size, 2, none⟩) (by simp)).trans (show _ = some (Value.int .i64 4) from World.cell?_alloc_new _ _ _ _)
  refine wp_region_plan [(0, false), (2, false), (3, false), (1, true), (4, false), (5, false), (6, false), (8, false), (9, false), (7, true), (10, false), (11, false), (12, false), (13, false), (15, false), (16, false), (17, false), (14, true), (18, false), (19, false), (20, false), (21, false), (22, false), (23, false), (24, false), (25, false), (26, false), (27, false), (28, false), (29, false)] (by kernel_rfl) (by kernel_rfl) (fun _ d _ _ _ h => by cases d <;> exact h) ?_
  iterate 3 (refine plan_take (v := ?_) rfl (by kernel_rfl) ?_ ?_; rotate_left; (focus (intro w' hw'; go_simp; try with_reducible rfl)); simp only [Act.put, List.setIfInBounds_toArray, List.set_cons_zero, List.set_cons_succ])
  refine plan_call rfl (by kernel_rfl) (by go_simp; exact ⟨rfl, rfl⟩) ?_
  refine (kind_any _ _).mono ?_
  rintro e w' ⟨rfl, rfl⟩
  rw [show ks (kd 25) = ⟨#[76]⟩ from rfl]
  refine ⟨_, rfl, Ext.refl _, ?_⟩
  simp only [Act.put, List.setIfInBounds_toArray, List.set_cons_zero, List.set_cons_succ]
  iterate 5 (refine plan_take (v := ?_) rfl (by kernel_rfl) ?_ ?_; rotate_left; (focus (intro w' hw'; go_simp; try with_reducible rfl)); simp only [Act.put, List.setIfInBounds_toArray, List.set_cons_zero, List.set_cons_succ])
  refine plan_call rfl (by kernel_rfl) (by go_simp; exact ⟨rfl, rfl⟩) ?_
  refine (size_any _ _).mono ?_
  rintro e w' ⟨rfl, rfl⟩
  rw [show sizeV 25 = 4 from rfl]
  refine ⟨_, rfl, Ext.refl _, ?_⟩
  simp only [Act.put, List.setIfInBounds_toArray, List.set_cons_zero, List.set_cons_succ]
  iterate 7 (refine plan_take (v := ?_) rfl (by kernel_rfl) ?_ ?_; rotate_left; (focus (intro w' hw'; go_simp; try with_reducible rfl)); simp only [Act.put, List.setIfInBounds_toArray, List.set_cons_zero, List.set_cons_succ])
  refine plan_call rfl (by kernel_rfl) (by go_simp; exact ⟨rfl, rfl⟩) ?_
  refine (sign_any _ _).mono ?_
  rintro e w' ⟨rfl, rfl⟩
  rw [show signB 25 = false from rfl]
  refine ⟨_, rfl, Ext.refl _, ?_⟩
  simp only [Act.put, List.setIfInBounds_toArray, List.set_cons_zero, List.set_cons_succ]
  iterate 1 (refine plan_take (v := ?_) rfl (by kernel_rfl) ?_ ?_; rotate_left; (focus (intro w' hw'; go_simp; try with_reducible rfl)); simp only [Act.put, List.setIfInBounds_toArray, List.set_cons_zero, List.set_cons_succ])
  iterate 3 (refine plan_skip rfl (by kernel_rfl) ?_; simp only [Act.put, List.setIfInBounds_toArray, List.set_cons_zero, List.set_cons_succ])
  iterate 8 (refine plan_take (v := ?_) rfl (by kernel_rfl) ?_ ?_; rotate_left; (focus (intro w' hw'; go_simp; try with_reducible rfl)); simp only [Act.put, List.setIfInBounds_toArray, List.set_cons_zero, List.set_cons_succ])
  refine plan_end ?_
  clear r1 r2
  go_wp2
  go_ret
  refine ⟨rfl, ?_⟩
  have b1 := HB1.out
  have b2 := b1.trans (HB2.out.mono b1.size)
  exact (b2.alloc b2.size _).drew
theorem kinds_26 (W : World) : Calls Try.prog 5 #[.int .i64 26] W fun e w' => e = .returned (.bool true) ∧ Below W.heap.size W w' := by
  have hl : (((({ data := #[115, 98] } : ByteArray)[1]'(by decide)).toNat : Nat) : Int) = 98 := rfl
  have t1 : (({ data := #[83] } : ByteArray).toList == [76]) = false := by rw [ByteArray.toList_mk]; rfl
  have t2 : (({ data := #[83] } : ByteArray).toList == [65]) = false := by rw [ByteArray.toList_mk]; rfl
  go_enter Try.func5, Try.ntmps5
  go_wp2_with fail
  refine (first_ok _).mono ?_
  rintro e w1 ⟨rfl, hb1⟩
  have HB1 := Lib.hid hb1
  clear hb1
  go_wp2_with fail
  refine (of_yes 26 _ (by decide)).mono ?_
  rintro e w2 ⟨rfl, hb2⟩
  rw [show nameS 26 = ⟨#[115, 98]⟩ from rfl, show ks (kd ((26 : Nat) : Int)) = ⟨#[83]⟩ from rfl, show sizeV ((26 : Nat) : Int) = 1 from rfl]
  have HB2 := Lib.hid hb2
  clear hb2
  go_wp2_with fail
  have r1 := fun W' (h : Ext (w2.alloc (.cells #[.string ⟨#[115, 98]⟩, .string ⟨#[83]⟩, .int .i64 1] 36)).drew W') => (h.cell (p := ⟨w2.heap.size, 1, none⟩) (by simp)).trans (show _ = some (Value.string ⟨#[83]⟩) from World.cell?_alloc_new _ _ _ _)
  have r2 := fun W' (h : Ext (w2.alloc (.cells #[.string ⟨#[115, 98]⟩, .string ⟨#[83]⟩, .int .i64 1] 36)).drew W') => (h.cell (p := ⟨w2.heap.size, 2, none⟩) (by simp)).trans (show _ = some (Value.int .i64 1) from World.cell?_alloc_new _ _ _ _)
  refine wp_region_plan [(0, false), (2, false), (3, false), (1, true), (4, false), (5, false), (6, false), (8, false), (9, false), (7, true), (10, false), (11, false), (12, false), (13, false), (15, false), (16, false), (17, false), (14, true), (18, false), (19, false), (20, false), (21, false), (22, false), (23, false), (24, false), (25, false), (26, false), (27, false), (28, false), (29, false)] (by kernel_rfl) (by kernel_rfl) (fun _ d _ _ _ h => by cases d <;> exact h) ?_
  iterate 3 (refine plan_take (v := ?_) rfl (by kernel_rfl) ?_ ?_; rotate_left; (focus (intro w' hw'; go_simp; try with_reducible rfl)); simp only [Act.put, List.setIfInBounds_toArray, List.set_cons_zero, List.set_cons_succ])
  refine plan_call rfl (by kernel_rfl) (by go_simp; exact ⟨rfl, rfl⟩) ?_
  refine (kind_any _ _).mono ?_
  rintro e w' ⟨rfl, rfl⟩
  rw [show ks (kd 26) = ⟨#[83]⟩ from rfl]
  refine ⟨_, rfl, Ext.refl _, ?_⟩
  simp only [Act.put, List.setIfInBounds_toArray, List.set_cons_zero, List.set_cons_succ]
  iterate 5 (refine plan_take (v := ?_) rfl (by kernel_rfl) ?_ ?_; rotate_left; (focus (intro w' hw'; go_simp; try with_reducible rfl)); simp only [Act.put, List.setIfInBounds_toArray, List.set_cons_zero, List.set_cons_succ])
  refine plan_call rfl (by kernel_rfl) (by go_simp; exact ⟨rfl, rfl⟩) ?_
  refine (size_any _ _).mono ?_
  rintro e w' ⟨rfl, rfl⟩
  rw [show sizeV 26 = 1 from rfl]
  refine ⟨_, rfl, Ext.refl _, ?_⟩
  simp only [Act.put, List.setIfInBounds_toArray, List.set_cons_zero, List.set_cons_succ]
  iterate 7 (refine plan_take (v := ?_) rfl (by kernel_rfl) ?_ ?_; rotate_left; (focus (intro w' hw'; go_simp; try with_reducible rfl)); simp only [Act.put, List.setIfInBounds_toArray, List.set_cons_zero, List.set_cons_succ])
  refine plan_call rfl (by kernel_rfl) (by go_simp; exact ⟨rfl, rfl⟩) ?_
  refine (sign_any _ _).mono ?_
  rintro e w' ⟨rfl, rfl⟩
  rw [show signB 26 = false from rfl]
  refine ⟨_, rfl, Ext.refl _, ?_⟩
  simp only [Act.put, List.setIfInBounds_toArray, List.set_cons_zero, List.set_cons_succ]
  iterate 6 (refine plan_take (v := ?_) rfl (by kernel_rfl) ?_ ?_; rotate_left; (focus (intro w' hw'; go_simp; try with_reducible rfl)); simp only [Act.put, List.setIfInBounds_toArray, List.set_cons_zero, List.set_cons_succ])
  iterate 2 (refine plan_skip rfl (by kernel_rfl) ?_; simp only [Act.put, List.setIfInBounds_toArray, List.set_cons_zero, List.set_cons_succ])
  iterate 4 (refine plan_take (v := ?_) rfl (by kernel_rfl) ?_ ?_; rotate_left; (focus (intro w' hw'; go_simp; try with_reducible rfl)); simp only [Act.put, List.setIfInBounds_toArray, List.set_cons_zero, List.set_cons_succ])
  refine plan_end ?_
  clear r1 r2
  go_wp2
  go_ret
  refine ⟨rfl, ?_⟩
  have b1 := HB1.out
  have b2 := b1.trans (HB2.out.mono b1.size)
  exact (b2.alloc b2.size _).drew
theorem kinds_27 (W : World) : Calls Try.prog 5 #[.int .i64 27] W fun e w' => e = .returned (.bool true) ∧ Below W.heap.size W w' := by
  have hl : (((({ data := #[115, 104] } : ByteArray)[1]'(by decide)).toNat : Nat) : Int) = 104 := rfl
  have t1 : (({ data := #[83] } : ByteArray).toList == [76]) = false := by rw [ByteArray.toList_mk]; rfl
  have t2 : (({ data := #[83] } : ByteArray).toList == [65]) = false := by rw [ByteArray.toList_mk]; rfl
  go_enter Try.func5, Try.ntmps5
  go_wp2_with fail
  refine (first_ok _).mono ?_
  rintro e w1 ⟨rfl, hb1⟩
  have HB1 := Lib.hid hb1
  clear hb1
  go_wp2_with fail
  refine (of_yes 27 _ (by decide)).mono ?_
  rintro e w2 ⟨rfl, hb2⟩
  rw [show nameS 27 = ⟨#[115, 104]⟩ from rfl, show ks (kd ((27 : Nat) : Int)) = ⟨#[83]⟩ from rfl, show sizeV ((27 : Nat) : Int) = 2 from rfl]
  have HB2 := Lib.hid hb2
  clear hb2
  go_wp2_with fail
  have r1 := fun W' (h : Ext (w2.alloc (.cells #[.string ⟨#[115, 104]⟩, .string ⟨#[83]⟩, .int .i64 2] 36)).drew W') => (h.cell (p := ⟨w2.heap.size, 1, none⟩) (by simp)).trans (show _ = some (Value.string ⟨#[83]⟩) from World.cell?_alloc_new _ _ _ _)
  have r2 := fun W' (h : Ext (w2.alloc (.cells #[.string ⟨#[115, 104]⟩, .string ⟨#[83]⟩, .int .i64 2] 36)).drew W') => (h.cell (p := ⟨w2.heap.size, 2, none⟩) (by simp)).trans (show _ = some (Value.int .i64 2) from World.cell?_alloc_new _ _ _ _)
  refine wp_region_plan [(0, false), (2, false), (3, false), (1, true), (4, false), (5, false), (6, false), (8, false), (9, false), (7, true), (10, false), (11, false), (12, false), (13, false), (15, false), (16, false), (17, false), (14, true), (18, false), (19, false), (20, false), (21, false), (22, false), (23, false), (24, false), (25, false), (26, false), (27, false), (28, false), (29, false)] (by kernel_rfl) (by kernel_rfl) (fun _ d _ _ _ h => by cases d <;> exact h) ?_
  iterate 3 (refine plan_take (v := ?_) rfl (by kernel_rfl) ?_ ?_; rotate_left; (focus (intro w' hw'; go_simp; try with_reducible rfl)); simp only [Act.put, List.setIfInBounds_toArray, List.set_cons_zero, List.set_cons_succ])
  refine plan_call rfl (by kernel_rfl) (by go_simp; exact ⟨rfl, rfl⟩) ?_
  refine (kind_any _ _).mono ?_
  rintro e w' ⟨rfl, rfl⟩
  rw [show ks (kd 27) = ⟨#[83]⟩ from rfl]
  refine ⟨_, rfl, Ext.refl _, ?_⟩
  simp only [Act.put, List.setIfInBounds_toArray, List.set_cons_zero, List.set_cons_succ]
  iterate 5 (refine plan_take (v := ?_) rfl (by kernel_rfl) ?_ ?_; rotate_left; (focus (intro w' hw'; go_simp; try with_reducible rfl)); simp only [Act.put, List.setIfInBounds_toArray, List.set_cons_zero, List.set_cons_succ])
  refine plan_call rfl (by kernel_rfl) (by go_simp; exact ⟨rfl, rfl⟩) ?_
  refine (size_any _ _).mono ?_
  rintro e w' ⟨rfl, rfl⟩
  rw [show sizeV 27 = 2 from rfl]
  refine ⟨_, rfl, Ext.refl _, ?_⟩
  simp only [Act.put, List.setIfInBounds_toArray, List.set_cons_zero, List.set_cons_succ]
  iterate 7 (refine plan_take (v := ?_) rfl (by kernel_rfl) ?_ ?_; rotate_left; (focus (intro w' hw'; go_simp; try with_reducible rfl)); simp only [Act.put, List.setIfInBounds_toArray, List.set_cons_zero, List.set_cons_succ])
  refine plan_call rfl (by kernel_rfl) (by go_simp; exact ⟨rfl, rfl⟩) ?_
  refine (sign_any _ _).mono ?_
  rintro e w' ⟨rfl, rfl⟩
  rw [show signB 27 = false from rfl]
  refine ⟨_, rfl, Ext.refl _, ?_⟩
  simp only [Act.put, List.setIfInBounds_toArray, List.set_cons_zero, List.set_cons_succ]
  iterate 6 (refine plan_take (v := ?_) rfl (by kernel_rfl) ?_ ?_; rotate_left; (focus (intro w' hw'; go_simp; try with_reducible rfl)); simp only [Act.put, List.setIfInBounds_toArray, List.set_cons_zero, List.set_cons_succ])
  iterate 2 (refine plan_skip rfl (by kernel_rfl) ?_; simp only [Act.put, List.setIfInBounds_toArray, List.set_cons_zero, List.set_cons_succ])
  iterate 4 (refine plan_take (v := ?_) rfl (by kernel_rfl) ?_ ?_; rotate_left; (focus (intro w' hw'; go_simp; try with_reducible rfl)); simp only [Act.put, List.setIfInBounds_toArray, List.set_cons_zero, List.set_cons_succ])
  refine plan_end ?_
  clear r1 r2
  go_wp2
  go_ret
  refine ⟨rfl, ?_⟩
  have b1 := HB1.out
  have b2 := b1.trans (HB2.out.mono b1.size)
  exact (b2.alloc b2.size _).drew
theorem kinds_28 (W : World) : Calls Try.prog 5 #[.int .i64 28] W fun e w' => e = .returned (.bool true) ∧ Below W.heap.size W w' := by
  have hl : (((({ data := #[115, 119] } : ByteArray)[1]'(by decide)).toNat : Nat) : Int) = 119 := rfl
  have t1 : (({ data := #[83] } : ByteArray).toList == [76]) = false := by rw [ByteArray.toList_mk]; rfl
  have t2 : (({ data := #[83] } : ByteArray).toList == [65]) = false := by rw [ByteArray.toList_mk]; rfl
  go_enter Try.func5, Try.ntmps5
  go_wp2_with fail
  refine (first_ok _).mono ?_
  rintro e w1 ⟨rfl, hb1⟩
  have HB1 := Lib.hid hb1
  clear hb1
  go_wp2_with fail
  refine (of_yes 28 _ (by decide)).mono ?_
  rintro e w2 ⟨rfl, hb2⟩
  rw [show nameS 28 = ⟨#[115, 119]⟩ from rfl, show ks (kd ((28 : Nat) : Int)) = ⟨#[83]⟩ from rfl, show sizeV ((28 : Nat) : Int) = 4 from rfl]
  have HB2 := Lib.hid hb2
  clear hb2
  go_wp2_with fail
  have r1 := fun W' (h : Ext (w2.alloc (.cells #[.string ⟨#[115, 119]⟩, .string ⟨#[83]⟩, .int .i64 4] 36)).drew W') => (h.cell (p := ⟨w2.heap.size, 1, none⟩) (by simp)).trans (show _ = some (Value.string ⟨#[83]⟩) from World.cell?_alloc_new _ _ _ _)
  have r2 := fun W' (h : Ext (w2.alloc (.cells #[.string ⟨#[115, 119]⟩, .string ⟨#[83]⟩, .int .i64 4] 36)).drew W') => (h.cell (p := ⟨w2.heap.size, 2, none⟩) (by simp)).trans (show _ = some (Value.int .i64 4) from World.cell?_alloc_new _ _ _ _)
  refine wp_region_plan [(0, false), (2, false), (3, false), (1, true), (4, false), (5, false), (6, false), (8, false), (9, false), (7, true), (10, false), (11, false), (12, false), (13, false), (15, false), (16, false), (17, false), (14, true), (18, false), (19, false), (20, false), (21, false), (22, false), (23, false), (24, false), (25, false), (26, false), (27, false), (28, false), (29, false)] (by kernel_rfl) (by kernel_rfl) (fun _ d _ _ _ h => by cases d <;> exact h) ?_
  iterate 3 (refine plan_take (v := ?_) rfl (by kernel_rfl) ?_ ?_; rotate_left; (focus (intro w' hw'; go_simp; try with_reducible rfl)); simp only [Act.put, List.setIfInBounds_toArray, List.set_cons_zero, List.set_cons_succ])
  refine plan_call rfl (by kernel_rfl) (by go_simp; exact ⟨rfl, rfl⟩) ?_
  refine (kind_any _ _).mono ?_
  rintro e w' ⟨rfl, rfl⟩
  rw [show ks (kd 28) = ⟨#[83]⟩ from rfl]
  refine ⟨_, rfl, Ext.refl _, ?_⟩
  simp only [Act.put, List.setIfInBounds_toArray, List.set_cons_zero, List.set_cons_succ]
  iterate 5 (refine plan_take (v := ?_) rfl (by kernel_rfl) ?_ ?_; rotate_left; (focus (intro w' hw'; go_simp; try with_reducible rfl)); simp only [Act.put, List.setIfInBounds_toArray, List.set_cons_zero, List.set_cons_succ])
  refine plan_call rfl (by kernel_rfl) (by go_simp; exact ⟨rfl, rfl⟩) ?_
  refine (size_any _ _).mono ?_
  rintro e w' ⟨rfl, rfl⟩
  rw [show sizeV 28 = 4 from rfl]
  refine ⟨_, rfl, Ext.refl _, ?_⟩
  simp only [Act.put, List.setIfInBounds_toArray, List.set_cons_zero, List.set_cons_succ]
  iterate 7 (refine plan_take (v := ?_) rfl (by kernel_rfl) ?_ ?_; rotate_left; (focus (intro w' hw'; go_simp; try with_reducible rfl)); simp only [Act.put, List.setIfInBounds_toArray, List.set_cons_zero, List.set_cons_succ])
  refine plan_call rfl (by kernel_rfl) (by go_simp; exact ⟨rfl, rfl⟩) ?_
  refine (sign_any _ _).mono ?_
  rintro e w' ⟨rfl, rfl⟩
  rw [show signB 28 = false from rfl]
  refine ⟨_, rfl, Ext.refl _, ?_⟩
  simp only [Act.put, List.setIfInBounds_toArray, List.set_cons_zero, List.set_cons_succ]
  iterate 6 (refine plan_take (v := ?_) rfl (by kernel_rfl) ?_ ?_; rotate_left; (focus (intro w' hw'; go_simp; try with_reducible rfl)); simp only [Act.put, List.setIfInBounds_toArray, List.set_cons_zero, List.set_cons_succ])
  iterate 2 (refine plan_skip rfl (by kernel_rfl) ?_; simp only [Act.put, List.setIfInBounds_toArray, List.set_cons_zero, List.set_cons_succ])
  iterate 4 (refine plan_take (v := ?_) rfl (by kernel_rfl) ?_ ?_; rotate_left; (focus (intro w' hw'; go_simp; try with_reducible rfl)); simp only [Act.put, List.setIfInBounds_toArray, List.set_cons_zero, List.set_cons_succ])
  refine plan_end ?_
  clear r1 r2
  go_wp2
  go_ret
  refine ⟨rfl, ?_⟩
  have b1 := HB1.out
  have b2 := b1.trans (HB2.out.mono b1.size)
  exact (b2.alloc b2.size _).drew
theorem kinds_29 (W : World) : Calls Try.prog 5 #[.int .i64 29] W fun e w' => e = .returned (.bool true) ∧ Below W.heap.size W w' := by
  have hl : (((({ data := #[115, 100] } : ByteArray)[1]'(by decide)).toNat : Nat) : Int) = 100 := rfl
  have t1 : (({ data := #[83] } : ByteArray).toList == [76]) = false := by rw [ByteArray.toList_mk]; rfl
  have t2 : (({ data := #[83] } : ByteArray).toList == [65]) = false := by rw [ByteArray.toList_mk]; rfl
  go_enter Try.func5, Try.ntmps5
  go_wp2_with fail
  refine (first_ok _).mono ?_
  rintro e w1 ⟨rfl, hb1⟩
  have HB1 := Lib.hid hb1
  clear hb1
  go_wp2_with fail
  refine (of_yes 29 _ (by decide)).mono ?_
  rintro e w2 ⟨rfl, hb2⟩
  rw [show nameS 29 = ⟨#[115, 100]⟩ from rfl, show ks (kd ((29 : Nat) : Int)) = ⟨#[83]⟩ from rfl, show sizeV ((29 : Nat) : Int) = 8 from rfl]
  have HB2 := Lib.hid hb2
  clear hb2
  go_wp2_with fail
  have r1 := fun W' (h : Ext (w2.alloc (.cells #[.string ⟨#[115, 100]⟩, .string ⟨#[83]⟩, .int .i64 8] 36)).drew W') => (h.cell (p := ⟨w2.heap.size, 1, none⟩) (by simp)).trans (show _ = some (Value.string ⟨#[83]⟩) from World.cell?_alloc_new _ _ _ _)
  have r2 := fun W' (h : Ext (w2.alloc (.cells #[.string ⟨#[115, 100]⟩, .string ⟨#[83]⟩, .int .i64 8] 36)).drew W') => (h.cell (p := ⟨w2.heap.size, 2, none⟩) (by simp)).trans (show _ = some (Value.int .i64 8) from World.cell?_alloc_new _ _ _ _)
  refine wp_region_plan [(0, false), (2, false), (3, false), (1, true), (4, false), (5, false), (6, false), (8, false), (9, false), (7, true), (10, false), (11, false), (12, false), (13, false), (15, false), (16, false), (17, false), (14, true), (18, false), (19, false), (20, false), (21, false), (22, false), (23, false), (24, false), (25, false), (26, false), (27, false), (28, false), (29, false)] (by kernel_rfl) (by kernel_rfl) (fun _ d _ _ _ h => by cases d <;> exact h) ?_
  iterate 3 (refine plan_take (v := ?_) rfl (by kernel_rfl) ?_ ?_; rotate_left; (focus (intro w' hw'; go_simp; try with_reducible rfl)); simp only [Act.put, List.setIfInBounds_toArray, List.set_cons_zero, List.set_cons_succ])
  refine plan_call rfl (by kernel_rfl) (by go_simp; exact ⟨rfl, rfl⟩) ?_
  refine (kind_any _ _).mono ?_
  rintro e w' ⟨rfl, rfl⟩
  rw [show ks (kd 29) = ⟨#[83]⟩ from rfl]
  refine ⟨_, rfl, Ext.refl _, ?_⟩
  simp only [Act.put, List.setIfInBounds_toArray, List.set_cons_zero, List.set_cons_succ]
  iterate 5 (refine plan_take (v := ?_) rfl (by kernel_rfl) ?_ ?_; rotate_left; (focus (intro w' hw'; go_simp; try with_reducible rfl)); simp only [Act.put, List.setIfInBounds_toArray, List.set_cons_zero, List.set_cons_succ])
  refine plan_call rfl (by kernel_rfl) (by go_simp; exact ⟨rfl, rfl⟩) ?_
  refine (size_any _ _).mono ?_
  rintro e w' ⟨rfl, rfl⟩
  rw [show sizeV 29 = 8 from rfl]
  refine ⟨_, rfl, Ext.refl _, ?_⟩
  simp only [Act.put, List.setIfInBounds_toArray, List.set_cons_zero, List.set_cons_succ]
  iterate 7 (refine plan_take (v := ?_) rfl (by kernel_rfl) ?_ ?_; rotate_left; (focus (intro w' hw'; go_simp; try with_reducible rfl)); simp only [Act.put, List.setIfInBounds_toArray, List.set_cons_zero, List.set_cons_succ])
  refine plan_call rfl (by kernel_rfl) (by go_simp; exact ⟨rfl, rfl⟩) ?_
  refine (sign_any _ _).mono ?_
  rintro e w' ⟨rfl, rfl⟩
  rw [show signB 29 = false from rfl]
  refine ⟨_, rfl, Ext.refl _, ?_⟩
  simp only [Act.put, List.setIfInBounds_toArray, List.set_cons_zero, List.set_cons_succ]
  iterate 6 (refine plan_take (v := ?_) rfl (by kernel_rfl) ?_ ?_; rotate_left; (focus (intro w' hw'; go_simp; try with_reducible rfl)); simp only [Act.put, List.setIfInBounds_toArray, List.set_cons_zero, List.set_cons_succ])
  iterate 2 (refine plan_skip rfl (by kernel_rfl) ?_; simp only [Act.put, List.setIfInBounds_toArray, List.set_cons_zero, List.set_cons_succ])
  iterate 4 (refine plan_take (v := ?_) rfl (by kernel_rfl) ?_ ?_; rotate_left; (focus (intro w' hw'; go_simp; try with_reducible rfl)); simp only [Act.put, List.setIfInBounds_toArray, List.set_cons_zero, List.set_cons_succ])
  refine plan_end ?_
  clear r1 r2
  go_wp2
  go_ret
  refine ⟨rfl, ?_⟩
  have b1 := HB1.out
  have b2 := b1.trans (HB2.out.mono b1.size)
  exact (b2.alloc b2.size _).drew
theorem kinds_30 (W : World) : Calls Try.prog 5 #[.int .i64 30] W fun e w' => e = .returned (.bool true) ∧ Below W.heap.size W w' := by
  have hl : (((({ data := #[115, 119, 97, 112, 46, 119] } : ByteArray)[5]'(by decide)).toNat : Nat) : Int) = 119 := rfl
  have t1 : (({ data := #[65] } : ByteArray).toList == [76]) = false := by rw [ByteArray.toList_mk]; rfl
  have t2 : (({ data := #[65] } : ByteArray).toList == [65]) = true := by rw [ByteArray.toList_mk]; rfl
  go_enter Try.func5, Try.ntmps5
  go_wp2_with fail
  refine (first_ok _).mono ?_
  rintro e w1 ⟨rfl, hb1⟩
  have HB1 := Lib.hid hb1
  clear hb1
  go_wp2_with fail
  refine (of_yes 30 _ (by decide)).mono ?_
  rintro e w2 ⟨rfl, hb2⟩
  rw [show nameS 30 = ⟨#[115, 119, 97, 112, 46, 119]⟩ from rfl, show ks (kd ((30 : Nat) : Int)) = ⟨#[65]⟩ from rfl, show sizeV ((30 : Nat) : Int) = 4 from rfl]
  have HB2 := Lib.hid hb2
  clear hb2
  go_wp2_with fail
  have r1 := fun W' (h : Ext (w2.alloc (.cells #[.string ⟨#[115, 119, 97, 112, 46, 119]⟩, .string ⟨#[65]⟩, .int .i64 4] 36)).drew W') => (h.cell (p := ⟨w2.heap.size, 1, none⟩) (by simp)).trans (show _ = some (Value.string ⟨#[65]⟩) from World.cell?_alloc_new _ _ _ _)
  have r2 := fun W' (h : Ext (w2.alloc (.cells #[.string ⟨#[115, 119, 97, 112, 46, 119]⟩, .string ⟨#[65]⟩, .int .i64 4] 36)).drew W') => (h.cell (p := ⟨w2.heap.size, 2, none⟩) (by simp)).trans (show _ = some (Value.int .i64 4) from World.cell?_alloc_new _ _ _ _)
  refine wp_region_plan [(0, false), (2, false), (3, false), (1, true), (4, false), (5, false), (6, false), (8, false), (9, false), (7, true), (10, false), (11, false), (12, false), (13, false), (15, false), (16, false), (17, false), (14, true), (18, false), (19, false), (20, false), (21, false), (22, false), (23, false), (24, false), (25, false), (26, false), (27, false), (28, false), (29, false)] (by kernel_rfl) (by kernel_rfl) (fun _ d _ _ _ h => by cases d <;> exact h) ?_
  iterate 3 (refine plan_take (v := ?_) rfl (by kernel_rfl) ?_ ?_; rotate_left; (focus (intro w' hw'; go_simp; try with_reducible rfl)); simp only [Act.put, List.setIfInBounds_toArray, List.set_cons_zero, List.set_cons_succ])
  refine plan_call rfl (by kernel_rfl) (by go_simp; exact ⟨rfl, rfl⟩) ?_
  refine (kind_any _ _).mono ?_
  rintro e w' ⟨rfl, rfl⟩
  rw [show ks (kd 30) = ⟨#[65]⟩ from rfl]
  refine ⟨_, rfl, Ext.refl _, ?_⟩
  simp only [Act.put, List.setIfInBounds_toArray, List.set_cons_zero, List.set_cons_succ]
  iterate 5 (refine plan_take (v := ?_) rfl (by kernel_rfl) ?_ ?_; rotate_left; (focus (intro w' hw'; go_simp; try with_reducible rfl)); simp only [Act.put, List.setIfInBounds_toArray, List.set_cons_zero, List.set_cons_succ])
  refine plan_call rfl (by kernel_rfl) (by go_simp; exact ⟨rfl, rfl⟩) ?_
  refine (size_any _ _).mono ?_
  rintro e w' ⟨rfl, rfl⟩
  rw [show sizeV 30 = 4 from rfl]
  refine ⟨_, rfl, Ext.refl _, ?_⟩
  simp only [Act.put, List.setIfInBounds_toArray, List.set_cons_zero, List.set_cons_succ]
  iterate 7 (refine plan_take (v := ?_) rfl (by kernel_rfl) ?_ ?_; rotate_left; (focus (intro w' hw'; go_simp; try with_reducible rfl)); simp only [Act.put, List.setIfInBounds_toArray, List.set_cons_zero, List.set_cons_succ])
  refine plan_call rfl (by kernel_rfl) (by go_simp; exact ⟨rfl, rfl⟩) ?_
  refine (sign_any _ _).mono ?_
  rintro e w' ⟨rfl, rfl⟩
  rw [show signB 30 = true from rfl]
  refine ⟨_, rfl, Ext.refl _, ?_⟩
  simp only [Act.put, List.setIfInBounds_toArray, List.set_cons_zero, List.set_cons_succ]
  iterate 12 (refine plan_take (v := ?_) rfl (by kernel_rfl) ?_ ?_; rotate_left; (focus (intro w' hw'; go_simp; try with_reducible rfl)); simp only [Act.put, List.setIfInBounds_toArray, List.set_cons_zero, List.set_cons_succ])
  refine plan_end ?_
  clear r1 r2
  go_wp2
  go_ret
  refine ⟨rfl, ?_⟩
  have b1 := HB1.out
  have b2 := b1.trans (HB2.out.mono b1.size)
  exact (b2.alloc b2.size _).drew
theorem kinds_31 (W : World) : Calls Try.prog 5 #[.int .i64 31] W fun e w' => e = .returned (.bool true) ∧ Below W.heap.size W w' := by
  have hl : (((({ data := #[115, 119, 97, 112, 46, 100] } : ByteArray)[5]'(by decide)).toNat : Nat) : Int) = 100 := rfl
  have t1 : (({ data := #[65] } : ByteArray).toList == [76]) = false := by rw [ByteArray.toList_mk]; rfl
  have t2 : (({ data := #[65] } : ByteArray).toList == [65]) = true := by rw [ByteArray.toList_mk]; rfl
  go_enter Try.func5, Try.ntmps5
  go_wp2_with fail
  refine (first_ok _).mono ?_
  rintro e w1 ⟨rfl, hb1⟩
  have HB1 := Lib.hid hb1
  clear hb1
  go_wp2_with fail
  refine (of_yes 31 _ (by decide)).mono ?_
  rintro e w2 ⟨rfl, hb2⟩
  rw [show nameS 31 = ⟨#[115, 119, 97, 112, 46, 100]⟩ from rfl, show ks (kd ((31 : Nat) : Int)) = ⟨#[65]⟩ from rfl, show sizeV ((31 : Nat) : Int) = 8 from rfl]
  have HB2 := Lib.hid hb2
  clear hb2
  go_wp2_with fail
  have r1 := fun W' (h : Ext (w2.alloc (.cells #[.string ⟨#[115, 119, 97, 112, 46, 100]⟩, .string ⟨#[65]⟩, .int .i64 8] 36)).drew W') => (h.cell (p := ⟨w2.heap.size, 1, none⟩) (by simp)).trans (show _ = some (Value.string ⟨#[65]⟩) from World.cell?_alloc_new _ _ _ _)
  have r2 := fun W' (h : Ext (w2.alloc (.cells #[.string ⟨#[115, 119, 97, 112, 46, 100]⟩, .string ⟨#[65]⟩, .int .i64 8] 36)).drew W') => (h.cell (p := ⟨w2.heap.size, 2, none⟩) (by simp)).trans (show _ = some (Value.int .i64 8) from World.cell?_alloc_new _ _ _ _)
  refine wp_region_plan [(0, false), (2, false), (3, false), (1, true), (4, false), (5, false), (6, false), (8, false), (9, false), (7, true), (10, false), (11, false), (12, false), (13, false), (15, false), (16, false), (17, false), (14, true), (18, false), (19, false), (20, false), (21, false), (22, false), (23, false), (24, false), (25, false), (26, false), (27, false), (28, false), (29, false)] (by kernel_rfl) (by kernel_rfl) (fun _ d _ _ _ h => by cases d <;> exact h) ?_
  iterate 3 (refine plan_take (v := ?_) rfl (by kernel_rfl) ?_ ?_; rotate_left; (focus (intro w' hw'; go_simp; try with_reducible rfl)); simp only [Act.put, List.setIfInBounds_toArray, List.set_cons_zero, List.set_cons_succ])
  refine plan_call rfl (by kernel_rfl) (by go_simp; exact ⟨rfl, rfl⟩) ?_
  refine (kind_any _ _).mono ?_
  rintro e w' ⟨rfl, rfl⟩
  rw [show ks (kd 31) = ⟨#[65]⟩ from rfl]
  refine ⟨_, rfl, Ext.refl _, ?_⟩
  simp only [Act.put, List.setIfInBounds_toArray, List.set_cons_zero, List.set_cons_succ]
  iterate 5 (refine plan_take (v := ?_) rfl (by kernel_rfl) ?_ ?_; rotate_left; (focus (intro w' hw'; go_simp; try with_reducible rfl)); simp only [Act.put, List.setIfInBounds_toArray, List.set_cons_zero, List.set_cons_succ])
  refine plan_call rfl (by kernel_rfl) (by go_simp; exact ⟨rfl, rfl⟩) ?_
  refine (size_any _ _).mono ?_
  rintro e w' ⟨rfl, rfl⟩
  rw [show sizeV 31 = 8 from rfl]
  refine ⟨_, rfl, Ext.refl _, ?_⟩
  simp only [Act.put, List.setIfInBounds_toArray, List.set_cons_zero, List.set_cons_succ]
  iterate 7 (refine plan_take (v := ?_) rfl (by kernel_rfl) ?_ ?_; rotate_left; (focus (intro w' hw'; go_simp; try with_reducible rfl)); simp only [Act.put, List.setIfInBounds_toArray, List.set_cons_zero, List.set_cons_succ])
  refine plan_call rfl (by kernel_rfl) (by go_simp; exact ⟨rfl, rfl⟩) ?_
  refine (sign_any _ _).mono ?_
  rintro e w' ⟨rfl, rfl⟩
  rw [show signB 31 = true from rfl]
  refine ⟨_, rfl, Ext.refl _, ?_⟩
  simp only [Act.put, List.setIfInBounds_toArray, List.set_cons_zero, List.set_cons_succ]
  iterate 12 (refine plan_take (v := ?_) rfl (by kernel_rfl) ?_ ?_; rotate_left; (focus (intro w' hw'; go_simp; try with_reducible rfl)); simp only [Act.put, List.setIfInBounds_toArray, List.set_cons_zero, List.set_cons_succ])
  refine plan_end ?_
  clear r1 r2
  go_wp2
  go_ret
  refine ⟨rfl, ?_⟩
  have b1 := HB1.out
  have b2 := b1.trans (HB2.out.mono b1.size)
  exact (b2.alloc b2.size _).drew
theorem kinds_32 (W : World) : Calls Try.prog 5 #[.int .i64 32] W fun e w' => e = .returned (.bool true) ∧ Below W.heap.size W w' := by
  have hl : (((({ data := #[97, 109, 111, 97, 100, 100, 46, 119] } : ByteArray)[7]'(by decide)).toNat : Nat) : Int) = 119 := rfl
  have t1 : (({ data := #[65] } : ByteArray).toList == [76]) = false := by rw [ByteArray.toList_mk]; rfl
  have t2 : (({ data := #[65] } : ByteArray).toList == [65]) = true := by rw [ByteArray.toList_mk]; rfl
  go_enter Try.func5, Try.ntmps5
  go_wp2_with fail
  refine (first_ok _).mono ?_
  rintro e w1 ⟨rfl, hb1⟩
  have HB1 := Lib.hid hb1
  clear hb1
  go_wp2_with fail
  refine (of_yes 32 _ (by decide)).mono ?_
  rintro e w2 ⟨rfl, hb2⟩
  rw [show nameS 32 = ⟨#[97, 109, 111, 97, 100, 100, 46, 119]⟩ from rfl, show ks (kd ((32 : Nat) : Int)) = ⟨#[65]⟩ from rfl, show sizeV ((32 : Nat) : Int) = 4 from rfl]
  have HB2 := Lib.hid hb2
  clear hb2
  go_wp2_with fail
  have r1 := fun W' (h : Ext (w2.alloc (.cells #[.string ⟨#[97, 109, 111, 97, 100, 100, 46, 119]⟩, .string ⟨#[65]⟩, .int .i64 4] 36)).drew W') => (h.cell (p := ⟨w2.heap.size, 1, none⟩) (by simp)).trans (show _ = some (Value.string ⟨#[65]⟩) from World.cell?_alloc_new _ _ _ _)
  have r2 := fun W' (h : Ext (w2.alloc (.cells #[.string ⟨#[97, 109, 111, 97, 100, 100, 46, 119]⟩, .string ⟨#[65]⟩, .int .i64 4] 36)).drew W') => (h.cell (p := ⟨w2.heap.size, 2, none⟩) (by simp)).trans (show _ = some (Value.int .i64 4) from World.cell?_alloc_new _ _ _ _)
  refine wp_region_plan [(0, false), (2, false), (3, false), (1, true), (4, false), (5, false), (6, false), (8, false), (9, false), (7, true), (10, false), (11, false), (12, false), (13, false), (15, false), (16, false), (17, false), (14, true), (18, false), (19, false), (20, false), (21, false), (22, false), (23, false), (24, false), (25, false), (26, false), (27, false), (28, false), (29, false)] (by kernel_rfl) (by kernel_rfl) (fun _ d _ _ _ h => by cases d <;> exact h) ?_
  iterate 3 (refine plan_take (v := ?_) rfl (by kernel_rfl) ?_ ?_; rotate_left; (focus (intro w' hw'; go_simp; try with_reducible rfl)); simp only [Act.put, List.setIfInBounds_toArray, List.set_cons_zero, List.set_cons_succ])
  refine plan_call rfl (by kernel_rfl) (by go_simp; exact ⟨rfl, rfl⟩) ?_
  refine (kind_any _ _).mono ?_
  rintro e w' ⟨rfl, rfl⟩
  rw [show ks (kd 32) = ⟨#[65]⟩ from rfl]
  refine ⟨_, rfl, Ext.refl _, ?_⟩
  simp only [Act.put, List.setIfInBounds_toArray, List.set_cons_zero, List.set_cons_succ]
  iterate 5 (refine plan_take (v := ?_) rfl (by kernel_rfl) ?_ ?_; rotate_left; (focus (intro w' hw'; go_simp; try with_reducible rfl)); simp only [Act.put, List.setIfInBounds_toArray, List.set_cons_zero, List.set_cons_succ])
  refine plan_call rfl (by kernel_rfl) (by go_simp; exact ⟨rfl, rfl⟩) ?_
  refine (size_any _ _).mono ?_
  rintro e w' ⟨rfl, rfl⟩
  rw [show sizeV 32 = 4 from rfl]
  refine ⟨_, rfl, Ext.refl _, ?_⟩
  simp only [Act.put, List.setIfInBounds_toArray, List.set_cons_zero, List.set_cons_succ]
  iterate 7 (refine plan_take (v := ?_) rfl (by kernel_rfl) ?_ ?_; rotate_left; (focus (intro w' hw'; go_simp; try with_reducible rfl)); simp only [Act.put, List.setIfInBounds_toArray, List.set_cons_zero, List.set_cons_succ])
  refine plan_call rfl (by kernel_rfl) (by go_simp; exact ⟨rfl, rfl⟩) ?_
  refine (sign_any _ _).mono ?_
  rintro e w' ⟨rfl, rfl⟩
  rw [show signB 32 = true from rfl]
  refine ⟨_, rfl, Ext.refl _, ?_⟩
  simp only [Act.put, List.setIfInBounds_toArray, List.set_cons_zero, List.set_cons_succ]
  iterate 12 (refine plan_take (v := ?_) rfl (by kernel_rfl) ?_ ?_; rotate_left; (focus (intro w' hw'; go_simp; try with_reducible rfl)); simp only [Act.put, List.setIfInBounds_toArray, List.set_cons_zero, List.set_cons_succ])
  refine plan_end ?_
  clear r1 r2
  go_wp2
  go_ret
  refine ⟨rfl, ?_⟩
  have b1 := HB1.out
  have b2 := b1.trans (HB2.out.mono b1.size)
  exact (b2.alloc b2.size _).drew
theorem kinds_33 (W : World) : Calls Try.prog 5 #[.int .i64 33] W fun e w' => e = .returned (.bool true) ∧ Below W.heap.size W w' := by
  have hl : (((({ data := #[97, 109, 111, 97, 100, 100, 46, 100] } : ByteArray)[7]'(by decide)).toNat : Nat) : Int) = 100 := rfl
  have t1 : (({ data := #[65] } : ByteArray).toList == [76]) = false := by rw [ByteArray.toList_mk]; rfl
  have t2 : (({ data := #[65] } : ByteArray).toList == [65]) = true := by rw [ByteArray.toList_mk]; rfl
  go_enter Try.func5, Try.ntmps5
  go_wp2_with fail
  refine (first_ok _).mono ?_
  rintro e w1 ⟨rfl, hb1⟩
  have HB1 := Lib.hid hb1
  clear hb1
  go_wp2_with fail
  refine (of_yes 33 _ (by decide)).mono ?_
  rintro e w2 ⟨rfl, hb2⟩
  rw [show nameS 33 = ⟨#[97, 109, 111, 97, 100, 100, 46, 100]⟩ from rfl, show ks (kd ((33 : Nat) : Int)) = ⟨#[65]⟩ from rfl, show sizeV ((33 : Nat) : Int) = 8 from rfl]
  have HB2 := Lib.hid hb2
  clear hb2
  go_wp2_with fail
  have r1 := fun W' (h : Ext (w2.alloc (.cells #[.string ⟨#[97, 109, 111, 97, 100, 100, 46, 100]⟩, .string ⟨#[65]⟩, .int .i64 8] 36)).drew W') => (h.cell (p := ⟨w2.heap.size, 1, none⟩) (by simp)).trans (show _ = some (Value.string ⟨#[65]⟩) from World.cell?_alloc_new _ _ _ _)
  have r2 := fun W' (h : Ext (w2.alloc (.cells #[.string ⟨#[97, 109, 111, 97, 100, 100, 46, 100]⟩, .string ⟨#[65]⟩, .int .i64 8] 36)).drew W') => (h.cell (p := ⟨w2.heap.size, 2, none⟩) (by simp)).trans (show _ = some (Value.int .i64 8) from World.cell?_alloc_new _ _ _ _)
  refine wp_region_plan [(0, false), (2, false), (3, false), (1, true), (4, false), (5, false), (6, false), (8, false), (9, false), (7, true), (10, false), (11, false), (12, false), (13, false), (15, false), (16, false), (17, false), (14, true), (18, false), (19, false), (20, false), (21, false), (22, false), (23, false), (24, false), (25, false), (26, false), (27, false), (28, false), (29, false)] (by kernel_rfl) (by kernel_rfl) (fun _ d _ _ _ h => by cases d <;> exact h) ?_
  iterate 3 (refine plan_take (v := ?_) rfl (by kernel_rfl) ?_ ?_; rotate_left; (focus (intro w' hw'; go_simp; try with_reducible rfl)); simp only [Act.put, List.setIfInBounds_toArray, List.set_cons_zero, List.set_cons_succ])
  refine plan_call rfl (by kernel_rfl) (by go_simp; exact ⟨rfl, rfl⟩) ?_
  refine (kind_any _ _).mono ?_
  rintro e w' ⟨rfl, rfl⟩
  rw [show ks (kd 33) = ⟨#[65]⟩ from rfl]
  refine ⟨_, rfl, Ext.refl _, ?_⟩
  simp only [Act.put, List.setIfInBounds_toArray, List.set_cons_zero, List.set_cons_succ]
  iterate 5 (refine plan_take (v := ?_) rfl (by kernel_rfl) ?_ ?_; rotate_left; (focus (intro w' hw'; go_simp; try with_reducible rfl)); simp only [Act.put, List.setIfInBounds_toArray, List.set_cons_zero, List.set_cons_succ])
  refine plan_call rfl (by kernel_rfl) (by go_simp; exact ⟨rfl, rfl⟩) ?_
  refine (size_any _ _).mono ?_
  rintro e w' ⟨rfl, rfl⟩
  rw [show sizeV 33 = 8 from rfl]
  refine ⟨_, rfl, Ext.refl _, ?_⟩
  simp only [Act.put, List.setIfInBounds_toArray, List.set_cons_zero, List.set_cons_succ]
  iterate 7 (refine plan_take (v := ?_) rfl (by kernel_rfl) ?_ ?_; rotate_left; (focus (intro w' hw'; go_simp; try with_reducible rfl)); simp only [Act.put, List.setIfInBounds_toArray, List.set_cons_zero, List.set_cons_succ])
  refine plan_call rfl (by kernel_rfl) (by go_simp; exact ⟨rfl, rfl⟩) ?_
  refine (sign_any _ _).mono ?_
  rintro e w' ⟨rfl, rfl⟩
  rw [show signB 33 = true from rfl]
  refine ⟨_, rfl, Ext.refl _, ?_⟩
  simp only [Act.put, List.setIfInBounds_toArray, List.set_cons_zero, List.set_cons_succ]
  iterate 12 (refine plan_take (v := ?_) rfl (by kernel_rfl) ?_ ?_; rotate_left; (focus (intro w' hw'; go_simp; try with_reducible rfl)); simp only [Act.put, List.setIfInBounds_toArray, List.set_cons_zero, List.set_cons_succ])
  refine plan_end ?_
  clear r1 r2
  go_wp2
  go_ret
  refine ⟨rfl, ?_⟩
  have b1 := HB1.out
  have b2 := b1.trans (HB2.out.mono b1.size)
  exact (b2.alloc b2.size _).drew
theorem kinds_34 (W : World) : Calls Try.prog 5 #[.int .i64 34] W fun e w' => e = .returned (.bool true) ∧ Below W.heap.size W w' := by
  have hl : (((({ data := #[102, 101, 110, 99, 101] } : ByteArray)[4]'(by decide)).toNat : Nat) : Int) = 101 := rfl
  have t1 : (({ data := #[78] } : ByteArray).toList == [76]) = false := by rw [ByteArray.toList_mk]; rfl
  have t2 : (({ data := #[78] } : ByteArray).toList == [65]) = false := by rw [ByteArray.toList_mk]; rfl
  go_enter Try.func5, Try.ntmps5
  go_wp2_with fail
  refine (first_ok _).mono ?_
  rintro e w1 ⟨rfl, hb1⟩
  have HB1 := Lib.hid hb1
  clear hb1
  go_wp2_with fail
  refine (of_yes 34 _ (by decide)).mono ?_
  rintro e w2 ⟨rfl, hb2⟩
  rw [show nameS 34 = ⟨#[102, 101, 110, 99, 101]⟩ from rfl, show ks (kd ((34 : Nat) : Int)) = ⟨#[78]⟩ from rfl, show sizeV ((34 : Nat) : Int) = 0 from rfl]
  have HB2 := Lib.hid hb2
  clear hb2
  go_wp2_with fail
  have r1 := fun W' (h : Ext (w2.alloc (.cells #[.string ⟨#[102, 101, 110, 99, 101]⟩, .string ⟨#[78]⟩, .int .i64 0] 36)).drew W') => (h.cell (p := ⟨w2.heap.size, 1, none⟩) (by simp)).trans (show _ = some (Value.string ⟨#[78]⟩) from World.cell?_alloc_new _ _ _ _)
  have r2 := fun W' (h : Ext (w2.alloc (.cells #[.string ⟨#[102, 101, 110, 99, 101]⟩, .string ⟨#[78]⟩, .int .i64 0] 36)).drew W') => (h.cell (p := ⟨w2.heap.size, 2, none⟩) (by simp)).trans (show _ = some (Value.int .i64 0) from World.cell?_alloc_new _ _ _ _)
  refine wp_region_plan [(0, false), (2, false), (3, false), (1, true), (4, false), (5, false), (6, false), (8, false), (9, false), (7, true), (10, false), (11, false), (12, false), (13, false), (15, false), (16, false), (17, false), (14, true), (18, false), (19, false), (20, false), (21, false), (22, false), (23, false), (24, false), (25, false), (26, false), (27, false), (28, false), (29, false)] (by kernel_rfl) (by kernel_rfl) (fun _ d _ _ _ h => by cases d <;> exact h) ?_
  iterate 3 (refine plan_take (v := ?_) rfl (by kernel_rfl) ?_ ?_; rotate_left; (focus (intro w' hw'; go_simp; try with_reducible rfl)); simp only [Act.put, List.setIfInBounds_toArray, List.set_cons_zero, List.set_cons_succ])
  refine plan_call rfl (by kernel_rfl) (by go_simp; exact ⟨rfl, rfl⟩) ?_
  refine (kind_any _ _).mono ?_
  rintro e w' ⟨rfl, rfl⟩
  rw [show ks (kd 34) = ⟨#[78]⟩ from rfl]
  refine ⟨_, rfl, Ext.refl _, ?_⟩
  simp only [Act.put, List.setIfInBounds_toArray, List.set_cons_zero, List.set_cons_succ]
  iterate 5 (refine plan_take (v := ?_) rfl (by kernel_rfl) ?_ ?_; rotate_left; (focus (intro w' hw'; go_simp; try with_reducible rfl)); simp only [Act.put, List.setIfInBounds_toArray, List.set_cons_zero, List.set_cons_succ])
  refine plan_call rfl (by kernel_rfl) (by go_simp; exact ⟨rfl, rfl⟩) ?_
  refine (size_any _ _).mono ?_
  rintro e w' ⟨rfl, rfl⟩
  rw [show sizeV 34 = 0 from rfl]
  refine ⟨_, rfl, Ext.refl _, ?_⟩
  simp only [Act.put, List.setIfInBounds_toArray, List.set_cons_zero, List.set_cons_succ]
  iterate 7 (refine plan_take (v := ?_) rfl (by kernel_rfl) ?_ ?_; rotate_left; (focus (intro w' hw'; go_simp; try with_reducible rfl)); simp only [Act.put, List.setIfInBounds_toArray, List.set_cons_zero, List.set_cons_succ])
  refine plan_call rfl (by kernel_rfl) (by go_simp; exact ⟨rfl, rfl⟩) ?_
  refine (sign_any _ _).mono ?_
  rintro e w' ⟨rfl, rfl⟩
  rw [show signB 34 = false from rfl]
  refine ⟨_, rfl, Ext.refl _, ?_⟩
  simp only [Act.put, List.setIfInBounds_toArray, List.set_cons_zero, List.set_cons_succ]
  iterate 6 (refine plan_take (v := ?_) rfl (by kernel_rfl) ?_ ?_; rotate_left; (focus (intro w' hw'; go_simp; try with_reducible rfl)); simp only [Act.put, List.setIfInBounds_toArray, List.set_cons_zero, List.set_cons_succ])
  iterate 2 (refine plan_skip rfl (by kernel_rfl) ?_; simp only [Act.put, List.setIfInBounds_toArray, List.set_cons_zero, List.set_cons_succ])
  iterate 4 (refine plan_take (v := ?_) rfl (by kernel_rfl) ?_ ?_; rotate_left; (focus (intro w' hw'; go_simp; try with_reducible rfl)); simp only [Act.put, List.setIfInBounds_toArray, List.set_cons_zero, List.set_cons_succ])
  refine plan_end ?_
  clear r1 r2
  go_wp2
  go_ret
  refine ⟨rfl, ?_⟩
  have b1 := HB1.out
  have b2 := b1.trans (HB2.out.mono b1.size)
  exact (b2.alloc b2.size _).drew
end Law
end Go.Proofs.Ytcmaneeoblmmmaa
