/- IsaKinds, instructions 0 to 11. -/
import Derived.Test.YtcmaneeoblmmmaaIsaG
namespace Go.Proofs.Ytcmaneeoblmmmaa
open Go.RowKit
namespace Law
theorem kinds_0 (W : World) : Calls Try.prog 5 #[.int .i64 0] W fun e w' => e = .returned (.bool true) ∧ Below W.heap.size W w' := by
  have hl : (((({ data := #[104, 97, 108, 116] } : ByteArray)[3]'(by decide)).toNat : Nat) : Int) = 116 := rfl
  have t1 : (({ data := #[78] } : ByteArray).toList == [76]) = false := by rw [ByteArray.toList_mk]; rfl
  have t2 : (({ data := #[78] } : ByteArray).toList == [65]) = false := by rw [ByteArray.toList_mk]; rfl
  go_enter Try.func5, Try.ntmps5
  go_wp2_with fail
  refine (first_ok _).mono ?_
  rintro e w1 ⟨rfl, hb1⟩
  have HB1 := Lib.hid hb1
  clear hb1
  go_wp2_with fail
  refine (of_yes 0 _ (by decide)).mono ?_
  rintro e w2 ⟨rfl, hb2⟩
  rw [show nameS 0 = ⟨#[104, 97, 108, 116]⟩ from rfl, show ks (kd ((0 : Nat) : Int)) = ⟨#[78]⟩ from rfl, show sizeV ((0 : Nat) : Int) = 0 from rfl]
  have HB2 := Lib.hid hb2
  clear hb2
  go_wp2_with fail
  have r1 := fun W' (h : Ext (w2.alloc (.cells #[.string ⟨#[104, 97, 108, 116]⟩, .string ⟨#[78]⟩, .int .i64 0] 36)).drew W') => (h.cell (p := ⟨w2.heap.size, 1, none⟩) (by simp)).trans (show _ = some (Value.string ⟨#[78]⟩) from World.cell?_alloc_new _ _ _ _)
  have r2 := fun W' (h : Ext (w2.alloc (.cells #[.string ⟨#[104, 97, 108, 116]⟩, .string ⟨#[78]⟩, .int .i64 0] 36)).drew W') => (h.cell (p := ⟨w2.heap.size, 2, none⟩) (by simp)).trans (show _ = some (Value.int .i64 0) from World.cell?_alloc_new _ _ _ _)
  refine wp_region_plan [(0, false), (2, false), (3, false), (1, true), (4, false), (5, false), (6, false), (8, false), (9, false), (7, true), (10, false), (11, false), (12, false), (13, false), (15, false), (16, false), (17, false), (14, true), (18, false), (19, false), (20, false), (21, false), (22, false), (23, false), (24, false), (25, false), (26, false), (27, false), (28, false), (29, false)] (by kernel_rfl) (by kernel_rfl) (fun _ d _ _ _ h => by cases d <;> exact h) ?_
  iterate 3 (refine plan_take (v := ?_) rfl (by kernel_rfl) ?_ ?_; rotate_left; (focus (intro w' hw'; go_simp; try with_reducible rfl)); simp only [Act.put, List.setIfInBounds_toArray, List.set_cons_zero, List.set_cons_succ])
  refine plan_call rfl (by kernel_rfl) (by go_simp; exact ⟨rfl, rfl⟩) ?_
  refine (kind_any _ _).mono ?_
  rintro e w' ⟨rfl, rfl⟩
  rw [show ks (kd 0) = ⟨#[78]⟩ from rfl]
  refine ⟨_, rfl, Ext.refl _, ?_⟩
  simp only [Act.put, List.setIfInBounds_toArray, List.set_cons_zero, List.set_cons_succ]
  iterate 5 (refine plan_take (v := ?_) rfl (by kernel_rfl) ?_ ?_; rotate_left; (focus (intro w' hw'; go_simp; try with_reducible rfl)); simp only [Act.put, List.setIfInBounds_toArray, List.set_cons_zero, List.set_cons_succ])
  refine plan_call rfl (by kernel_rfl) (by go_simp; exact ⟨rfl, rfl⟩) ?_
  refine (size_any _ _).mono ?_
  rintro e w' ⟨rfl, rfl⟩
  rw [show sizeV 0 = 0 from rfl]
  refine ⟨_, rfl, Ext.refl _, ?_⟩
  simp only [Act.put, List.setIfInBounds_toArray, List.set_cons_zero, List.set_cons_succ]
  iterate 7 (refine plan_take (v := ?_) rfl (by kernel_rfl) ?_ ?_; rotate_left; (focus (intro w' hw'; go_simp; try with_reducible rfl)); simp only [Act.put, List.setIfInBounds_toArray, List.set_cons_zero, List.set_cons_succ])
  refine plan_call rfl (by kernel_rfl) (by go_simp; exact ⟨rfl, rfl⟩) ?_
  refine (sign_any _ _).mono ?_
  rintro e w' ⟨rfl, rfl⟩
  rw [show signB 0 = false from rfl]
  refine ⟨_, rfl, Ext.refl _, ?_⟩
  simp only [Act.put, List.setIfInBounds_toArray, List.set_cons_zero, List.set_cons_succ]
  iterate 6 (refine plan_take (v := ?_) rfl (by kernel_rfl) ?_ ?_; rotate_left; (focus (intro w' hw'; go_simp; try with_reducible rfl)); simp only [Act.put, List.setIfInBounds_toArray, List.set_cons_zero, List.set_cons_succ])
  iterate 2 (refine plan_skip rfl (by kernel_rfl) ?_; simp only [Act.put, List.setIfInBounds_toArray, List.set_cons_zero, List.set_cons_succ])
  iterate 4 (refine plan_take (v := ?_) rfl (by kernel_rfl) ?_ ?_; rotate_left; (focus (intro w' hw'; go_simp; try with_reducible rfl)); simp only [Act.put, List.setIfInBounds_toArray, List.set_cons_zero, List.set_cons_succ])
  refine plan_end ?_
  clear r1 r2
  go_wp2
  go_ret
  refine ⟨rfl, ?_⟩
  have b1 := HB1.out
  have b2 := b1.trans (HB2.out.mono b1.size)
  exact (b2.alloc b2.size _).drew
theorem kinds_1 (W : World) : Calls Try.prog 5 #[.int .i64 1] W fun e w' => e = .returned (.bool true) ∧ Below W.heap.size W w' := by
  have hl : (((({ data := #[108, 105] } : ByteArray)[1]'(by decide)).toNat : Nat) : Int) = 105 := rfl
  have t1 : (({ data := #[73] } : ByteArray).toList == [76]) = false := by rw [ByteArray.toList_mk]; rfl
  have t2 : (({ data := #[73] } : ByteArray).toList == [65]) = false := by rw [ByteArray.toList_mk]; rfl
  go_enter Try.func5, Try.ntmps5
  go_wp2_with fail
  refine (first_ok _).mono ?_
  rintro e w1 ⟨rfl, hb1⟩
  have HB1 := Lib.hid hb1
  clear hb1
  go_wp2_with fail
  refine (of_yes 1 _ (by decide)).mono ?_
  rintro e w2 ⟨rfl, hb2⟩
  rw [show nameS 1 = ⟨#[108, 105]⟩ from rfl, show ks (kd ((1 : Nat) : Int)) = ⟨#[73]⟩ from rfl, show sizeV ((1 : Nat) : Int) = 0 from rfl]
  have HB2 := Lib.hid hb2
  clear hb2
  go_wp2_with fail
  have r1 := fun W' (h : Ext (w2.alloc (.cells #[.string ⟨#[108, 105]⟩, .string ⟨#[73]⟩, .int .i64 0] 36)).drew W') => (h.cell (p := ⟨w2.heap.size, 1, none⟩) (by simp)).trans (show _ = some (Value.string ⟨#[73]⟩) from World.cell?_alloc_new _ _ _ _)
  have r2 := fun W' (h : Ext (w2.alloc (.cells #[.string ⟨#[108, 105]⟩, .string ⟨#[73]⟩, .int .i64 0] 36)).drew W') => (h.cell (p := ⟨w2.heap.size, 2, none⟩) (by simp)).trans (show _ = some (Value.int .i64 0) from World.cell?_alloc_new _ _ _ _)
  refine wp_region_plan [(0, false), (2, false), (3, false), (1, true), (4, false), (5, false), (6, false), (8, false), (9, false), (7, true), (10, false), (11, false), (12, false), (13, false), (15, false), (16, false), (17, false), (14, true), (18, false), (19, false), (20, false), (21, false), (22, false), (23, false), (24, false), (25, false), (26, false), (27, false), (28, false), (29, false)] (by kernel_rfl) (by kernel_rfl) (fun _ d _ _ _ h => by cases d <;> exact h) ?_
  iterate 3 (refine plan_take (v := ?_) rfl (by kernel_rfl) ?_ ?_; rotate_left; (focus (intro w' hw'; go_simp; try with_reducible rfl)); simp only [Act.put, List.setIfInBounds_toArray, List.set_cons_zero, List.set_cons_succ])
  refine plan_call rfl (by kernel_rfl) (by go_simp; exact ⟨rfl, rfl⟩) ?_
  refine (kind_any _ _).mono ?_
  rintro e w' ⟨rfl, rfl⟩
  rw [show ks (kd 1) = ⟨#[73]⟩ from rfl]
  refine ⟨_, rfl, Ext.refl _, ?_⟩
  simp only [Act.put, List.setIfInBounds_toArray, List.set_cons_zero, List.set_cons_succ]
  iterate 5 (refine plan_take (v := ?_) rfl (by kernel_rfl) ?_ ?_; rotate_left; (focus (intro w' hw'; go_simp; try with_reducible rfl)); simp only [Act.put, List.setIfInBounds_toArray, List.set_cons_zero, List.set_cons_succ])
  refine plan_call rfl (by kernel_rfl) (by go_simp; exact ⟨rfl, rfl⟩) ?_
  refine (size_any _ _).mono ?_
  rintro e w' ⟨rfl, rfl⟩
  rw [show sizeV 1 = 0 from rfl]
  refine ⟨_, rfl, Ext.refl _, ?_⟩
  simp only [Act.put, List.setIfInBounds_toArray, List.set_cons_zero, List.set_cons_succ]
  iterate 7 (refine plan_take (v := ?_) rfl (by kernel_rfl) ?_ ?_; rotate_left; (focus (intro w' hw'; go_simp; try with_reducible rfl)); simp only [Act.put, List.setIfInBounds_toArray, List.set_cons_zero, List.set_cons_succ])
  refine plan_call rfl (by kernel_rfl) (by go_simp; exact ⟨rfl, rfl⟩) ?_
  refine (sign_any _ _).mono ?_
  rintro e w' ⟨rfl, rfl⟩
  rw [show signB 1 = false from rfl]
  refine ⟨_, rfl, Ext.refl _, ?_⟩
  simp only [Act.put, List.setIfInBounds_toArray, List.set_cons_zero, List.set_cons_succ]
  iterate 6 (refine plan_take (v := ?_) rfl (by kernel_rfl) ?_ ?_; rotate_left; (focus (intro w' hw'; go_simp; try with_reducible rfl)); simp only [Act.put, List.setIfInBounds_toArray, List.set_cons_zero, List.set_cons_succ])
  iterate 2 (refine plan_skip rfl (by kernel_rfl) ?_; simp only [Act.put, List.setIfInBounds_toArray, List.set_cons_zero, List.set_cons_succ])
  iterate 4 (refine plan_take (v := ?_) rfl (by kernel_rfl) ?_ ?_; rotate_left; (focus (intro w' hw'; go_simp; try with_reducible rfl)); simp only [Act.put, List.setIfInBounds_toArray, List.set_cons_zero, List.set_cons_succ])
  refine plan_end ?_
  clear r1 r2
  go_wp2
  go_ret
  refine ⟨rfl, ?_⟩
  have b1 := HB1.out
  have b2 := b1.trans (HB2.out.mono b1.size)
  exact (b2.alloc b2.size _).drew
theorem kinds_2 (W : World) : Calls Try.prog 5 #[.int .i64 2] W fun e w' => e = .returned (.bool true) ∧ Below W.heap.size W w' := by
  have hl : (((({ data := #[97, 100, 100, 105] } : ByteArray)[3]'(by decide)).toNat : Nat) : Int) = 105 := rfl
  have t1 : (({ data := #[82, 73] } : ByteArray).toList == [76]) = false := by rw [ByteArray.toList_mk]; rfl
  have t2 : (({ data := #[82, 73] } : ByteArray).toList == [65]) = false := by rw [ByteArray.toList_mk]; rfl
  go_enter Try.func5, Try.ntmps5
  go_wp2_with fail
  refine (first_ok _).mono ?_
  rintro e w1 ⟨rfl, hb1⟩
  have HB1 := Lib.hid hb1
  clear hb1
  go_wp2_with fail
  refine (of_yes 2 _ (by decide)).mono ?_
  rintro e w2 ⟨rfl, hb2⟩
  rw [show nameS 2 = ⟨#[97, 100, 100, 105]⟩ from rfl, show ks (kd ((2 : Nat) : Int)) = ⟨#[82, 73]⟩ from rfl, show sizeV ((2 : Nat) : Int) = 0 from rfl]
  have HB2 := Lib.hid hb2
  clear hb2
  go_wp2_with fail
  have r1 := fun W' (h : Ext (w2.alloc (.cells #[.string ⟨#[97, 100, 100, 105]⟩, .string ⟨#[82, 73]⟩, .int .i64 0] 36)).drew W') => (h.cell (p := ⟨w2.heap.size, 1, none⟩) (by simp)).trans (show _ = some (Value.string ⟨#[82, 73]⟩) from World.cell?_alloc_new _ _ _ _)
  have r2 := fun W' (h : Ext (w2.alloc (.cells #[.string ⟨#[97, 100, 100, 105]⟩, .string ⟨#[82, 73]⟩, .int .i64 0] 36)).drew W') => (h.cell (p := ⟨w2.heap.size, 2, none⟩) (by simp)).trans (show _ = some (Value.int .i64 0) from World.cell?_alloc_new _ _ _ _)
  refine wp_region_plan [(0, false), (2, false), (3, false), (1, true), (4, false), (5, false), (6, false), (8, false), (9, false), (7, true), (10, false), (11, false), (12, false), (13, false), (15, false), (16, false), (17, false), (14, true), (18, false), (19, false), (20, false), (21, false), (22, false), (23, false), (24, false), (25, false), (26, false), (27, false), (28, false), (29, false)] (by kernel_rfl) (by kernel_rfl) (fun _ d _ _ _ h => by cases d <;> exact h) ?_
  iterate 3 (refine plan_take (v := ?_) rfl (by kernel_rfl) ?_ ?_; rotate_left; (focus (intro w' hw'; go_simp; try with_reducible rfl)); simp only [Act.put, List.setIfInBounds_toArray, List.set_cons_zero, List.set_cons_succ])
  refine plan_call rfl (by kernel_rfl) (by go_simp; exact ⟨rfl, rfl⟩) ?_
  refine (kind_any _ _).mono ?_
  rintro e w' ⟨rfl, rfl⟩
  rw [show ks (kd 2) = ⟨#[82, 73]⟩ from rfl]
  refine ⟨_, rfl, Ext.refl _, ?_⟩
  simp only [Act.put, List.setIfInBounds_toArray, List.set_cons_zero, List.set_cons_succ]
  iterate 5 (refine plan_take (v := ?_) rfl (by kernel_rfl) ?_ ?_; rotate_left; (focus (intro w' hw'; go_simp; try with_reducible rfl)); simp only [Act.put, List.setIfInBounds_toArray, List.set_cons_zero, List.set_cons_succ])
  refine plan_call rfl (by kernel_rfl) (by go_simp; exact ⟨rfl, rfl⟩) ?_
  refine (size_any _ _).mono ?_
  rintro e w' ⟨rfl, rfl⟩
  rw [show sizeV 2 = 0 from rfl]
  refine ⟨_, rfl, Ext.refl _, ?_⟩
  simp only [Act.put, List.setIfInBounds_toArray, List.set_cons_zero, List.set_cons_succ]
  iterate 7 (refine plan_take (v := ?_) rfl (by kernel_rfl) ?_ ?_; rotate_left; (focus (intro w' hw'; go_simp; try with_reducible rfl)); simp only [Act.put, List.setIfInBounds_toArray, List.set_cons_zero, List.set_cons_succ])
  refine plan_call rfl (by kernel_rfl) (by go_simp; exact ⟨rfl, rfl⟩) ?_
  refine (sign_any _ _).mono ?_
  rintro e w' ⟨rfl, rfl⟩
  rw [show signB 2 = false from rfl]
  refine ⟨_, rfl, Ext.refl _, ?_⟩
  simp only [Act.put, List.setIfInBounds_toArray, List.set_cons_zero, List.set_cons_succ]
  iterate 6 (refine plan_take (v := ?_) rfl (by kernel_rfl) ?_ ?_; rotate_left; (focus (intro w' hw'; go_simp; try with_reducible rfl)); simp only [Act.put, List.setIfInBounds_toArray, List.set_cons_zero, List.set_cons_succ])
  iterate 2 (refine plan_skip rfl (by kernel_rfl) ?_; simp only [Act.put, List.setIfInBounds_toArray, List.set_cons_zero, List.set_cons_succ])
  iterate 4 (refine plan_take (v := ?_) rfl (by kernel_rfl) ?_ ?_; rotate_left; (focus (intro w' hw'; go_simp; try with_reducible rfl)); simp only [Act.put, List.setIfInBounds_toArray, List.set_cons_zero, List.set_cons_succ])
  refine plan_end ?_
  clear r1 r2
  go_wp2
  go_ret
  refine ⟨rfl, ?_⟩
  have b1 := HB1.out
  have b2 := b1.trans (HB2.out.mono b1.size)
  exact (b2.alloc b2.size _).drew
theorem kinds_3 (W : World) : Calls Try.prog 5 #[.int .i64 3] W fun e w' => e = .returned (.bool true) ∧ Below W.heap.size W w' := by
  have hl : (((({ data := #[115, 108, 108, 105] } : ByteArray)[3]'(by decide)).toNat : Nat) : Int) = 105 := rfl
  have t1 : (({ data := #[82, 73] } : ByteArray).toList == [76]) = false := by rw [ByteArray.toList_mk]; rfl
  have t2 : (({ data := #[82, 73] } : ByteArray).toList == [65]) = false := by rw [ByteArray.toList_mk]; rfl
  go_enter Try.func5, Try.ntmps5
  go_wp2_with fail
  refine (first_ok _).mono ?_
  rintro e w1 ⟨rfl, hb1⟩
  have HB1 := Lib.hid hb1
  clear hb1
  go_wp2_with fail
  refine (of_yes 3 _ (by decide)).mono ?_
  rintro e w2 ⟨rfl, hb2⟩
  rw [show nameS 3 = ⟨#[115, 108, 108, 105]⟩ from rfl, show ks (kd ((3 : Nat) : Int)) = ⟨#[82, 73]⟩ from rfl, show sizeV ((3 : Nat) : Int) = 0 from rfl]
  have HB2 := Lib.hid hb2
  clear hb2
  go_wp2_with fail
  have r1 := fun W' (h : Ext (w2.alloc (.cells #[.string ⟨#[115, 108, 108, 105]⟩, .string ⟨#[82, 73]⟩, .int .i64 0] 36)).drew W') => (h.cell (p := ⟨w2.heap.size, 1, none⟩) (by simp)).trans (show _ = some (Value.string ⟨#[82, 73]⟩) from World.cell?_alloc_new _ _ _ _)
  have r2 := fun W' (h : Ext (w2.alloc (.cells #[.string ⟨#[115, 108, 108, 105]⟩, .string ⟨#[82, 73]⟩, .int .i64 0] 36)).drew W') => (h.cell (p := ⟨w2.heap.size, 2, none⟩) (by simp)).trans (show _ = some (Value.int .i64 0) from World.cell?_alloc_new _ _ _ _)
  refine wp_region_plan [(0, false), (2, false), (3, false), (1, true), (4, false), (5, false), (6, false), (8, false), (9, false), (7, true), (10, false), (11, false), (12, false), (13, false), (15, false), (16, false), (17, false), (14, true), (18, false), (19, false), (20, false), (21, false), (22, false), (23, false), (24, false), (25, false), (26, false), (27, false), (28, false), (29, false)] (by kernel_rfl) (by kernel_rfl) (fun _ d _ _ _ h => by cases d <;> exact h) ?_
  iterate 3 (refine plan_take (v := ?_) rfl (by kernel_rfl) ?_ ?_; rotate_left; (focus (intro w' hw'; go_simp; try with_reducible rfl)); simp only [Act.put, List.setIfInBounds_toArray, List.set_cons_zero, List.set_cons_succ])
  refine plan_call rfl (by kernel_rfl) (by go_simp; exact ⟨rfl, rfl⟩) ?_
  refine (kind_any _ _).mono ?_
  rintro e w' ⟨rfl, rfl⟩
  rw [show ks (kd 3) = ⟨#[82, 73]⟩ from rfl]
  refine ⟨_, rfl, Ext.refl _, ?_⟩
  simp only [Act.put, List.setIfInBounds_toArray, List.set_cons_zero, List.set_cons_succ]
  iterate 5 (refine plan_take (v := ?_) rfl (by kernel_rfl) ?_ ?_; rotate_left; (focus (intro w' hw'; go_simp; try with_reducible rfl)); simp only [Act.put, List.setIfInBounds_toArray, List.set_cons_zero, List.set_cons_succ])
  refine plan_call rfl (by kernel_rfl) (by go_simp; exact ⟨rfl, rfl⟩) ?_
  refine (size_any _ _).mono ?_
  rintro e w' ⟨rfl, rfl⟩
  rw [show sizeV 3 = 0 from rfl]
  refine ⟨_, rfl, Ext.refl _, ?_⟩
  simp only [Act.put, List.setIfInBounds_toArray, List.set_cons_zero, List.set_cons_succ]
  iterate 7 (refine plan_take (v := ?_) rfl (by kernel_rfl) ?_ ?_; rotate_left; (focus (intro w' hw'; go_simp; try with_reducible rfl)); simp only [Act.put, List.setIfInBounds_toArray, List.set_cons_zero, List.set_cons_succ])
  refine plan_call rfl (by kernel_rfl) (by go_simp; exact ⟨rfl, rfl⟩) ?_
  refine (sign_any _ _).mono ?_
  rintro e w' ⟨rfl, rfl⟩
  rw [show signB 3 = false from rfl]
  refine ⟨_, rfl, Ext.refl _, ?_⟩
  simp only [Act.put, List.setIfInBounds_toArray, List.set_cons_zero, List.set_cons_succ]
  iterate 6 (refine plan_take (v := ?_) rfl (by kernel_rfl) ?_ ?_; rotate_left; (focus (intro w' hw'; go_simp; try with_reducible rfl)); simp only [Act.put, List.setIfInBounds_toArray, List.set_cons_zero, List.set_cons_succ])
  iterate 2 (refine plan_skip rfl (by kernel_rfl) ?_; simp only [Act.put, List.setIfInBounds_toArray, List.set_cons_zero, List.set_cons_succ])
  iterate 4 (refine plan_take (v := ?_) rfl (by kernel_rfl) ?_ ?_; rotate_left; (focus (intro w' hw'; go_simp; try with_reducible rfl)); simp only [Act.put, List.setIfInBounds_toArray, List.set_cons_zero, List.set_cons_succ])
  refine plan_end ?_
  clear r1 r2
  go_wp2
  go_ret
  refine ⟨rfl, ?_⟩
  have b1 := HB1.out
  have b2 := b1.trans (HB2.out.mono b1.size)
  exact (b2.alloc b2.size _).drew
theorem kinds_4 (W : World) : Calls Try.prog 5 #[.int .i64 4] W fun e w' => e = .returned (.bool true) ∧ Below W.heap.size W w' := by
  have hl : (((({ data := #[97, 100, 100] } : ByteArray)[2]'(by decide)).toNat : Nat) : Int) = 100 := rfl
  have t1 : (({ data := #[82] } : ByteArray).toList == [76]) = false := by rw [ByteArray.toList_mk]; rfl
  have t2 : (({ data := #[82] } : ByteArray).toList == [65]) = false := by rw [ByteArray.toList_mk]; rfl
  go_enter Try.func5, Try.ntmps5
  go_wp2_with fail
  refine (first_ok _).mono ?_
  rintro e w1 ⟨rfl, hb1⟩
  have HB1 := Lib.hid hb1
  clear hb1
  go_wp2_with fail
  refine (of_yes 4 _ (by decide)).mono ?_
  rintro e w2 ⟨rfl, hb2⟩
  rw [show nameS 4 = ⟨#[97, 100, 100]⟩ from rfl, show ks (kd ((4 : Nat) : Int)) = ⟨#[82]⟩ from rfl, show sizeV ((4 : Nat) : Int) = 0 from rfl]
  have HB2 := Lib.hid hb2
  clear hb2
  go_wp2_with fail
  have r1 := fun W' (h : Ext (w2.alloc (.cells #[.string ⟨#[97, 100, 100]⟩, .string ⟨#[82]⟩, .int .i64 0] 36)).drew W') => (h.cell (p := ⟨w2.heap.size, 1, none⟩) (by simp)).trans (show _ = some (Value.string ⟨#[82]⟩) from World.cell?_alloc_new _ _ _ _)
  have r2 := fun W' (h : Ext (w2.alloc (.cells #[.string ⟨#[97, 100, 100]⟩, .string ⟨#[82]⟩, .int .i64 0] 36)).drew W') => (h.cell (p := ⟨w2.heap.size, 2, none⟩) (by simp)).trans (show _ = some (Value.int .i64 0) from World.cell?_alloc_new _ _ _ _)
  refine wp_region_plan [(0, false), (2, false), (3, false), (1, true), (4, false), (5, false), (6, false), (8, false), (9, false), (7, true), (10, false), (11, false), (12, false), (13, false), (15, false), (16, false), (17, false), (14, true), (18, false), (19, false), (20, false), (21, false), (22, false), (23, false), (24, false), (25, false), (26, false), (27, false), (28, false), (29, false)] (by kernel_rfl) (by kernel_rfl) (fun _ d _ _ _ h => by cases d <;> exact h) ?_
  iterate 3 (refine plan_take (v := ?_) rfl (by kernel_rfl) ?_ ?_; rotate_left; (focus (intro w' hw'; go_simp; try with_reducible rfl)); simp only [Act.put, List.setIfInBounds_toArray, List.set_cons_zero, List.set_cons_succ])
  refine plan_call rfl (by kernel_rfl) (by go_simp; exact ⟨rfl, rfl⟩) ?_
  refine (kind_any _ _).mono ?_
  rintro e w' ⟨rfl, rfl⟩
  rw [show ks (kd 4) = ⟨#[82]⟩ from rfl]
  refine ⟨_, rfl, Ext.refl _, ?_⟩
  simp only [Act.put, List.setIfInBounds_toArray, List.set_cons_zero, List.set_cons_succ]
  iterate 5 (refine plan_take (v := ?_) rfl (by kernel_rfl) ?_ ?_; rotate_left; (focus (intro w' hw'; go_simp; try with_reducible rfl)); simp only [Act.put, List.setIfInBounds_toArray, List.set_cons_zero, List.set_cons_succ])
  refine plan_call rfl (by kernel_rfl) (by go_simp; exact ⟨rfl, rfl⟩) ?_
  refine (size_any _ _).mono ?_
  rintro e w' ⟨rfl, rfl⟩
  rw [show sizeV 4 = 0 from rfl]
  refine ⟨_, rfl, Ext.refl _, ?_⟩
  simp only [Act.put, List.setIfInBounds_toArray, List.set_cons_zero, List.set_cons_succ]
  iterate 7 (refine plan_take (v := ?_) rfl (by kernel_rfl) ?_ ?_; rotate_left; (focus (intro w' hw'; go_simp; try with_reducible rfl)); simp only [Act.put, List.setIfInBounds_toArray, List.set_cons_zero, List.set_cons_succ])
  refine plan_call rfl (by kernel_rfl) (by go_simp; exact ⟨rfl, rfl⟩) ?_
  refine (sign_any _ _).mono ?_
  rintro e w' ⟨rfl, rfl⟩
  rw [show signB 4 = false from rfl]
  refine ⟨_, rfl, Ext.refl _, ?_⟩
  simp only [Act.put, List.setIfInBounds_toArray, List.set_cons_zero, List.set_cons_succ]
  iterate 6 (refine plan_take (v := ?_) rfl (by kernel_rfl) ?_ ?_; rotate_left; (focus (intro w' hw'; go_simp; try with_reducible rfl)); simp only [Act.put, List.setIfInBounds_toArray, List.set_cons_zero, List.set_cons_succ])
  iterate 2 (refine plan_skip rfl (by kernel_rfl) ?_; simp only [Act.put, List.setIfInBounds_toArray, List.set_cons_zero, List.set_cons_succ])
  iterate 4 (refine plan_take (v := ?_) rfl (by kernel_rfl) ?_ ?_; rotate_left; (focus (intro w' hw'; go_simp; try with_reducible rfl)); simp only [Act.put, List.setIfInBounds_toArray, List.set_cons_zero, List.set_cons_succ])
  refine plan_end ?_
  clear r1 r2
  go_wp2
  go_ret
  refine ⟨rfl, ?_⟩
  have b1 := HB1.out
  have b2 := b1.trans (HB2.out.mono b1.size)
  exact (b2.alloc b2.size _).drew
theorem kinds_5 (W : World) : Calls Try.prog 5 #[.int .i64 5] W fun e w' => e = .returned (.bool true) ∧ Below W.heap.size W w' := by
  have hl : (((({ data := #[115, 117, 98] } : ByteArray)[2]'(by decide)).toNat : Nat) : Int) = 98 := rfl
  have t1 : (({ data := #[82] } : ByteArray).toList == [76]) = false := by rw [ByteArray.toList_mk]; rfl
  have t2 : (({ data := #[82] } : ByteArray).toList == [65]) = false := by rw [ByteArray.toList_mk]; rfl
  go_enter Try.func5, Try.ntmps5
  go_wp2_with fail
  refine (first_ok _).mono ?_
  rintro e w1 ⟨rfl, hb1⟩
  have HB1 := Lib.hid hb1
  clear hb1
  go_wp2_with fail
  refine (of_yes 5 _ (by decide)).mono ?_
  rintro e w2 ⟨rfl, hb2⟩
  rw [show nameS 5 = ⟨#[115, 117, 98]⟩ from rfl, show ks (kd ((5 : Nat) : Int)) = ⟨#[82]⟩ from rfl, show sizeV ((5 : Nat) : Int) = 0 from rfl]
  have HB2 := Lib.hid hb2
  clear hb2
  go_wp2_with fail
  have r1 := fun W' (h : Ext (w2.alloc (.cells #[.string ⟨#[115, 117, 98]⟩, .string ⟨#[82]⟩, .int .i64 0] 36)).drew W') => (h.cell (p := ⟨w2.heap.size, 1, none⟩) (by simp)).trans (show _ = some (Value.string ⟨#[82]⟩) from World.cell?_alloc_new _ _ _ _)
  have r2 := fun W' (h : Ext (w2.alloc (.cells #[.string ⟨#[115, 117, 98]⟩, .string ⟨#[82]⟩, .int .i64 0] 36)).drew W') => (h.cell (p := ⟨w2.heap.size, 2, none⟩) (by simp)).trans (show _ = some (Value.int .i64 0) from World.cell?_alloc_new _ _ _ _)
  refine wp_region_plan [(0, false), (2, false), (3, false), (1, true), (4, false), (5, false), (6, false), (8, false), (9, false), (7, true), (10, false), (11, false), (12, false), (13, false), (15, false), (16, false), (17, false), (14, true), (18, false), (19, false), (20, false), (21, false), (22, false), (23, false), (24, false), (25, false), (26, false), (27, false), (28, false), (29, false)] (by kernel_rfl) (by kernel_rfl) (fun _ d _ _ _ h => by cases d <;> exact h) ?_
  iterate 3 (refine plan_take (v := ?_) rfl (by kernel_rfl) ?_ ?_; rotate_left; (focus (intro w' hw'; go_simp; try with_reducible rfl)); simp only [Act.put, List.setIfInBounds_toArray, List.set_cons_zero, List.set_cons_succ])
  refine plan_call rfl (by kernel_rfl) (by go_simp; exact ⟨rfl, rfl⟩) ?_
  refine (kind_any _ _).mono ?_
  rintro e w' ⟨rfl, rfl⟩
  rw [show ks (kd 5) = ⟨#[82]⟩ from rfl]
  refine ⟨_, rfl, Ext.refl _, ?_⟩
  simp only [Act.put, List.setIfInBounds_toArray, List.set_cons_zero, List.set_cons_succ]
  iterate 5 (refine plan_take (v := ?_) rfl (by kernel_rfl) ?_ ?_; rotate_left; (focus (intro w' hw'; go_simp; try with_reducible rfl)); simp only [Act.put, List.setIfInBounds_toArray, List.set_cons_zero, List.set_cons_succ])
  refine plan_call rfl (by kernel_rfl) (by go_simp; exact ⟨rfl, rfl⟩) ?_
  refine (size_any _ _).mono ?_
  rintro e w' ⟨rfl, rfl⟩
  rw [show sizeV 5 = 0 from rfl]
  refine ⟨_, rfl, Ext.refl _, ?_⟩
  simp only [Act.put, List.setIfInBounds_toArray, List.set_cons_zero, List.set_cons_succ]
  iterate 7 (refine plan_take (v := ?_) rfl (by kernel_rfl) ?_ ?_; rotate_left; (focus (intro w' hw'; go_simp; try with_reducible rfl)); simp only [Act.put, List.setIfInBounds_toArray, List.set_cons_zero, List.set_cons_succ])
  refine plan_call rfl (by kernel_rfl) (by go_simp; exact ⟨rfl, rfl⟩) ?_
  refine (sign_any _ _).mono ?_
  rintro e w' ⟨rfl, rfl⟩
  rw [show signB 5 = false from rfl]
  refine ⟨_, rfl, Ext.refl _, ?_⟩
  simp only [Act.put, List.setIfInBounds_toArray, List.set_cons_zero, List.set_cons_succ]
  iterate 6 (refine plan_take (v := ?_) rfl (by kernel_rfl) ?_ ?_; rotate_left; (focus (intro w' hw'; go_simp; try with_reducible rfl)); simp only [Act.put, List.setIfInBounds_toArray, List.set_cons_zero, List.set_cons_succ])
  iterate 2 (refine plan_skip rfl (by kernel_rfl) ?_; simp only [Act.put, List.setIfInBounds_toArray, List.set_cons_zero, List.set_cons_succ])
  iterate 4 (refine plan_take (v := ?_) rfl (by kernel_rfl) ?_ ?_; rotate_left; (focus (intro w' hw'; go_simp; try with_reducible rfl)); simp only [Act.put, List.setIfInBounds_toArray, List.set_cons_zero, List.set_cons_succ])
  refine plan_end ?_
  clear r1 r2
  go_wp2
  go_ret
  refine ⟨rfl, ?_⟩
  have b1 := HB1.out
  have b2 := b1.trans (HB2.out.mono b1.size)
  exact (b2.alloc b2.size _).drew
theorem kinds_6 (W : World) : Calls Try.prog 5 #[.int .i64 6] W fun e w' => e = .returned (.bool true) ∧ Below W.heap.size W w' := by
  have hl : (((({ data := #[97, 110, 100] } : ByteArray)[2]'(by decide)).toNat : Nat) : Int) = 100 := rfl
  have t1 : (({ data := #[82] } : ByteArray).toList == [76]) = false := by rw [ByteArray.toList_mk]; rfl
  have t2 : (({ data := #[82] } : ByteArray).toList == [65]) = false := by rw [ByteArray.toList_mk]; rfl
  go_enter Try.func5, Try.ntmps5
  go_wp2_with fail
  refine (first_ok _).mono ?_
  rintro e w1 ⟨rfl, hb1⟩
  have HB1 := Lib.hid hb1
  clear hb1
  go_wp2_with fail
  refine (of_yes 6 _ (by decide)).mono ?_
  rintro e w2 ⟨rfl, hb2⟩
  rw [show nameS 6 = ⟨#[97, 110, 100]⟩ from rfl, show ks (kd ((6 : Nat) : Int)) = ⟨#[82]⟩ from rfl, show sizeV ((6 : Nat) : Int) = 0 from rfl]
  have HB2 := Lib.hid hb2
  clear hb2
  go_wp2_with fail
  have r1 := fun W' (h : Ext (w2.alloc (.cells #[.string ⟨#[97, 110, 100]⟩, .string ⟨#[82]⟩, .int .i64 0] 36)).drew W') => (h.cell (p := ⟨w2.heap.size, 1, none⟩) (by simp)).trans (show _ = some (Value.string ⟨#[82]⟩) from World.cell?_alloc_new _ _ _ _)
  have r2 := fun W' (h : Ext (w2.alloc (.cells #[.string ⟨#[97, 110, 100]⟩, .string ⟨#[82]⟩, .int .i64 0] 36)).drew W') => (h.cell (p := ⟨w2.heap.size, 2, none⟩) (by simp)).trans (show _ = some (Value.int .i64 0) from World.cell?_alloc_new _ _ _ _)
  refine wp_region_plan [(0, false), (2, false), (3, false), (1, true), (4, false), (5, false), (6, false), (8, false), (9, false), (7, true), (10, false), (11, false), (12, false), (13, false), (15, false), (16, false), (17, false), (14, true), (18, false), (19, false), (20, false), (21, false), (22, false), (23, false), (24, false), (25, false), (26, false), (27, false), (28, false), (29, false)] (by kernel_rfl) (by kernel_rfl) (fun _ d _ _ _ h => by cases d <;> exact h) ?_
  iterate 3 (refine plan_take (v := ?_) rfl (by kernel_rfl) ?_ ?_; rotate_left; (focus (intro w' hw'; go_simp; try with_reducible rfl)); simp only [Act.put, List.setIfInBounds_toArray, List.set_cons_zero, List.set_cons_succ])
  refine plan_call rfl (by kernel_rfl) (by go_simp; exact ⟨rfl, rfl⟩) ?_
  refine (kind_any _ _).mono ?_
  rintro e w' ⟨rfl, rfl⟩
  rw [show ks (kd 6) = ⟨#[82]⟩ from rfl]
  refine ⟨_, rfl, Ext.refl _, ?_⟩
  simp only [Act.put, List.setIfInBounds_toArray, List.set_cons_zero, List.set_cons_succ]
  iterate 5 (refine plan_take (v := ?_) rfl (by kernel_rfl) ?_ ?_; rotate_left; (focus (intro w' hw'; go_simp; try with_reducible rfl)); simp only [Act.put, List.setIfInBounds_toArray, List.set_cons_zero, List.set_cons_succ])
  refine plan_call rfl (by kernel_rfl) (by go_simp; exact ⟨rfl, rfl⟩) ?_
  refine (size_any _ _).mono ?_
  rintro e w' ⟨rfl, rfl⟩
  rw [show sizeV 6 = 0 from rfl]
  refine ⟨_, rfl, Ext.refl _, ?_⟩
  simp only [Act.put, List.setIfInBounds_toArray, List.set_cons_zero, List.set_cons_succ]
  iterate 7 (refine plan_take (v := ?_) rfl (by kernel_rfl) ?_ ?_; rotate_left; (focus (intro w' hw'; go_simp; try with_reducible rfl)); simp only [Act.put, List.setIfInBounds_toArray, List.set_cons_zero, List.set_cons_succ])
  refine plan_call rfl (by kernel_rfl) (by go_simp; exact ⟨rfl, rfl⟩) ?_
  refine (sign_any _ _).mono ?_
  rintro e w' ⟨rfl, rfl⟩
  rw [show signB 6 = false from rfl]
  refine ⟨_, rfl, Ext.refl _, ?_⟩
  simp only [Act.put, List.setIfInBounds_toArray, List.set_cons_zero, List.set_cons_succ]
  iterate 6 (refine plan_take (v := ?_) rfl (by kernel_rfl) ?_ ?_; rotate_left; (focus (intro w' hw'; go_simp; try with_reducible rfl)); simp only [Act.put, List.setIfInBounds_toArray, List.set_cons_zero, List.set_cons_succ])
  iterate 2 (refine plan_skip rfl (by kernel_rfl) ?_; simp only [Act.put, List.setIfInBounds_toArray, List.set_cons_zero, List.set_cons_succ])
  iterate 4 (refine plan_take (v := ?_) rfl (by kernel_rfl) ?_ ?_; rotate_left; (focus (intro w' hw'; go_simp; try with_reducible rfl)); simp only [Act.put, List.setIfInBounds_toArray, List.set_cons_zero, List.set_cons_succ])
  refine plan_end ?_
  clear r1 r2
  go_wp2
  go_ret
  refine ⟨rfl, ?_⟩
  have b1 := HB1.out
  have b2 := b1.trans (HB2.out.mono b1.size)
  exact (b2.alloc b2.size _).drew
theorem kinds_7 (W : World) : Calls Try.prog 5 #[.int .i64 7] W fun e w' => e = .returned (.bool true) ∧ Below W.heap.size W w' := by
  have hl : (((({ data := #[111, 114] } : ByteArray)[1]'(by decide)).toNat : Nat) : Int) = 114 := rfl
  have t1 : (({ data := #[82] } : ByteArray).toList == [76]) = false := by rw [ByteArray.toList_mk]; rfl
  have t2 : (({ data := #[82] } : ByteArray).toList == [65]) = false := by rw [ByteArray.toList_mk]; rfl
  go_enter Try.func5, Try.ntmps5
  go_wp2_with fail
  refine (first_ok _).mono ?_
  rintro e w1 ⟨rfl, hb1⟩
  have HB1 := Lib.hid hb1
  clear hb1
  go_wp2_with fail
  refine (of_yes 7 _ (by decide)).mono ?_
  rintro e w2 ⟨rfl, hb2⟩
  rw [show nameS 7 = ⟨#[111, 114]⟩ from rfl, show ks (kd ((7 : Nat) : Int)) = ⟨#[82]⟩ from rfl, show sizeV ((7 : Nat) : Int) = 0 from rfl]
  have HB2 := Lib.hid hb2
  clear hb2
  go_wp2_with fail
  have r1 := fun W' (h : Ext (w2.alloc (.cells #[.string ⟨#[111, 114]⟩, .string ⟨#[82]⟩, .int .i64 0] 36)).drew W') => (h.cell (p := ⟨w2.heap.size, 1, none⟩) (by simp)).trans (show _ = some (Value.string ⟨#[82]⟩) from World.cell?_alloc_new _ _ _ _)
  have r2 := fun W' (h : Ext (w2.alloc (.cells #[.string ⟨#[111, 114]⟩, .string ⟨#[82]⟩, .int .i64 0] 36)).drew W') => (h.cell (p := ⟨w2.heap.size, 2, none⟩) (by simp)).trans (show _ = some (Value.int .i64 0) from World.cell?_alloc_new _ _ _ _)
  refine wp_region_plan [(0, false), (2, false), (3, false), (1, true), (4, false), (5, false), (6, false), (8, false), (9, false), (7, true), (10, false), (11, false), (12, false), (13, false), (15, false), (16, false), (17, false), (14, true), (18, false), (19, false), (20, false), (21, false), (22, false), (23, false), (24, false), (25, false), (26, false), (27, false), (28, false), (29, false)] (by kernel_rfl) (by kernel_rfl) (fun _ d _ _ _ h => by cases d <;> exact h) ?_
  iterate 3 (refine plan_take (v := ?_) rfl (by kernel_rfl) ?_ ?_; rotate_left; (focus (intro w' hw'; go_simp; try with_reducible rfl)); simp only [Act.put, List.setIfInBounds_toArray, List.set_cons_zero, List.set_cons_succ])
  refine plan_call rfl (by kernel_rfl) (by go_simp; exact ⟨rfl, rfl⟩) ?_
  refine (kind_any _ _).mono ?_
  rintro e w' ⟨rfl, rfl⟩
  rw [show ks (kd 7) = ⟨#[82]⟩ from rfl]
  refine ⟨_, rfl, Ext.refl _, ?_⟩
  simp only [Act.put, List.setIfInBounds_toArray, List.set_cons_zero, List.set_cons_succ]
  iterate 5 (refine plan_take (v := ?_) rfl (by kernel_rfl) ?_ ?_; rotate_left; (focus (intro w' hw'; go_simp; try with_reducible rfl)); simp only [Act.put, List.setIfInBounds_toArray, List.set_cons_zero, List.set_cons_succ])
  refine plan_call rfl (by kernel_rfl) (by go_simp; exact ⟨rfl, rfl⟩) ?_
  refine (size_any _ _).mono ?_
  rintro e w' ⟨rfl, rfl⟩
  rw [show sizeV 7 = 0 from rfl]
  refine ⟨_, rfl, Ext.refl _, ?_⟩
  simp only [Act.put, List.setIfInBounds_toArray, List.set_cons_zero, List.set_cons_succ]
  iterate 7 (refine plan_take (v := ?_) rfl (by kernel_rfl) ?_ ?_; rotate_left; (focus (intro w' hw'; go_simp; try with_reducible rfl)); simp only [Act.put, List.setIfInBounds_toArray, List.set_cons_zero, List.set_cons_succ])
  refine plan_call rfl (by kernel_rfl) (by go_simp; exact ⟨rfl, rfl⟩) ?_
  refine (sign_any _ _).mono ?_
  rintro e w' ⟨rfl, rfl⟩
  rw [show signB 7 = false from rfl]
  refine ⟨_, rfl, Ext.refl _, ?_⟩
  simp only [Act.put, List.setIfInBounds_toArray, List.set_cons_zero, List.set_cons_succ]
  iterate 6 (refine plan_take (v := ?_) rfl (by kernel_rfl) ?_ ?_; rotate_left; (focus (intro w' hw'; go_simp; try with_reducible rfl)); simp only [Act.put, List.setIfInBounds_toArray, List.set_cons_zero, List.set_cons_succ])
  iterate 2 (refine plan_skip rfl (by kernel_rfl) ?_; simp only [Act.put, List.setIfInBounds_toArray, List.set_cons_zero, List.set_cons_succ])
  iterate 4 (refine plan_take (v := ?_) rfl (by kernel_rfl) ?_ ?_; rotate_left; (focus (intro w' hw'; go_simp; try with_reducible rfl)); simp only [Act.put, List.setIfInBounds_toArray, List.set_cons_zero, List.set_cons_succ])
  refine plan_end ?_
  clear r1 r2
  go_wp2
  go_ret
  refine ⟨rfl, ?_⟩
  have b1 := HB1.out
  have b2 := b1.trans (HB2.out.mono b1.size)
  exact (b2.alloc b2.size _).drew
theorem kinds_8 (W : World) : Calls Try.prog 5 #[.int .i64 8] W fun e w' => e = .returned (.bool true) ∧ Below W.heap.size W w' := by
  have hl : (((({ data := #[120, 111, 114] } : ByteArray)[2]'(by decide)).toNat : Nat) : Int) = 114 := rfl
  have t1 : (({ data := #[82] } : ByteArray).toList == [76]) = false := by rw [ByteArray.toList_mk]; rfl
  have t2 : (({ data := #[82] } : ByteArray).toList == [65]) = false := by rw [ByteArray.toList_mk]; rfl
  go_enter Try.func5, Try.ntmps5
  go_wp2_with fail
  refine (first_ok _).mono ?_
  rintro e w1 ⟨rfl, hb1⟩
  have HB1 := Lib.hid hb1
  clear hb1
  go_wp2_with fail
  refine (of_yes 8 _ (by decide)).mono ?_
  rintro e w2 ⟨rfl, hb2⟩
  rw [show nameS 8 = ⟨#[120, 111, 114]⟩ from rfl, show ks (kd ((8 : Nat) : Int)) = ⟨#[82]⟩ from rfl, show sizeV ((8 : Nat) : Int) = 0 from rfl]
  have HB2 := Lib.hid hb2
  clear hb2
  go_wp2_with fail
  have r1 := fun W' (h : Ext (w2.alloc (.cells #[.string ⟨#[120, 111, 114]⟩, .string ⟨#[82]⟩, .int .i64 0] 36)).drew W') => (h.cell (p := ⟨w2.heap.size, 1, none⟩) (by simp)).trans (show _ = some (Value.string ⟨#[82]⟩) from World.cell?_alloc_new _ _ _ _)
  have r2 := fun W' (h : Ext (w2.alloc (.cells #[.string ⟨#[120, 111, 114]⟩, .string ⟨#[82]⟩, .int .i64 0] 36)).drew W') => (h.cell (p := ⟨w2.heap.size, 2, none⟩) (by simp)).trans (show _ = some (Value.int .i64 0) from World.cell?_alloc_new _ _ _ _)
  refine wp_region_plan [(0, false), (2, false), (3, false), (1, true), (4, false), (5, false), (6, false), (8, false), (9, false), (7, true), (10, false), (11, false), (12, false), (13, false), (15, false), (16, false), (17, false), (14, true), (18, false), (19, false), (20, false), (21, false), (22, false), (23, false), (24, false), (25, false), (26, false), (27, false), (28, false), (29, false)] (by kernel_rfl) (by kernel_rfl) (fun _ d _ _ _ h => by cases d <;> exact h) ?_
  iterate 3 (refine plan_take (v := ?_) rfl (by kernel_rfl) ?_ ?_; rotate_left; (focus (intro w' hw'; go_simp; try with_reducible rfl)); simp only [Act.put, List.setIfInBounds_toArray, List.set_cons_zero, List.set_cons_succ])
  refine plan_call rfl (by kernel_rfl) (by go_simp; exact ⟨rfl, rfl⟩) ?_
  refine (kind_any _ _).mono ?_
  rintro e w' ⟨rfl, rfl⟩
  rw [show ks (kd 8) = ⟨#[82]⟩ from rfl]
  refine ⟨_, rfl, Ext.refl _, ?_⟩
  simp only [Act.put, List.setIfInBounds_toArray, List.set_cons_zero, List.set_cons_succ]
  iterate 5 (refine plan_take (v := ?_) rfl (by kernel_rfl) ?_ ?_; rotate_left; (focus (intro w' hw'; go_simp; try with_reducible rfl)); simp only [Act.put, List.setIfInBounds_toArray, List.set_cons_zero, List.set_cons_succ])
  refine plan_call rfl (by kernel_rfl) (by go_simp; exact ⟨rfl, rfl⟩) ?_
  refine (size_any _ _).mono ?_
  rintro e w' ⟨rfl, rfl⟩
  rw [show sizeV 8 = 0 from rfl]
  refine ⟨_, rfl, Ext.refl _, ?_⟩
  simp only [Act.put, List.setIfInBounds_toArray, List.set_cons_zero, List.set_cons_succ]
  iterate 7 (refine plan_take (v := ?_) rfl (by kernel_rfl) ?_ ?_; rotate_left; (focus (intro w' hw'; go_simp; try with_reducible rfl)); simp only [Act.put, List.setIfInBounds_toArray, List.set_cons_zero, List.set_cons_succ])
  refine plan_call rfl (by kernel_rfl) (by go_simp; exact ⟨rfl, rfl⟩) ?_
  refine (sign_any _ _).mono ?_
  rintro e w' ⟨rfl, rfl⟩
  rw [show signB 8 = false from rfl]
  refine ⟨_, rfl, Ext.refl _, ?_⟩
  simp only [Act.put, List.setIfInBounds_toArray, List.set_cons_zero, List.set_cons_succ]
  iterate 6 (refine plan_take (v := ?_) rfl (by kernel_rfl) ?_ ?_; rotate_left; (focus (intro w' hw'; go_simp; try with_reducible rfl)); simp only [Act.put, List.setIfInBounds_toArray, List.set_cons_zero, List.set_cons_succ])
  iterate 2 (refine plan_skip rfl (by kernel_rfl) ?_; simp only [Act.put, List.setIfInBounds_toArray, List.set_cons_zero, List.set_cons_succ])
  iterate 4 (refine plan_take (v := ?_) rfl (by kernel_rfl) ?_ ?_; rotate_left; (focus (intro w' hw'; go_simp; try with_reducible rfl)); simp only [Act.put, List.setIfInBounds_toArray, List.set_cons_zero, List.set_cons_succ])
  refine plan_end ?_
  clear r1 r2
  go_wp2
  go_ret
  refine ⟨rfl, ?_⟩
  have b1 := HB1.out
  have b2 := b1.trans (HB2.out.mono b1.size)
  exact (b2.alloc b2.size _).drew
theorem kinds_9 (W : World) : Calls Try.prog 5 #[.int .i64 9] W fun e w' => e = .returned (.bool true) ∧ Below W.heap.size W w' := by
  have hl : (((({ data := #[115, 108, 116] } : ByteArray)[2]'(by decide)).toNat : Nat) : Int) = 116 := rfl
  have t1 : (({ data := #[82] } : ByteArray).toList == [76]) = false := by rw [ByteArray.toList_mk]; rfl
  have t2 : (({ data := #[82] } : ByteArray).toList == [65]) = false := by rw [ByteArray.toList_mk]; rfl
  go_enter Try.func5, Try.ntmps5
  go_wp2_with fail
  refine (first_ok _).mono ?_
  rintro e w1 ⟨rfl, hb1⟩
  have HB1 := Lib.hid hb1
  clear hb1
  go_wp2_with fail
  refine (of_yes 9 _ (by decide)).mono ?_
  rintro e w2 ⟨rfl, hb2⟩
  rw [show nameS 9 = ⟨#[115, 108, 116]⟩ from rfl, show ks (kd ((9 : Nat) : Int)) = ⟨#[82]⟩ from rfl, show sizeV ((9 : Nat) : Int) = 0 from rfl]
  have HB2 := Lib.hid hb2
  clear hb2
  go_wp2_with fail
  have r1 := fun W' (h : Ext (w2.alloc (.cells #[.string ⟨#[115, 108, 116]⟩, .string ⟨#[82]⟩, .int .i64 0] 36)).drew W') => (h.cell (p := ⟨w2.heap.size, 1, none⟩) (by simp)).trans (show _ = some (Value.string ⟨#[82]⟩) from World.cell?_alloc_new _ _ _ _)
  have r2 := fun W' (h : Ext (w2.alloc (.cells #[.string ⟨#[115, 108, 116]⟩, .string ⟨#[82]⟩, .int .i64 0] 36)).drew W') => (h.cell (p := ⟨w2.heap.size, 2, none⟩) (by simp)).trans (show _ = some (Value.int .i64 0) from World.cell?_alloc_new _ _ _ _)
  refine wp_region_plan [(0, false), (2, false), (3, false), (1, true), (4, false), (5, false), (6, false), (8, false), (9, false), (7, true), (10, false), (11, false), (12, false), (13, false), (15, false), (16, false), (17, false), (14, true), (18, false), (19, false), (20, false), (21, false), (22, false), (23, false), (24, false), (25, false), (26, false), (27, false), (28, false), (29, false)] (by kernel_rfl) (by kernel_rfl) (fun _ d _ _ _ h => by cases d <;> exact h) ?_
  iterate 3 (refine plan_take (v := ?_) rfl (by kernel_rfl) ?_ ?_; rotate_left; (focus (intro w' hw'; go_simp; try with_reducible rfl)); simp only [Act.put, List.setIfInBounds_toArray, List.set_cons_zero, List.set_cons_succ])
  refine plan_call rfl (by kernel_rfl) (by go_simp; exact ⟨rfl, rfl⟩) ?_
  refine (kind_any _ _).mono ?_
  rintro e w' ⟨rfl, rfl⟩
  rw [show ks (kd 9) = ⟨#[82]⟩ from rfl]
  refine ⟨_, rfl, Ext.refl _, ?_⟩
  simp only [Act.put, List.setIfInBounds_toArray, List.set_cons_zero, List.set_cons_succ]
  iterate 5 (refine plan_take (v := ?_) rfl (by kernel_rfl) ?_ ?_; rotate_left; (focus (intro w' hw'; go_simp; try with_reducible rfl)); simp only [Act.put, List.setIfInBounds_toArray, List.set_cons_zero, List.set_cons_succ])
  refine plan_call rfl (by kernel_rfl) (by go_simp; exact ⟨rfl, rfl⟩) ?_
  refine (size_any _ _).mono ?_
  rintro e w' ⟨rfl, rfl⟩
  rw [show sizeV 9 = 0 from rfl]
  refine ⟨_, rfl, Ext.refl _, ?_⟩
  simp only [Act.put, List.setIfInBounds_toArray, List.set_cons_zero, List.set_cons_succ]
  iterate 7 (refine plan_take (v := ?_) rfl (by kernel_rfl) ?_ ?_; rotate_left; (focus (intro w' hw'; go_simp; try with_reducible rfl)); simp only [Act.put, List.setIfInBounds_toArray, List.set_cons_zero, List.set_cons_succ])
  refine plan_call rfl (by kernel_rfl) (by go_simp; exact ⟨rfl, rfl⟩) ?_
  refine (sign_any _ _).mono ?_
  rintro e w' ⟨rfl, rfl⟩
  rw [show signB 9 = false from rfl]
  refine ⟨_, rfl, Ext.refl _, ?_⟩
  simp only [Act.put, List.setIfInBounds_toArray, List.set_cons_zero, List.set_cons_succ]
  iterate 6 (refine plan_take (v := ?_) rfl (by kernel_rfl) ?_ ?_; rotate_left; (focus (intro w' hw'; go_simp; try with_reducible rfl)); simp only [Act.put, List.setIfInBounds_toArray, List.set_cons_zero, List.set_cons_succ])
  iterate 2 (refine plan_skip rfl (by kernel_rfl) ?_; simp only [Act.put, List.setIfInBounds_toArray, List.set_cons_zero, List.set_cons_succ])
  iterate 4 (refine plan_take (v := ?_) rfl (by kernel_rfl) ?_ ?_; rotate_left; (focus (intro w' hw'; go_simp; try with_reducible rfl)); simp only [Act.put, List.setIfInBounds_toArray, List.set_cons_zero, List.set_cons_succ])
  refine plan_end ?_
  clear r1 r2
  go_wp2
  go_ret
  refine ⟨rfl, ?_⟩
  have b1 := HB1.out
  have b2 := b1.trans (HB2.out.mono b1.size)
  exact (b2.alloc b2.size _).drew
theorem kinds_10 (W : World) : Calls Try.prog 5 #[.int .i64 10] W fun e w' => e = .returned (.bool true) ∧ Below W.heap.size W w' := by
  have hl : (((({ data := #[99, 97, 100, 100] } : ByteArray)[3]'(by decide)).toNat : Nat) : Int) = 100 := rfl
  have t1 : (({ data := #[82] } : ByteArray).toList == [76]) = false := by rw [ByteArray.toList_mk]; rfl
  have t2 : (({ data := #[82] } : ByteArray).toList == [65]) = false := by rw [ByteArray.toList_mk]; rfl
  go_enter Try.func5, Try.ntmps5
  go_wp2_with fail
  refine (first_ok _).mono ?_
  rintro e w1 ⟨rfl, hb1⟩
  have HB1 := Lib.hid hb1
  clear hb1
  go_wp2_with fail
  refine (of_yes 10 _ (by decide)).mono ?_
  rintro e w2 ⟨rfl, hb2⟩
  rw [show nameS 10 = ⟨#[99, 97, 100, 100]⟩ from rfl, show ks (kd ((10 : Nat) : Int)) = ⟨#[82]⟩ from rfl, show sizeV ((10 : Nat) : Int) = 0 from rfl]
  have HB2 := Lib.hid hb2
  clear hb2
  go_wp2_with fail
  have r1 := fun W' (h : Ext (w2.alloc (.cells #[.string ⟨#[99, 97, 100, 100]⟩, .string ⟨#[82]⟩, .int .i64 0] 36)).drew W') => (h.cell (p := ⟨w2.heap.size, 1, none⟩) (by simp)).trans (show _ = some (Value.string ⟨#[82]⟩) from World.cell?_alloc_new _ _ _ _)
  have r2 := fun W' (h : Ext (w2.alloc (.cells #[.string ⟨#[99, 97, 100, 100]⟩, .string ⟨#[82]⟩, .int .i64 0] 36)).drew W') => (h.cell (p := ⟨w2.heap.size, 2, none⟩) (by simp)).trans (show _ = some (Value.int .i64 0) from World.cell?_alloc_new _ _ _ _)
  refine wp_region_plan [(0, false), (2, false), (3, false), (1, true), (4, false), (5, false), (6, false), (8, false), (9, false), (7, true), (10, false), (11, false), (12, false), (13, false), (15, false), (16, false), (17, false), (14, true), (18, false), (19, false), (20, false), (21, false), (22, false), (23, false), (24, false), (25, false), (26, false), (27, false), (28, false), (29, false)] (by kernel_rfl) (by kernel_rfl) (fun _ d _ _ _ h => by cases d <;> exact h) ?_
  iterate 3 (refine plan_take (v := ?_) rfl (by kernel_rfl) ?_ ?_; rotate_left; (focus (intro w' hw'; go_simp; try with_reducible rfl)); simp only [Act.put, List.setIfInBounds_toArray, List.set_cons_zero, List.set_cons_succ])
  refine plan_call rfl (by kernel_rfl) (by go_simp; exact ⟨rfl, rfl⟩) ?_
  refine (kind_any _ _).mono ?_
  rintro e w' ⟨rfl, rfl⟩
  rw [show ks (kd 10) = ⟨#[82]⟩ from rfl]
  refine ⟨_, rfl, Ext.refl _, ?_⟩
  simp only [Act.put, List.setIfInBounds_toArray, List.set_cons_zero, List.set_cons_succ]
  iterate 5 (refine plan_take (v := ?_) rfl (by kernel_rfl) ?_ ?_; rotate_left; (focus (intro w' hw'; go_simp; try with_reducible rfl)); simp only [Act.put, List.setIfInBounds_toArray, List.set_cons_zero, List.set_cons_succ])
  refine plan_call rfl (by kernel_rfl) (by go_simp; exact ⟨rfl, rfl⟩) ?_
  refine (size_any _ _).mono ?_
  rintro e w' ⟨rfl, rfl⟩
  rw [show sizeV 10 = 0 from rfl]
  refine ⟨_, rfl, Ext.refl _, ?_⟩
  simp only [Act.put, List.setIfInBounds_toArray, List.set_cons_zero, List.set_cons_succ]
  iterate 7 (refine plan_take (v := ?_) rfl (by kernel_rfl) ?_ ?_; rotate_left; (focus (intro w' hw'; go_simp; try with_reducible rfl)); simp only [Act.put, List.setIfInBounds_toArray, List.set_cons_zero, List.set_cons_succ])
  refine plan_call rfl (by kernel_rfl) (by go_simp; exact ⟨rfl, rfl⟩) ?_
  refine (sign_any _ _).mono ?_
  rintro e w' ⟨rfl, rfl⟩
  rw [show signB 10 = false from rfl]
  refine ⟨_, rfl, Ext.refl _, ?_⟩
  simp only [Act.put, List.setIfInBounds_toArray, List.set_cons_zero, List.set_cons_succ]
  iterate 6 (refine plan_take (v := ?_) rfl (by kernel_rfl) ?_ ?_; rotate_left; (focus (intro w' hw'; go_simp; try with_reducible rfl)); simp only [Act.put, List.setIfInBounds_toArray, List.set_cons_zero, List.set_cons_succ])
  iterate 2 (refine plan_skip rfl (by kernel_rfl) ?_; simp only [Act.put, List.setIfInBounds_toArray, List.set_cons_zero, List.set_cons_succ])
  iterate 4 (refine plan_take (v := ?_) rfl (by kernel_rfl) ?_ ?_; rotate_left; (focus (intro w' hw'; go_simp; try with_reducible rfl)); simp only [Act.put, List.setIfInBounds_toArray, List.set_cons_zero, List.set_cons_succ])
  refine plan_end ?_
  clear r1 r2
  go_wp2
  go_ret
  refine ⟨rfl, ?_⟩
  have b1 := HB1.out
  have b2 := b1.trans (HB2.out.mono b1.size)
  exact (b2.alloc b2.size _).drew
theorem kinds_11 (W : World) : Calls Try.prog 5 #[.int .i64 11] W fun e w' => e = .returned (.bool true) ∧ Below W.heap.size W w' := by
  have hl : (((({ data := #[99, 115, 117, 98] } : ByteArray)[3]'(by decide)).toNat : Nat) : Int) = 98 := rfl
  have t1 : (({ data := #[82] } : ByteArray).toList == [76]) = false := by rw [ByteArray.toList_mk]; rfl
  have t2 : (({ data := #[82] } : ByteArray).toList == [65]) = false := by rw [ByteArray.toList_mk]; rfl
  go_enter Try.func5, Try.ntmps5
  go_wp2_with fail
  refine (first_ok _).mono ?_
  rintro e w1 ⟨rfl, hb1⟩
  have HB1 := Lib.hid hb1
  clear hb1
  go_wp2_with fail
  refine (of_yes 11 _ (by decide)).mono ?_
  rintro e w2 ⟨rfl, hb2⟩
  rw [show nameS 11 = ⟨#[99, 115, 117, 98]⟩ from rfl, show ks (kd ((11 : Nat) : Int)) = ⟨#[82]⟩ from rfl, show sizeV ((11 : Nat) : Int) = 0 from rfl]
  have HB2 := Lib.hid hb2
  clear hb2
  go_wp2_with fail
  have r1 := fun W' (h : Ext (w2.alloc (.cells #[.string ⟨#[99, 115, 117, 98]⟩, .string ⟨#[82]⟩, .int .i64 0] 36)).drew W') => (h.cell (p := ⟨w2.heap.size, 1, none⟩) (by simp)).trans (show _ = some (Value.string ⟨#[82]⟩) from World.cell?_alloc_new _ _ _ _)
  have r2 := fun W' (h : Ext (w2.alloc (.cells #[.string ⟨#[99, 115, 117, 98]⟩, .string ⟨#[82]⟩, .int .i64 0] 36)).drew W') => (h.cell (p := ⟨w2.heap.size, 2, none⟩) (by simp)).trans (show _ = some (Value.int .i64 0) from World.cell?_alloc_new _ _ _ _)
  refine wp_region_plan [(0, false), (2, false), (3, false), (1, true), (4, false), (5, false), (6, false), (8, false), (9, false), (7, true), (10, false), (11, false), (12, false), (13, false), (15, false), (16, false), (17, false), (14, true), (18, false), (19, false), (20, false), (21, false), (22, false), (23, false), (24, false), (25, false), (26, false), (27, false), (28, false), (29, false)] (by kernel_rfl) (by kernel_rfl) (fun _ d _ _ _ h => by cases d <;> exact h) ?_
  iterate 3 (refine plan_take (v := ?_) rfl (by kernel_rfl) ?_ ?_; rotate_left; (focus (intro w' hw'; go_simp; try with_reducible rfl)); simp only [Act.put, List.setIfInBounds_toArray, List.set_cons_zero, List.set_cons_succ])
  refine plan_call rfl (by kernel_rfl) (by go_simp; exact ⟨rfl, rfl⟩) ?_
  refine (kind_any _ _).mono ?_
  rintro e w' ⟨rfl, rfl⟩
  rw [show ks (kd 11) = ⟨#[82]⟩ from rfl]
  refine ⟨_, rfl, Ext.refl _, ?_⟩
  simp only [Act.put, List.setIfInBounds_toArray, List.set_cons_zero, List.set_cons_succ]
  iterate 5 (refine plan_take (v := ?_) rfl (by kernel_rfl) ?_ ?_; rotate_left; (focus (intro w' hw'; go_simp; try with_reducible rfl)); simp only [Act.put, List.setIfInBounds_toArray, List.set_cons_zero, List.set_cons_succ])
  refine plan_call rfl (by kernel_rfl) (by go_simp; exact ⟨rfl, rfl⟩) ?_
  refine (size_any _ _).mono ?_
  rintro e w' ⟨rfl, rfl⟩
  rw [show sizeV 11 = 0 from rfl]
  refine ⟨_, rfl, Ext.refl _, ?_⟩
  simp only [Act.put, List.setIfInBounds_toArray, List.set_cons_zero, List.set_cons_succ]
  iterate 7 (refine plan_take (v := ?_) rfl (by kernel_rfl) ?_ ?_; rotate_left; (focus (intro w' hw'; go_simp; try with_reducible rfl)); simp only [Act.put, List.setIfInBounds_toArray, List.set_cons_zero, List.set_cons_succ])
  refine plan_call rfl (by kernel_rfl) (by go_simp; exact ⟨rfl, rfl⟩) ?_
  refine (sign_any _ _).mono ?_
  rintro e w' ⟨rfl, rfl⟩
  rw [show signB 11 = false from rfl]
  refine ⟨_, rfl, Ext.refl _, ?_⟩
  simp only [Act.put, List.setIfInBounds_toArray, List.set_cons_zero, List.set_cons_succ]
  iterate 6 (refine plan_take (v := ?_) rfl (by kernel_rfl) ?_ ?_; rotate_left; (focus (intro w' hw'; go_simp; try with_reducible rfl)); simp only [Act.put, List.setIfInBounds_toArray, List.set_cons_zero, List.set_cons_succ])
  iterate 2 (refine plan_skip rfl (by kernel_rfl) ?_; simp only [Act.put, List.setIfInBounds_toArray, List.set_cons_zero, List.set_cons_succ])
  iterate 4 (refine plan_take (v := ?_) rfl (by kernel_rfl) ?_ ?_; rotate_left; (focus (intro w' hw'; go_simp; try with_reducible rfl)); simp only [Act.put, List.setIfInBounds_toArray, List.set_cons_zero, List.set_cons_succ])
  refine plan_end ?_
  clear r1 r2
  go_wp2
  go_ret
  refine ⟨rfl, ?_⟩
  have b1 := HB1.out
  have b2 := b1.trans (HB2.out.mono b1.size)
  exact (b2.alloc b2.size _).drew
end Law
end Go.Proofs.Ytcmaneeoblmmmaa
