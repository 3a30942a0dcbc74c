/- IsaKinds, instructions 12 to 23. -/
import Derived.Test.YtcmaneeoblmmmaaIsaG
namespace Go.Proofs.Ytcmaneeoblmmmaa
open Go.RowKit
namespace Law
theorem kinds_12 (W : World) : Calls Try.prog 5 #[.int .i64 12] W fun e w' => e = .returned (.bool true) ∧ Below W.heap.size W w' := by
  have hl : (((({ data := #[99, 109, 117, 108] } : ByteArray)[3]'(by decide)).toNat : Nat) : Int) = 108 := rfl
  have t1 : (({ data := #[82] } : ByteArray).toList == [76]) = false := by rw [ByteArray.toList_mk]; rfl
  have t2 : (({ data := #[82] } : ByteArray).toList == [65]) = false := by rw [ByteArray.toList_mk]; rfl
  go_enter Try.func5, Try.ntmps5
  go_wp2_with fail
  refine (first_ok _).mono ?_
  rintro e w1 ⟨rfl, hb1⟩
  have HB1 := Lib.hid hb1
  clear hb1
  go_wp2_with fail
  refine (of_yes 12 _ (by decide)).mono ?_
  rintro e w2 ⟨rfl, hb2⟩
  rw [show nameS 12 = ⟨#[99, 109, 117, 108]⟩ from rfl, show ks (kd ((12 : Nat) : Int)) = ⟨#[82]⟩ from rfl, show sizeV ((12 : Nat) : Int) = 0 from rfl]
  have HB2 := Lib.hid hb2
  clear hb2
  go_wp2_with fail
  have r1 := fun W' (h : Ext (w2.alloc (.cells #[.string ⟨#[99, 109, 117, 108]⟩, .string ⟨#[82]⟩, .int .i64 0] 36)).drew W') => (h.cell (p := ⟨w2.heap.size, 1, none⟩) (by simp)).trans (show _ = some (Value.string ⟨#[82]⟩) from World.cell?_alloc_new _ _ _ _)
  have r2 := fun W' (h : Ext (w2.alloc (.cells #[.string ⟨#[99, 109, 117, 108]⟩, .string ⟨#[82]⟩, .int .i64 0] 36)).drew W') => (h.cell (p := ⟨w2.heap.size, 2, none⟩) (by simp)).trans (show _ = some (Value.int .i64 0) from World.cell?_alloc_new _ _ _ _)
  refine wp_region_plan [(0, false), (2, false), (3, false), (1, true), (4, false), (5, false), (6, false), (8, false), (9, false), (7, true), (10, false), (11, false), (12, false), (13, false), (15, false), (16, false), (17, false), (14, true), (18, false), (19, false), (20, false), (21, false), (22, false), (23, false), (24, false), (25, false), (26, false), (27, false), (28, false), (29, false)] (by kernel_rfl) (by kernel_rfl) (fun _ d _ _ _ h => by cases d <;> exact h) ?_
  iterate 3 (refine plan_take (v := ?_) rfl (by kernel_rfl) ?_ ?_; rotate_left; (focus (intro w' hw'; go_simp; try with_reducible rfl)); simp only [Act.put, List.setIfInBounds_toArray, List.set_cons_zero, List.set_cons_succ])
  refine plan_call rfl (by kernel_rfl) (by go_simp; exact ⟨rfl, rfl⟩) ?_
  refine (kind_any _ _).mono ?_
  rintro e w' ⟨rfl, rfl⟩
  rw [show ks (kd 12) = ⟨#[82]⟩ from rfl]
  refine ⟨_, rfl, Ext.refl _, ?_⟩
  simp only [Act.put, List.setIfInBounds_toArray, List.set_cons_zero, List.set_cons_succ]
  iterate 5 (refine plan_take (v := ?_) rfl (by kernel_rfl) ?_ ?_; rotate_left; (focus (intro w' hw'; go_simp; try with_reducible rfl)); simp only [Act.put, List.setIfInBounds_toArray, List.set_cons_zero, List.set_cons_succ])
  refine plan_call rfl (by kernel_rfl) (by go_simp; exact ⟨rfl, rfl⟩) ?_
  refine (size_any _ _).mono ?_
  rintro e w' ⟨rfl, rfl⟩
  rw [show sizeV 12 = 0 from rfl]
  refine ⟨_, rfl, Ext.refl _, ?_⟩
  simp only [Act.put, List.setIfInBounds_toArray, List.set_cons_zero, List.set_cons_succ]
  iterate 7 (refine plan_take (v := ?_) rfl (by kernel_rfl) ?_ ?_; rotate_left; (focus (intro w' hw'; go_simp; try with_reducible rfl)); simp only [Act.put, List.setIfInBounds_toArray, List.set_cons_zero, List.set_cons_succ])
  refine plan_call rfl (by kernel_rfl) (by go_simp; exact ⟨rfl, rfl⟩) ?_
  refine (sign_any _ _).mono ?_
  rintro e w' ⟨rfl, rfl⟩
  rw [show signB 12 = false from rfl]
  refine ⟨_, rfl, Ext.refl _, ?_⟩
  simp only [Act.put, List.setIfInBounds_toArray, List.set_cons_zero, List.set_cons_succ]
  iterate 6 (refine plan_take (v := ?_) rfl (by kernel_rfl) ?_ ?_; rotate_left; (focus (intro w' hw'; go_simp; try with_reducible rfl)); simp only [Act.put, List.setIfInBounds_toArray, List.set_cons_zero, List.set_cons_succ])
  iterate 2 (refine plan_skip rfl (by kernel_rfl) ?_; simp only [Act.put, List.setIfInBounds_toArray, List.set_cons_zero, List.set_cons_succ])
  iterate 4 (refine plan_take (v := ?_) rfl (by kernel_rfl) ?_ ?_; rotate_left; (focus (intro w' hw'; go_simp; try with_reducible rfl)); simp only [Act.put, List.setIfInBounds_toArray, List.set_cons_zero, List.set_cons_succ])
  refine plan_end ?_
  clear r1 r2
  go_wp2
  go_ret
  refine ⟨rfl, ?_⟩
  have b1 := HB1.out
  have b2 := b1.trans (HB2.out.mono b1.size)
  exact (b2.alloc b2.size _).drew
theorem kinds_13 (W : World) : Calls Try.prog 5 #[.int .i64 13] W fun e w' => e = .returned (.bool true) ∧ Below W.heap.size W w' := by
  have hl : (((({ data := #[99, 99, 111, 110, 106] } : ByteArray)[4]'(by decide)).toNat : Nat) : Int) = 106 := rfl
  have t1 : (({ data := #[85] } : ByteArray).toList == [76]) = false := by rw [ByteArray.toList_mk]; rfl
  have t2 : (({ data := #[85] } : ByteArray).toList == [65]) = false := by rw [ByteArray.toList_mk]; rfl
  go_enter Try.func5, Try.ntmps5
  go_wp2_with fail
  refine (first_ok _).mono ?_
  rintro e w1 ⟨rfl, hb1⟩
  have HB1 := Lib.hid hb1
  clear hb1
  go_wp2_with fail
  refine (of_yes 13 _ (by decide)).mono ?_
  rintro e w2 ⟨rfl, hb2⟩
  rw [show nameS 13 = ⟨#[99, 99, 111, 110, 106]⟩ from rfl, show ks (kd ((13 : Nat) : Int)) = ⟨#[85]⟩ from rfl, show sizeV ((13 : Nat) : Int) = 0 from rfl]
  have HB2 := Lib.hid hb2
  clear hb2
  go_wp2_with fail
  have r1 := fun W' (h : Ext (w2.alloc (.cells #[.string ⟨#[99, 99, 111, 110, 106]⟩, .string ⟨#[85]⟩, .int .i64 0] 36)).drew W') => (h.cell (p := ⟨w2.heap.size, 1, none⟩) (by simp)).trans (show _ = some (Value.string ⟨#[85]⟩) from World.cell?_alloc_new _ _ _ _)
  have r2 := fun W' (h : Ext (w2.alloc (.cells #[.string ⟨#[99, 99, 111, 110, 106]⟩, .string ⟨#[85]⟩, .int .i64 0] 36)).drew W') => (h.cell (p := ⟨w2.heap.size, 2, none⟩) (by simp)).trans (show _ = some (Value.int .i64 0) from World.cell?_alloc_new _ _ _ _)
  refine wp_region_plan [(0, false), (2, false), (3, false), (1, true), (4, false), (5, false), (6, false), (8, false), (9, false), (7, true), (10, false), (11, false), (12, false), (13, false), (15, false), (16, false), (17, false), (14, true), (18, false), (19, false), (20, false), (21, false), (22, false), (23, false), (24, false), (25, false), (26, false), (27, false), (28, false), (29, false)] (by kernel_rfl) (by kernel_rfl) (fun _ d _ _ _ h => by cases d <;> exact h) ?_
  iterate 3 (refine plan_take (v := ?_) rfl (by kernel_rfl) ?_ ?_; rotate_left; (focus (intro w' hw'; go_simp; try with_reducible rfl)); simp only [Act.put, List.setIfInBounds_toArray, List.set_cons_zero, List.set_cons_succ])
  refine plan_call rfl (by kernel_rfl) (by go_simp; exact ⟨rfl, rfl⟩) ?_
  refine (kind_any _ _).mono ?_
  rintro e w' ⟨rfl, rfl⟩
  rw [show ks (kd 13) = ⟨#[85]⟩ from rfl]
  refine ⟨_, rfl, Ext.refl _, ?_⟩
  simp only [Act.put, List.setIfInBounds_toArray, List.set_cons_zero, List.set_cons_succ]
  iterate 5 (refine plan_take (v := ?_) rfl (by kernel_rfl) ?_ ?_; rotate_left; (focus (intro w' hw'; go_simp; try with_reducible rfl)); simp only [Act.put, List.setIfInBounds_toArray, List.set_cons_zero, List.set_cons_succ])
  refine plan_call rfl (by kernel_rfl) (by go_simp; exact ⟨rfl, rfl⟩) ?_
  refine (size_any _ _).mono ?_
  rintro e w' ⟨rfl, rfl⟩
  rw [show sizeV 13 = 0 from rfl]
  refine ⟨_, rfl, Ext.refl _, ?_⟩
  simp only [Act.put, List.setIfInBounds_toArray, List.set_cons_zero, List.set_cons_succ]
  iterate 7 (refine plan_take (v := ?_) rfl (by kernel_rfl) ?_ ?_; rotate_left; (focus (intro w' hw'; go_simp; try with_reducible rfl)); simp only [Act.put, List.setIfInBounds_toArray, List.set_cons_zero, List.set_cons_succ])
  refine plan_call rfl (by kernel_rfl) (by go_simp; exact ⟨rfl, rfl⟩) ?_
  refine (sign_any _ _).mono ?_
  rintro e w' ⟨rfl, rfl⟩
  rw [show signB 13 = false from rfl]
  refine ⟨_, rfl, Ext.refl _, ?_⟩
  simp only [Act.put, List.setIfInBounds_toArray, List.set_cons_zero, List.set_cons_succ]
  iterate 6 (refine plan_take (v := ?_) rfl (by kernel_rfl) ?_ ?_; rotate_left; (focus (intro w' hw'; go_simp; try with_reducible rfl)); simp only [Act.put, List.setIfInBounds_toArray, List.set_cons_zero, List.set_cons_succ])
  iterate 2 (refine plan_skip rfl (by kernel_rfl) ?_; simp only [Act.put, List.setIfInBounds_toArray, List.set_cons_zero, List.set_cons_succ])
  iterate 4 (refine plan_take (v := ?_) rfl (by kernel_rfl) ?_ ?_; rotate_left; (focus (intro w' hw'; go_simp; try with_reducible rfl)); simp only [Act.put, List.setIfInBounds_toArray, List.set_cons_zero, List.set_cons_succ])
  refine plan_end ?_
  clear r1 r2
  go_wp2
  go_ret
  refine ⟨rfl, ?_⟩
  have b1 := HB1.out
  have b2 := b1.trans (HB2.out.mono b1.size)
  exact (b2.alloc b2.size _).drew
theorem kinds_14 (W : World) : Calls Try.prog 5 #[.int .i64 14] W fun e w' => e = .returned (.bool true) ∧ Below W.heap.size W w' := by
  have hl : (((({ data := #[99, 110, 111, 114, 109] } : ByteArray)[4]'(by decide)).toNat : Nat) : Int) = 109 := rfl
  have t1 : (({ data := #[85] } : ByteArray).toList == [76]) = false := by rw [ByteArray.toList_mk]; rfl
  have t2 : (({ data := #[85] } : ByteArray).toList == [65]) = false := by rw [ByteArray.toList_mk]; rfl
  go_enter Try.func5, Try.ntmps5
  go_wp2_with fail
  refine (first_ok _).mono ?_
  rintro e w1 ⟨rfl, hb1⟩
  have HB1 := Lib.hid hb1
  clear hb1
  go_wp2_with fail
  refine (of_yes 14 _ (by decide)).mono ?_
  rintro e w2 ⟨rfl, hb2⟩
  rw [show nameS 14 = ⟨#[99, 110, 111, 114, 109]⟩ from rfl, show ks (kd ((14 : Nat) : Int)) = ⟨#[85]⟩ from rfl, show sizeV ((14 : Nat) : Int) = 0 from rfl]
  have HB2 := Lib.hid hb2
  clear hb2
  go_wp2_with fail
  have r1 := fun W' (h : Ext (w2.alloc (.cells #[.string ⟨#[99, 110, 111, 114, 109]⟩, .string ⟨#[85]⟩, .int .i64 0] 36)).drew W') => (h.cell (p := ⟨w2.heap.size, 1, none⟩) (by simp)).trans (show _ = some (Value.string ⟨#[85]⟩) from World.cell?_alloc_new _ _ _ _)
  have r2 := fun W' (h : Ext (w2.alloc (.cells #[.string ⟨#[99, 110, 111, 114, 109]⟩, .string ⟨#[85]⟩, .int .i64 0] 36)).drew W') => (h.cell (p := ⟨w2.heap.size, 2, none⟩) (by simp)).trans (show _ = some (Value.int .i64 0) from World.cell?_alloc_new _ _ _ _)
  refine wp_region_plan [(0, false), (2, false), (3, false), (1, true), (4, false), (5, false), (6, false), (8, false), (9, false), (7, true), (10, false), (11, false), (12, false), (13, false), (15, false), (16, false), (17, false), (14, true), (18, false), (19, false), (20, false), (21, false), (22, false), (23, false), (24, false), (25, false), (26, false), (27, false), (28, false), (29, false)] (by kernel_rfl) (by kernel_rfl) (fun _ d _ _ _ h => by cases d <;> exact h) ?_
  iterate 3 (refine plan_take (v := ?_) rfl (by kernel_rfl) ?_ ?_; rotate_left; (focus (intro w' hw'; go_simp; try with_reducible rfl)); simp only [Act.put, List.setIfInBounds_toArray, List.set_cons_zero, List.set_cons_succ])
  refine plan_call rfl (by kernel_rfl) (by go_simp; exact ⟨rfl, rfl⟩) ?_
  refine (kind_any _ _).mono ?_
  rintro e w' ⟨rfl, rfl⟩
  rw [show ks (kd 14) = ⟨#[85]⟩ from rfl]
  refine ⟨_, rfl, Ext.refl _, ?_⟩
  simp only [Act.put, List.setIfInBounds_toArray, List.set_cons_zero, List.set_cons_succ]
  iterate 5 (refine plan_take (v := ?_) rfl (by kernel_rfl) ?_ ?_; rotate_left; (focus (intro w' hw'; go_simp; try with_reducible rfl)); simp only [Act.put, List.setIfInBounds_toArray, List.set_cons_zero, List.set_cons_succ])
  refine plan_call rfl (by kernel_rfl) (by go_simp; exact ⟨rfl, rfl⟩) ?_
  refine (size_any _ _).mono ?_
  rintro e w' ⟨rfl, rfl⟩
  rw [show sizeV 14 = 0 from rfl]
  refine ⟨_, rfl, Ext.refl _, ?_⟩
  simp only [Act.put, List.setIfInBounds_toArray, List.set_cons_zero, List.set_cons_succ]
  iterate 7 (refine plan_take (v := ?_) rfl (by kernel_rfl) ?_ ?_; rotate_left; (focus (intro w' hw'; go_simp; try with_reducible rfl)); simp only [Act.put, List.setIfInBounds_toArray, List.set_cons_zero, List.set_cons_succ])
  refine plan_call rfl (by kernel_rfl) (by go_simp; exact ⟨rfl, rfl⟩) ?_
  refine (sign_any _ _).mono ?_
  rintro e w' ⟨rfl, rfl⟩
  rw [show signB 14 = false from rfl]
  refine ⟨_, rfl, Ext.refl _, ?_⟩
  simp only [Act.put, List.setIfInBounds_toArray, List.set_cons_zero, List.set_cons_succ]
  iterate 6 (refine plan_take (v := ?_) rfl (by kernel_rfl) ?_ ?_; rotate_left; (focus (intro w' hw'; go_simp; try with_reducible rfl)); simp only [Act.put, List.setIfInBounds_toArray, List.set_cons_zero, List.set_cons_succ])
  iterate 2 (refine plan_skip rfl (by kernel_rfl) ?_; simp only [Act.put, List.setIfInBounds_toArray, List.set_cons_zero, List.set_cons_succ])
  iterate 4 (refine plan_take (v := ?_) rfl (by kernel_rfl) ?_ ?_; rotate_left; (focus (intro w' hw'; go_simp; try with_reducible rfl)); simp only [Act.put, List.setIfInBounds_toArray, List.set_cons_zero, List.set_cons_succ])
  refine plan_end ?_
  clear r1 r2
  go_wp2
  go_ret
  refine ⟨rfl, ?_⟩
  have b1 := HB1.out
  have b2 := b1.trans (HB2.out.mono b1.size)
  exact (b2.alloc b2.size _).drew
theorem kinds_15 (W : World) : Calls Try.prog 5 #[.int .i64 15] W fun e w' => e = .returned (.bool true) ∧ Below W.heap.size W w' := by
  have hl : (((({ data := #[98, 101, 113] } : ByteArray)[2]'(by decide)).toNat : Nat) : Int) = 113 := rfl
  have t1 : (({ data := #[66] } : ByteArray).toList == [76]) = false := by rw [ByteArray.toList_mk]; rfl
  have t2 : (({ data := #[66] } : ByteArray).toList == [65]) = false := by rw [ByteArray.toList_mk]; rfl
  go_enter Try.func5, Try.ntmps5
  go_wp2_with fail
  refine (first_ok _).mono ?_
  rintro e w1 ⟨rfl, hb1⟩
  have HB1 := Lib.hid hb1
  clear hb1
  go_wp2_with fail
  refine (of_yes 15 _ (by decide)).mono ?_
  rintro e w2 ⟨rfl, hb2⟩
  rw [show nameS 15 = ⟨#[98, 101, 113]⟩ from rfl, show ks (kd ((15 : Nat) : Int)) = ⟨#[66]⟩ from rfl, show sizeV ((15 : Nat) : Int) = 0 from rfl]
  have HB2 := Lib.hid hb2
  clear hb2
  go_wp2_with fail
  have r1 := fun W' (h : Ext (w2.alloc (.cells #[.string ⟨#[98, 101, 113]⟩, .string ⟨#[66]⟩, .int .i64 0] 36)).drew W') => (h.cell (p := ⟨w2.heap.size, 1, none⟩) (by simp)).trans (show _ = some (Value.string ⟨#[66]⟩) from World.cell?_alloc_new _ _ _ _)
  have r2 := fun W' (h : Ext (w2.alloc (.cells #[.string ⟨#[98, 101, 113]⟩, .string ⟨#[66]⟩, .int .i64 0] 36)).drew W') => (h.cell (p := ⟨w2.heap.size, 2, none⟩) (by simp)).trans (show _ = some (Value.int .i64 0) from World.cell?_alloc_new _ _ _ _)
  refine wp_region_plan [(0, false), (2, false), (3, false), (1, true), (4, false), (5, false), (6, false), (8, false), (9, false), (7, true), (10, false), (11, false), (12, false), (13, false), (15, false), (16, false), (17, false), (14, true), (18, false), (19, false), (20, false), (21, false), (22, false), (23, false), (24, false), (25, false), (26, false), (27, false), (28, false), (29, false)] (by kernel_rfl) (by kernel_rfl) (fun _ d _ _ _ h => by cases d <;> exact h) ?_
  iterate 3 (refine plan_take (v := ?_) rfl (by kernel_rfl) ?_ ?_; rotate_left; (focus (intro w' hw'; go_simp; try with_reducible rfl)); simp only [Act.put, List.setIfInBounds_toArray, List.set_cons_zero, List.set_cons_succ])
  refine plan_call rfl (by kernel_rfl) (by go_simp; exact ⟨rfl, rfl⟩) ?_
  refine (kind_any _ _).mono ?_
  rintro e w' ⟨rfl, rfl⟩
  rw [show ks (kd 15) = ⟨#[66]⟩ from rfl]
  refine ⟨_, rfl, Ext.refl _, ?_⟩
  simp only [Act.put, List.setIfInBounds_toArray, List.set_cons_zero, List.set_cons_succ]
  iterate 5 (refine plan_take (v := ?_) rfl (by kernel_rfl) ?_ ?_; rotate_left; (focus (intro w' hw'; go_simp; try with_reducible rfl)); simp only [Act.put, List.setIfInBounds_toArray, List.set_cons_zero, List.set_cons_succ])
  refine plan_call rfl (by kernel_rfl) (by go_simp; exact ⟨rfl, rfl⟩) ?_
  refine (size_any _ _).mono ?_
  rintro e w' ⟨rfl, rfl⟩
  rw [show sizeV 15 = 0 from rfl]
  refine ⟨_, rfl, Ext.refl _, ?_⟩
  simp only [Act.put, List.setIfInBounds_toArray, List.set_cons_zero, List.set_cons_succ]
  iterate 7 (refine plan_take (v := ?_) rfl (by kernel_rfl) ?_ ?_; rotate_left; (focus (intro w' hw'; go_simp; try with_reducible rfl)); simp only [Act.put, List.setIfInBounds_toArray, List.set_cons_zero, List.set_cons_succ])
  refine plan_call rfl (by kernel_rfl) (by go_simp; exact ⟨rfl, rfl⟩) ?_
  refine (sign_any _ _).mono ?_
  rintro e w' ⟨rfl, rfl⟩
  rw [show signB 15 = false from rfl]
  refine ⟨_, rfl, Ext.refl _, ?_⟩
  simp only [Act.put, List.setIfInBounds_toArray, List.set_cons_zero, List.set_cons_succ]
  iterate 6 (refine plan_take (v := ?_) rfl (by kernel_rfl) ?_ ?_; rotate_left; (focus (intro w' hw'; go_simp; try with_reducible rfl)); simp only [Act.put, List.setIfInBounds_toArray, List.set_cons_zero, List.set_cons_succ])
  iterate 2 (refine plan_skip rfl (by kernel_rfl) ?_; simp only [Act.put, List.setIfInBounds_toArray, List.set_cons_zero, List.set_cons_succ])
  iterate 4 (refine plan_take (v := ?_) rfl (by kernel_rfl) ?_ ?_; rotate_left; (focus (intro w' hw'; go_simp; try with_reducible rfl)); simp only [Act.put, List.setIfInBounds_toArray, List.set_cons_zero, List.set_cons_succ])
  refine plan_end ?_
  clear r1 r2
  go_wp2
  go_ret
  refine ⟨rfl, ?_⟩
  have b1 := HB1.out
  have b2 := b1.trans (HB2.out.mono b1.size)
  exact (b2.alloc b2.size _).drew
theorem kinds_16 (W : World) : Calls Try.prog 5 #[.int .i64 16] W fun e w' => e = .returned (.bool true) ∧ Below W.heap.size W w' := by
  have hl : (((({ data := #[98, 110, 101] } : ByteArray)[2]'(by decide)).toNat : Nat) : Int) = 101 := rfl
  have t1 : (({ data := #[66] } : ByteArray).toList == [76]) = false := by rw [ByteArray.toList_mk]; rfl
  have t2 : (({ data := #[66] } : ByteArray).toList == [65]) = false := by rw [ByteArray.toList_mk]; rfl
  go_enter Try.func5, Try.ntmps5
  go_wp2_with fail
  refine (first_ok _).mono ?_
  rintro e w1 ⟨rfl, hb1⟩
  have HB1 := Lib.hid hb1
  clear hb1
  go_wp2_with fail
  refine (of_yes 16 _ (by decide)).mono ?_
  rintro e w2 ⟨rfl, hb2⟩
  rw [show nameS 16 = ⟨#[98, 110, 101]⟩ from rfl, show ks (kd ((16 : Nat) : Int)) = ⟨#[66]⟩ from rfl, show sizeV ((16 : Nat) : Int) = 0 from rfl]
  have HB2 := Lib.hid hb2
  clear hb2
  go_wp2_with fail
  have r1 := fun W' (h : Ext (w2.alloc (.cells #[.string ⟨#[98, 110, 101]⟩, .string ⟨#[66]⟩, .int .i64 0] 36)).drew W') => (h.cell (p := ⟨w2.heap.size, 1, none⟩) (by simp)).trans (show _ = some (Value.string ⟨#[66]⟩) from World.cell?_alloc_new _ _ _ _)
  have r2 := fun W' (h : Ext (w2.alloc (.cells #[.string ⟨#[98, 110, 101]⟩, .string ⟨#[66]⟩, .int .i64 0] 36)).drew W') => (h.cell (p := ⟨w2.heap.size, 2, none⟩) (by simp)).trans (show _ = some (Value.int .i64 0) from World.cell?_alloc_new _ _ _ _)
  refine wp_region_plan [(0, false), (2, false), (3, false), (1, true), (4, false), (5, false), (6, false), (8, false), (9, false), (7, true), (10, false), (11, false), (12, false), (13, false), (15, false), (16, false), (17, false), (14, true), (18, false), (19, false), (20, false), (21, false), (22, false), (23, false), (24, false), (25, false), (26, false), (27, false), (28, false), (29, false)] (by kernel_rfl) (by kernel_rfl) (fun _ d _ _ _ h => by cases d <;> exact h) ?_
  iterate 3 (refine plan_take (v := ?_) rfl (by kernel_rfl) ?_ ?_; rotate_left; (focus (intro w' hw'; go_simp; try with_reducible rfl)); simp only [Act.put, List.setIfInBounds_toArray, List.set_cons_zero, List.set_cons_succ])
  refine plan_call rfl (by kernel_rfl) (by go_simp; exact ⟨rfl, rfl⟩) ?_
  refine (kind_any _ _).mono ?_
  rintro e w' ⟨rfl, rfl⟩
  rw [show ks (kd 16) = ⟨#[66]⟩ from rfl]
  refine ⟨_, rfl, Ext.refl _, ?_⟩
  simp only [Act.put, List.setIfInBounds_toArray, List.set_cons_zero, List.set_cons_succ]
  iterate 5 (refine plan_take (v := ?_) rfl (by kernel_rfl) ?_ ?_; rotate_left; (focus (intro w' hw'; go_simp; try with_reducible rfl)); simp only [Act.put, List.setIfInBounds_toArray, List.set_cons_zero, List.set_cons_succ])
  refine plan_call rfl (by kernel_rfl) (by go_simp; exact ⟨rfl, rfl⟩) ?_
  refine (size_any _ _).mono ?_
  rintro e w' ⟨rfl, rfl⟩
  rw [show sizeV 16 = 0 from rfl]
  refine ⟨_, rfl, Ext.refl _, ?_⟩
  simp only [Act.put, List.setIfInBounds_toArray, List.set_cons_zero, List.set_cons_succ]
  iterate 7 (refine plan_take (v := ?_) rfl (by kernel_rfl) ?_ ?_; rotate_left; (focus (intro w' hw'; go_simp; try with_reducible rfl)); simp only [Act.put, List.setIfInBounds_toArray, List.set_cons_zero, List.set_cons_succ])
  refine plan_call rfl (by kernel_rfl) (by go_simp; exact ⟨rfl, rfl⟩) ?_
  refine (sign_any _ _).mono ?_
  rintro e w' ⟨rfl, rfl⟩
  rw [show signB 16 = false from rfl]
  refine ⟨_, rfl, Ext.refl _, ?_⟩
  simp only [Act.put, List.setIfInBounds_toArray, List.set_cons_zero, List.set_cons_succ]
  iterate 6 (refine plan_take (v := ?_) rfl (by kernel_rfl) ?_ ?_; rotate_left; (focus (intro w' hw'; go_simp; try with_reducible rfl)); simp only [Act.put, List.setIfInBounds_toArray, List.set_cons_zero, List.set_cons_succ])
  iterate 2 (refine plan_skip rfl (by kernel_rfl) ?_; simp only [Act.put, List.setIfInBounds_toArray, List.set_cons_zero, List.set_cons_succ])
  iterate 4 (refine plan_take (v := ?_) rfl (by kernel_rfl) ?_ ?_; rotate_left; (focus (intro w' hw'; go_simp; try with_reducible rfl)); simp only [Act.put, List.setIfInBounds_toArray, List.set_cons_zero, List.set_cons_succ])
  refine plan_end ?_
  clear r1 r2
  go_wp2
  go_ret
  refine ⟨rfl, ?_⟩
  have b1 := HB1.out
  have b2 := b1.trans (HB2.out.mono b1.size)
  exact (b2.alloc b2.size _).drew
theorem kinds_17 (W : World) : Calls Try.prog 5 #[.int .i64 17] W fun e w' => e = .returned (.bool true) ∧ Below W.heap.size W w' := by
  have hl : (((({ data := #[98, 108, 116] } : ByteArray)[2]'(by decide)).toNat : Nat) : Int) = 116 := rfl
  have t1 : (({ data := #[66] } : ByteArray).toList == [76]) = false := by rw [ByteArray.toList_mk]; rfl
  have t2 : (({ data := #[66] } : ByteArray).toList == [65]) = false := by rw [ByteArray.toList_mk]; rfl
  go_enter Try.func5, Try.ntmps5
  go_wp2_with fail
  refine (first_ok _).mono ?_
  rintro e w1 ⟨rfl, hb1⟩
  have HB1 := Lib.hid hb1
  clear hb1
  go_wp2_with fail
  refine (of_yes 17 _ (by decide)).mono ?_
  rintro e w2 ⟨rfl, hb2⟩
  rw [show nameS 17 = ⟨#[98, 108, 116]⟩ from rfl, show ks (kd ((17 : Nat) : Int)) = ⟨#[66]⟩ from rfl, show sizeV ((17 : Nat) : Int) = 0 from rfl]
  have HB2 := Lib.hid hb2
  clear hb2
  go_wp2_with fail
  have r1 := fun W' (h : Ext (w2.alloc (.cells #[.string ⟨#[98, 108, 116]⟩, .string ⟨#[66]⟩, .int .i64 0] 36)).drew W') => (h.cell (p := ⟨w2.heap.size, 1, none⟩) (by simp)).trans (show _ = some (Value.string ⟨#[66]⟩) from World.cell?_alloc_new _ _ _ _)
  have r2 := fun W' (h : Ext (w2.alloc (.cells #[.string ⟨#[98, 108, 116]⟩, .string ⟨#[66]⟩, .int .i64 0] 36)).drew W') => (h.cell (p := ⟨w2.heap.size, 2, none⟩) (by simp)).trans (show _ = some (Value.int .i64 0) from World.cell?_alloc_new _ _ _ _)
  refine wp_region_plan [(0, false), (2, false), (3, false), (1, true), (4, false), (5, false), (6, false), (8, false), (9, false), (7, true), (10, false), (11, false), (12, false), (13, false), (15, false), (16, false), (17, false), (14, true), (18, false), (19, false), (20, false), (21, false), (22, false), (23, false), (24, false), (25, false), (26, false), (27, false), (28, false), (29, false)] (by kernel_rfl) (by kernel_rfl) (fun _ d _ _ _ h => by cases d <;> exact h) ?_
  iterate 3 (refine plan_take (v := ?_) rfl (by kernel_rfl) ?_ ?_; rotate_left; (focus (intro w' hw'; go_simp; try with_reducible rfl)); simp only [Act.put, List.setIfInBounds_toArray, List.set_cons_zero, List.set_cons_succ])
  refine plan_call rfl (by kernel_rfl) (by go_simp; exact ⟨rfl, rfl⟩) ?_
  refine (kind_any _ _).mono ?_
  rintro e w' ⟨rfl, rfl⟩
  rw [show ks (kd 17) = ⟨#[66]⟩ from rfl]
  refine ⟨_, rfl, Ext.refl _, ?_⟩
  simp only [Act.put, List.setIfInBounds_toArray, List.set_cons_zero, List.set_cons_succ]
  iterate 5 (refine plan_take (v := ?_) rfl (by kernel_rfl) ?_ ?_; rotate_left; (focus (intro w' hw'; go_simp; try with_reducible rfl)); simp only [Act.put, List.setIfInBounds_toArray, List.set_cons_zero, List.set_cons_succ])
  refine plan_call rfl (by kernel_rfl) (by go_simp; exact ⟨rfl, rfl⟩) ?_
  refine (size_any _ _).mono ?_
  rintro e w' ⟨rfl, rfl⟩
  rw [show sizeV 17 = 0 from rfl]
  refine ⟨_, rfl, Ext.refl _, ?_⟩
  simp only [Act.put, List.setIfInBounds_toArray, List.set_cons_zero, List.set_cons_succ]
  iterate 7 (refine plan_take (v := ?_) rfl (by kernel_rfl) ?_ ?_; rotate_left; (focus (intro w' hw'; go_simp; try with_reducible rfl)); simp only [Act.put, List.setIfInBounds_toArray, List.set_cons_zero, List.set_cons_succ])
  refine plan_call rfl (by kernel_rfl) (by go_simp; exact ⟨rfl, rfl⟩) ?_
  refine (sign_any _ _).mono ?_
  rintro e w' ⟨rfl, rfl⟩
  rw [show signB 17 = false from rfl]
  refine ⟨_, rfl, Ext.refl _, ?_⟩
  simp only [Act.put, List.setIfInBounds_toArray, List.set_cons_zero, List.set_cons_succ]
  iterate 6 (refine plan_take (v := ?_) rfl (by kernel_rfl) ?_ ?_; rotate_left; (focus (intro w' hw'; go_simp; try with_reducible rfl)); simp only [Act.put, List.setIfInBounds_toArray, List.set_cons_zero, List.set_cons_succ])
  iterate 2 (refine plan_skip rfl (by kernel_rfl) ?_; simp only [Act.put, List.setIfInBounds_toArray, List.set_cons_zero, List.set_cons_succ])
  iterate 4 (refine plan_take (v := ?_) rfl (by kernel_rfl) ?_ ?_; rotate_left; (focus (intro w' hw'; go_simp; try with_reducible rfl)); simp only [Act.put, List.setIfInBounds_toArray, List.set_cons_zero, List.set_cons_succ])
  refine plan_end ?_
  clear r1 r2
  go_wp2
  go_ret
  refine ⟨rfl, ?_⟩
  have b1 := HB1.out
  have b2 := b1.trans (HB2.out.mono b1.size)
  exact (b2.alloc b2.size _).drew
theorem kinds_18 (W : World) : Calls Try.prog 5 #[.int .i64 18] W fun e w' => e = .returned (.bool true) ∧ Below W.heap.size W w' := by
  have hl : (((({ data := #[106, 97, 108] } : ByteArray)[2]'(by decide)).toNat : Nat) : Int) = 108 := rfl
  have t1 : (({ data := #[74] } : ByteArray).toList == [76]) = false := by rw [ByteArray.toList_mk]; rfl
  have t2 : (({ data := #[74] } : ByteArray).toList == [65]) = false := by rw [ByteArray.toList_mk]; rfl
  go_enter Try.func5, Try.ntmps5
  go_wp2_with fail
  refine (first_ok _).mono ?_
  rintro e w1 ⟨rfl, hb1⟩
  have HB1 := Lib.hid hb1
  clear hb1
  go_wp2_with fail
  refine (of_yes 18 _ (by decide)).mono ?_
  rintro e w2 ⟨rfl, hb2⟩
  rw [show nameS 18 = ⟨#[106, 97, 108]⟩ from rfl, show ks (kd ((18 : Nat) : Int)) = ⟨#[74]⟩ from rfl, show sizeV ((18 : Nat) : Int) = 0 from rfl]
  have HB2 := Lib.hid hb2
  clear hb2
  go_wp2_with fail
  have r1 := fun W' (h : Ext (w2.alloc (.cells #[.string ⟨#[106, 97, 108]⟩, .string ⟨#[74]⟩, .int .i64 0] 36)).drew W') => (h.cell (p := ⟨w2.heap.size, 1, none⟩) (by simp)).trans (show _ = some (Value.string ⟨#[74]⟩) from World.cell?_alloc_new _ _ _ _)
  have r2 := fun W' (h : Ext (w2.alloc (.cells #[.string ⟨#[106, 97, 108]⟩, .string ⟨#[74]⟩, .int .i64 0] 36)).drew W') => (h.cell (p := ⟨w2.heap.size, 2, none⟩) (by simp)).trans (show _ = some (Value.int .i64 0) from World.cell?_alloc_new _ _ _ _)
  refine wp_region_plan [(0, false), (2, false), (3, false), (1, true), (4, false), (5, false), (6, false), (8, false), (9, false), (7, true), (10, false), (11, false), (12, false), (13, false), (15, false), (16, false), (17, false), (14, true), (18, false), (19, false), (20, false), (21, false), (22, false), (23, false), (24, false), (25, false), (26, false), (27, false), (28, false), (29, false)] (by kernel_rfl) (by kernel_rfl) (fun _ d _ _ _ h => by cases d <;> exact h) ?_
  iterate 3 (refine plan_take (v := ?_) rfl (by kernel_rfl) ?_ ?_; rotate_left; (focus (intro w' hw'; go_simp; try with_reducible rfl)); simp only [Act.put, List.setIfInBounds_toArray, List.set_cons_zero, List.set_cons_succ])
  refine plan_call rfl (by kernel_rfl) (by go_simp; exact ⟨rfl, rfl⟩) ?_
  refine (kind_any _ _).mono ?_
  rintro e w' ⟨rfl, rfl⟩
  rw [show ks (kd 18) = ⟨#[74]⟩ from rfl]
  refine ⟨_, rfl, Ext.refl _, ?_⟩
  simp only [Act.put, List.setIfInBounds_toArray, List.set_cons_zero, List.set_cons_succ]
  iterate 5 (refine plan_take (v := ?_) rfl (by kernel_rfl) ?_ ?_; rotate_left; (focus (intro w' hw'; go_simp; try with_reducible rfl)); simp only [Act.put, List.setIfInBounds_toArray, List.set_cons_zero, List.set_cons_succ])
  refine plan_call rfl (by kernel_rfl) (by go_simp; exact ⟨rfl, rfl⟩) ?_
  refine (size_any _ _).mono ?_
  rintro e w' ⟨rfl, rfl⟩
  rw [show sizeV 18 = 0 from rfl]
  refine ⟨_, rfl, Ext.refl _, ?_⟩
  simp only [Act.put, List.setIfInBounds_toArray, List.set_cons_zero, List.set_cons_succ]
  iterate 7 (refine plan_take (v := ?_) rfl (by kernel_rfl) ?_ ?_; rotate_left; (focus (intro w' hw'; go_simp; try with_reducible rfl)); simp only [Act.put, List.setIfInBounds_toArray, List.set_cons_zero, List.set_cons_succ])
  refine plan_call rfl (by kernel_rfl) (by go_simp; exact ⟨rfl, rfl⟩) ?_
  refine (sign_any _ _).mono ?_
  rintro e w' ⟨rfl, rfl⟩
  rw [show signB 18 = false from rfl]
  refine ⟨_, rfl, Ext.refl _, ?_⟩
  simp only [Act.put, List.setIfInBounds_toArray, List.set_cons_zero, List.set_cons_succ]
  iterate 6 (refine plan_take (v := ?_) rfl (by kernel_rfl) ?_ ?_; rotate_left; (focus (intro w' hw'; go_simp; try with_reducible rfl)); simp only [Act.put, List.setIfInBounds_toArray, List.set_cons_zero, List.set_cons_succ])
  iterate 2 (refine plan_skip rfl (by kernel_rfl) ?_; simp only [Act.put, List.setIfInBounds_toArray, List.set_cons_zero, List.set_cons_succ])
  iterate 4 (refine plan_take (v := ?_) rfl (by kernel_rfl) ?_ ?_; rotate_left; (focus (intro w' hw'; go_simp; try with_reducible rfl)); simp only [Act.put, List.setIfInBounds_toArray, List.set_cons_zero, List.set_cons_succ])
  refine plan_end ?_
  clear r1 r2
  go_wp2
  go_ret
  refine ⟨rfl, ?_⟩
  have b1 := HB1.out
  have b2 := b1.trans (HB2.out.mono b1.size)
  exact (b2.alloc b2.size _).drew
theorem kinds_19 (W : World) : Calls Try.prog 5 #[.int .i64 19] W fun e w' => e = .returned (.bool true) ∧ Below W.heap.size W w' := by
  have hl : (((({ data := #[108, 98] } : ByteArray)[1]'(by decide)).toNat : Nat) : Int) = 98 := rfl
  have t1 : (({ data := #[76] } : ByteArray).toList == [76]) = true := by rw [ByteArray.toList_mk]; rfl
  have t2 : (({ data := #[76] } : ByteArray).toList == [65]) = false := by rw [ByteArray.toList_mk]; rfl
  go_enter Try.func5, Try.ntmps5
  go_wp2_with fail
  refine (first_ok _).mono ?_
  rintro e w1 ⟨rfl, hb1⟩
  have HB1 := Lib.hid hb1
  clear hb1
  go_wp2_with fail
  refine (of_yes 19 _ (by decide)).mono ?_
  rintro e w2 ⟨rfl, hb2⟩
  rw [show nameS 19 = ⟨#[108, 98]⟩ from rfl, show ks (kd ((19 : Nat) : Int)) = ⟨#[76]⟩ from rfl, show sizeV ((19 : Nat) : Int) = 1 from rfl]
  have HB2 := Lib.hid hb2
  clear hb2
  go_wp2_with fail
  have r1 := fun W' (h : Ext (w2.alloc (.cells #[.string ⟨#[108, 98]⟩, .string ⟨#[76]⟩, .int .i64 1] 36)).drew W') => (h.cell (p := ⟨w2.heap.size, 1, none⟩) (by simp)).trans (show _ = some (Value.string ⟨#[76]⟩) from World.cell?_alloc_new _ _ _ _)
  have r2 := fun W' (h : Ext (w2.alloc (.cells #[.string ⟨#[108, 98]⟩, .string ⟨#[76]⟩, .int .i64 1] 36)).drew W') => (h.cell (p := ⟨w2.heap.size, 2, none⟩) (by simp)).trans (show _ = some (Value.int .i64 1) from World.cell?_alloc_new _ _ _ _)
  refine wp_region_plan [(0, false), (2, false), (3, false), (1, true), (4, false), (5, false), (6, false), (8, false), (9, false), (7, true), (10, false), (11, false), (12, false), (13, false), (15, false), (16, false), (17, false), (14, true), (18, false), (19, false), (20, false), (21, false), (22, false), (23, false), (24, false), (25, false), (26, false), (27, false), (28, false), (29, false)] (by kernel_rfl) (by kernel_rfl) (fun _ d _ _ _ h => by cases d <;> exact h) ?_
  iterate 3 (refine plan_take (v := ?_) rfl (by kernel_rfl) ?_ ?_; rotate_left; (focus (intro w' hw'; go_simp; try with_reducible rfl)); simp only [Act.put, List.setIfInBounds_toArray, List.set_cons_zero, List.set_cons_succ])
  refine plan_call rfl (by kernel_rfl) (by go_simp; exact ⟨rfl, rfl⟩) ?_
  refine (kind_any _ _).mono ?_
  rintro e w' ⟨rfl, rfl⟩
  rw [show ks (kd 19) = ⟨#[76]⟩ from rfl]
  refine ⟨_, rfl, Ext.refl _, ?_⟩
  simp only [Act.put, List.setIfInBounds_toArray, List.set_cons_zero, List.set_cons_succ]
  iterate 5 (refine plan_take (v := ?_) rfl (by kernel_rfl) ?_ ?_; rotate_left; (focus (intro w' hw'; go_simp; try with_reducible rfl)); simp only [Act.put, List.setIfInBounds_toArray, List.set_cons_zero, List.set_cons_succ])
  refine plan_call rfl (by kernel_rfl) (by go_simp; exact ⟨rfl, rfl⟩) ?_
  refine (size_any _ _).mono ?_
  rintro e w' ⟨rfl, rfl⟩
  rw [show sizeV 19 = 1 from rfl]
  refine ⟨_, rfl, Ext.refl _, ?_⟩
  simp only [Act.put, List.setIfInBounds_toArray, List.set_cons_zero, List.set_cons_succ]
  iterate 7 (refine plan_take (v := ?_) rfl (by kernel_rfl) ?_ ?_; rotate_left; (focus (intro w' hw'; go_simp; try with_reducible rfl)); simp only [Act.put, List.setIfInBounds_toArray, List.set_cons_zero, List.set_cons_succ])
  refine plan_call rfl (by kernel_rfl) (by go_simp; exact ⟨rfl, rfl⟩) ?_
  refine (sign_any _ _).mono ?_
  rintro e w' ⟨rfl, rfl⟩
  rw [show signB 19 = true from rfl]
  refine ⟨_, rfl, Ext.refl _, ?_⟩
  simp only [Act.put, List.setIfInBounds_toArray, List.set_cons_zero, List.set_cons_succ]
  iterate 1 (refine plan_take (v := ?_) rfl (by kernel_rfl) ?_ ?_; rotate_left; (focus (intro w' hw'; go_simp; try with_reducible rfl)); simp only [Act.put, List.setIfInBounds_toArray, List.set_cons_zero, List.set_cons_succ])
  iterate 3 (refine plan_skip rfl (by kernel_rfl) ?_; simp only [Act.put, List.setIfInBounds_toArray, List.set_cons_zero, List.set_cons_succ])
  iterate 8 (refine plan_take (v := ?_) rfl (by kernel_rfl) ?_ ?_; rotate_left; (focus (intro w' hw'; go_simp; try with_reducible rfl)); simp only [Act.put, List.setIfInBounds_toArray, List.set_cons_zero, List.set_cons_succ])
  refine plan_end ?_
  clear r1 r2
  go_wp2
  go_ret
  refine ⟨rfl, ?_⟩
  have b1 := HB1.out
  have b2 := b1.trans (HB2.out.mono b1.size)
  exact (b2.alloc b2.size _).drew
theorem kinds_20 (W : World) : Calls Try.prog 5 #[.int .i64 20] W fun e w' => e = .returned (.bool true) ∧ Below W.heap.size W w' := by
  have hl : (((({ data := #[108, 104] } : ByteArray)[1]'(by decide)).toNat : Nat) : Int) = 104 := rfl
  have t1 : (({ data := #[76] } : ByteArray).toList == [76]) = true := by rw [ByteArray.toList_mk]; rfl
  have t2 : (({ data := #[76] } : ByteArray).toList == [65]) = false := by rw [ByteArray.toList_mk]; rfl
  go_enter Try.func5, Try.ntmps5
  go_wp2_with fail
  refine (first_ok _).mono ?_
  rintro e w1 ⟨rfl, hb1⟩
  have HB1 := Lib.hid hb1
  clear hb1
  go_wp2_with fail
  refine (of_yes 20 _ (by decide)).mono ?_
  rintro e w2 ⟨rfl, hb2⟩
  rw [show nameS 20 = ⟨#[108, 104]⟩ from rfl, show ks (kd ((20 : Nat) : Int)) = ⟨#[76]⟩ from rfl, show sizeV ((20 : Nat) : Int) = 2 from rfl]
  have HB2 := Lib.hid hb2
  clear hb2
  go_wp2_with fail
  have r1 := fun W' (h : Ext (w2.alloc (.cells #[.string ⟨#[108, 104]⟩, .string ⟨#[76]⟩, .int .i64 2] 36)).drew W') => (h.cell (p := ⟨w2.heap.size, 1, none⟩) (by simp)).trans (show _ = some (Value.string ⟨#[76]⟩) from World.cell?_alloc_new _ _ _ _)
  have r2 := fun W' (h : Ext (w2.alloc (.cells #[.string ⟨#[108, 104]⟩, .string ⟨#[76]⟩, .int .i64 2] 36)).drew W') => (h.cell (p := ⟨w2.heap.size, 2, none⟩) (by simp)).trans (show _ = some (Value.int .i64 2) from World.cell?_alloc_new _ _ _ _)
  refine wp_region_plan [(0, false), (2, false), (3, false), (1, true), (4, false), (5, false), (6, false), (8, false), (9, false), (7, true), (10, false), (11, false), (12, false), (13, false), (15, false), (16, false), (17, false), (14, true), (18, false), (19, false), (20, false), (21, false), (22, false), (23, false), (24, false), (25, false), (26, false), (27, false), (28, false), (29, false)] (by kernel_rfl) (by kernel_rfl) (fun _ d _ _ _ h => by cases d <;> exact h) ?_
  iterate 3 (refine plan_take (v := ?_) rfl (by kernel_rfl) ?_ ?_; rotate_left; (focus (intro w' hw'; go_simp; try with_reducible rfl)); simp only [Act.put, List.setIfInBounds_toArray, List.set_cons_zero, List.set_cons_succ])
  refine plan_call rfl (by kernel_rfl) (by go_simp; exact ⟨rfl, rfl⟩) ?_
  refine (kind_any _ _).mono ?_
  rintro e w' ⟨rfl, rfl⟩
  rw [show ks (kd 20) = ⟨#[76]⟩ from rfl]
  refine ⟨_, rfl, Ext.refl _, ?_⟩
  simp only [Act.put, List.setIfInBounds_toArray, List.set_cons_zero, List.set_cons_succ]
  iterate 5 (refine plan_take (v := ?_) rfl (by kernel_rfl) ?_ ?_; rotate_left; (focus (intro w' hw'; go_simp; try with_reducible rfl)); simp only [Act.put, List.setIfInBounds_toArray, List.set_cons_zero, List.set_cons_succ])
  refine plan_call rfl (by kernel_rfl) (by go_simp; exact ⟨rfl, rfl⟩) ?_
  refine (size_any _ _).mono ?_
  rintro e w' ⟨rfl, rfl⟩
  rw [show sizeV 20 = 2 from rfl]
  refine ⟨_, rfl, Ext.refl _, ?_⟩
  simp only [Act.put, List.setIfInBounds_toArray, List.set_cons_zero, List.set_cons_succ]
  iterate 7 (refine plan_take (v := ?_) rfl (by kernel_rfl) ?_ ?_; rotate_left; (focus (intro w' hw'; go_simp; try with_reducible rfl)); simp only [Act.put, List.setIfInBounds_toArray, List.set_cons_zero, List.set_cons_succ])
  refine plan_call rfl (by kernel_rfl) (by go_simp; exact ⟨rfl, rfl⟩) ?_
  refine (sign_any _ _).mono ?_
  rintro e w' ⟨rfl, rfl⟩
  rw [show signB 20 = true from rfl]
  refine ⟨_, rfl, Ext.refl _, ?_⟩
  simp only [Act.put, List.setIfInBounds_toArray, List.set_cons_zero, List.set_cons_succ]
  iterate 1 (refine plan_take (v := ?_) rfl (by kernel_rfl) ?_ ?_; rotate_left; (focus (intro w' hw'; go_simp; try with_reducible rfl)); simp only [Act.put, List.setIfInBounds_toArray, List.set_cons_zero, List.set_cons_succ])
  iterate 3 (refine plan_skip rfl (by kernel_rfl) ?_; simp only [Act.put, List.setIfInBounds_toArray, List.set_cons_zero, List.set_cons_succ])
  iterate 8 (refine plan_take (v := ?_) rfl (by kernel_rfl) ?_ ?_; rotate_left; (focus (intro w' hw'; go_simp; try with_reducible rfl)); simp only [Act.put, List.setIfInBounds_toArray, List.set_cons_zero, List.set_cons_succ])
  refine plan_end ?_
  clear r1 r2
  go_wp2
  go_ret
  refine ⟨rfl, ?_⟩
  have b1 := HB1.out
  have b2 := b1.trans (HB2.out.mono b1.size)
  exact (b2.alloc b2.size _).drew
theorem kinds_21 (W : World) : Calls Try.prog 5 #[.int .i64 21] W fun e w' => e = .returned (.bool true) ∧ Below W.heap.size W w' := by
  have hl : (((({ data := #[108, 119] } : ByteArray)[1]'(by decide)).toNat : Nat) : Int) = 119 := rfl
  have t1 : (({ data := #[76] } : ByteArray).toList == [76]) = true := by rw [ByteArray.toList_mk]; rfl
  have t2 : (({ data := #[76] } : ByteArray).toList == [65]) = false := by rw [ByteArray.toList_mk]; rfl
  go_enter Try.func5, Try.ntmps5
  go_wp2_with fail
  refine (first_ok _).mono ?_
  rintro e w1 ⟨rfl, hb1⟩
  have HB1 := Lib.hid hb1
  clear hb1
  go_wp2_with fail
  refine (of_yes 21 _ (by decide)).mono ?_
  rintro e w2 ⟨rfl, hb2⟩
  rw [show nameS 21 = ⟨#[108, 119]⟩ from rfl, show ks (kd ((21 : Nat) : Int)) = ⟨#[76]⟩ from rfl, show sizeV ((21 : Nat) : Int) = 4 from rfl]
  have HB2 := Lib.hid hb2
  clear hb2
  go_wp2_with fail
  have r1 := fun W' (h : Ext (w2.alloc (.cells #[.string ⟨#[108, 119]⟩, .string ⟨#[76]⟩, .int .i64 4] 36)).drew W') => (h.cell (p := ⟨w2.heap.size, 1, none⟩) (by simp)).trans (show _ = some (Value.string ⟨#[76]⟩) from World.cell?_alloc_new _ _ _ _)
  have r2 := fun W' (h : Ext (w2.alloc (.cells #[.string ⟨#[108, 119]⟩, .string ⟨#[76]⟩, .int .i64 4] 36)).drew W') => (h.cell (p := ⟨w2.heap.size, 2, none⟩) (by simp)).trans (show _ = some (Value.int .i64 4) from World.cell?_alloc_new _ _ _ _)
  refine wp_region_plan [(0, false), (2, false), (3, false), (1, true), (4, false), (5, false), (6, false), (8, false), (9, false), (7, true), (10, false), (11, false), (12, false), (13, false), (15, false), (16, false), (17, false), (14, true), (18, false), (19, false), (20, false), (21, false), (22, false), (23, false), (24, false), (25, false), (26, false), (27, false), (28, false), (29, false)] (by kernel_rfl) (by kernel_rfl) (fun _ d _ _ _ h => by cases d <;> exact h) ?_
  iterate 3 (refine plan_take (v := ?_) rfl (by kernel_rfl) ?_ ?_; rotate_left; (focus (intro w' hw'; go_simp; try with_reducible rfl)); simp only [Act.put, List.setIfInBounds_toArray, List.set_cons_zero, List.set_cons_succ])
  refine plan_call rfl (by kernel_rfl) (by go_simp; exact ⟨rfl, rfl⟩) ?_
  refine (kind_any _ _).mono ?_
  rintro e w' ⟨rfl, rfl⟩
  rw [show ks (kd 21) = ⟨#[76]⟩ from rfl]
  refine ⟨_, rfl, Ext.refl _, ?_⟩
  simp only [Act.put, List.setIfInBounds_toArray, List.set_cons_zero, List.set_cons_succ]
  iterate 5 (refine plan_take (v := ?_) rfl (by kernel_rfl) ?_ ?_; rotate_left; (focus (intro w' hw'; go_simp; try with_reducible rfl)); simp only [Act.put, List.setIfInBounds_toArray, List.set_cons_zero, List.set_cons_succ])
  refine plan_call rfl (by kernel_rfl) (by go_simp; exact ⟨rfl, rfl⟩) ?_
  refine (size_any _ _).mono ?_
  rintro e w' ⟨rfl, rfl⟩
  rw [show sizeV 21 = 4 from rfl]
  refine ⟨_, rfl, Ext.refl _, ?_⟩
  simp only [Act.put, List.setIfInBounds_toArray, List.set_cons_zero, List.set_cons_succ]
  iterate 7 (refine plan_take (v := ?_) rfl (by kernel_rfl) ?_ ?_; rotate_left; (focus (intro w' hw'; go_simp; try with_reducible rfl)); simp only [Act.put, List.setIfInBounds_toArray, List.set_cons_zero, List.set_cons_succ])
  refine plan_call rfl (by kernel_rfl) (by go_simp; exact ⟨rfl, rfl⟩) ?_
  refine (sign_any _ _).mono ?_
  rintro e w' ⟨rfl, rfl⟩
  rw [show signB 21 = true from rfl]
  refine ⟨_, rfl, Ext.refl _, ?_⟩
  simp only [Act.put, List.setIfInBounds_toArray, List.set_cons_zero, List.set_cons_succ]
  iterate 1 (refine plan_take (v := ?_) rfl (by kernel_rfl) ?_ ?_; rotate_left; (focus (intro w' hw'; go_simp; try with_reducible rfl)); simp only [Act.put, List.setIfInBounds_toArray, List.set_cons_zero, List.set_cons_succ])
  iterate 3 (refine plan_skip rfl (by kernel_rfl) ?_; simp only [Act.put, List.setIfInBounds_toArray, List.set_cons_zero, List.set_cons_succ])
  iterate 8 (refine plan_take (v := ?_) rfl (by kernel_rfl) ?_ ?_; rotate_left; (focus (intro w' hw'; go_simp; try with_reducible rfl)); simp only [Act.put, List.setIfInBounds_toArray, List.set_cons_zero, List.set_cons_succ])
  refine plan_end ?_
  clear r1 r2
  go_wp2
  go_ret
  refine ⟨rfl, ?_⟩
  have b1 := HB1.out
  have b2 := b1.trans (HB2.out.mono b1.size)
  exact (b2.alloc b2.size _).drew
theorem kinds_22 (W : World) : Calls Try.prog 5 #[.int .i64 22] W fun e w' => e = .returned (.bool true) ∧ Below W.heap.size W w' := by
  have hl : (((({ data := #[108, 100] } : ByteArray)[1]'(by decide)).toNat : Nat) : Int) = 100 := rfl
  have t1 : (({ data := #[76] } : ByteArray).toList == [76]) = true := by rw [ByteArray.toList_mk]; rfl
  have t2 : (({ data := #[76] } : ByteArray).toList == [65]) = false := by rw [ByteArray.toList_mk]; rfl
  go_enter Try.func5, Try.ntmps5
  go_wp2_with fail
  refine (first_ok _).mono ?_
  rintro e w1 ⟨rfl, hb1⟩
  have HB1 := Lib.hid hb1
  clear hb1
  go_wp2_with fail
  refine (of_yes 22 _ (by decide)).mono ?_
  rintro e w2 ⟨rfl, hb2⟩
  rw [show nameS 22 = ⟨#[108, 100]⟩ from rfl, show ks (kd ((22 : Nat) : Int)) = ⟨#[76]⟩ from rfl, show sizeV ((22 : Nat) : Int) = 8 from rfl]
  have HB2 := Lib.hid hb2
  clear hb2
  go_wp2_with fail
  have r1 := fun W' (h : Ext (w2.alloc (.cells #[.string ⟨#[108, 100]⟩, .string ⟨#[76]⟩, .int .i64 8] 36)).drew W') => (h.cell (p := ⟨w2.heap.size, 1, none⟩) (by simp)).trans (show _ = some (Value.string ⟨#[76]⟩) from World.cell?_alloc_new _ _ _ _)
  have r2 := fun W' (h : Ext (w2.alloc (.cells #[.string ⟨#[108, 100]⟩, .string ⟨#[76]⟩, .int .i64 8] 36)).drew W') => (h.cell (p := ⟨w2.heap.size, 2, none⟩) (by simp)).trans (show _ = some (Value.int .i64 8) from World.cell?_alloc_new _ _ _ _)
  refine wp_region_plan [(0, false), (2, false), (3, false), (1, true), (4, false), (5, false), (6, false), (8, false), (9, false), (7, true), (10, false), (11, false), (12, false), (13, false), (15, false), (16, false), (17, false), (14, true), (18, false), (19, false), (20, false), (21, false), (22, false), (23, false), (24, false), (25, false), (26, false), (27, false), (28, false), (29, false)] (by kernel_rfl) (by kernel_rfl) (fun _ d _ _ _ h => by cases d <;> exact h) ?_
  iterate 3 (refine plan_take (v := ?_) rfl (by kernel_rfl) ?_ ?_; rotate_left; (focus (intro w' hw'; go_simp; try with_reducible rfl)); simp only [Act.put, List.setIfInBounds_toArray, List.set_cons_zero, List.set_cons_succ])
  refine plan_call rfl (by kernel_rfl) (by go_simp; exact ⟨rfl, rfl⟩) ?_
  refine (kind_any _ _).mono ?_
  rintro e w' ⟨rfl, rfl⟩
  rw [show ks (kd 22) = ⟨#[76]⟩ from rfl]
  refine ⟨_, rfl, Ext.refl _, ?_⟩
  simp only [Act.put, List.setIfInBounds_toArray, List.set_cons_zero, List.set_cons_succ]
  iterate 5 (refine plan_take (v := ?_) rfl (by kernel_rfl) ?_ ?_; rotate_left; (focus (intro w' hw'; go_simp; try with_reducible rfl)); simp only [Act.put, List.setIfInBounds_toArray, List.set_cons_zero, List.set_cons_succ])
  refine plan_call rfl (by kernel_rfl) (by go_simp; exact ⟨rfl, rfl⟩) ?_
  refine (size_any _ _).mono ?_
  rintro e w' ⟨rfl, rfl⟩
  rw [show sizeV 22 = 8 from rfl]
  refine ⟨_, rfl, Ext.refl _, ?_⟩
  simp only [Act.put, List.setIfInBounds_toArray, List.set_cons_zero, List.set_cons_succ]
  iterate 7 (refine plan_take (v := ?_) rfl (by kernel_rfl) ?_ ?_; rotate_left; (focus (intro w' hw'; go_simp; try with_reducible rfl)); simp only [Act.put, List.setIfInBounds_toArray, List.set_cons_zero, List.set_cons_succ])
  refine plan_call rfl (by kernel_rfl) (by go_simp; exact ⟨rfl, rfl⟩) ?_
  refine (sign_any _ _).mono ?_
  rintro e w' ⟨rfl, rfl⟩
  rw [show signB 22 = true from rfl]
  refine ⟨_, rfl, Ext.refl _, ?_⟩
  simp only [Act.put, List.setIfInBounds_toArray, List.set_cons_zero, List.set_cons_succ]
  iterate 1 (refine plan_take (v := ?_) rfl (by kernel_rfl) ?_ ?_; rotate_left; (focus (intro w' hw'; go_simp; try with_reducible rfl)); simp only [Act.put, List.setIfInBounds_toArray, List.set_cons_zero, List.set_cons_succ])
  iterate 3 (refine plan_skip rfl (by kernel_rfl) ?_; simp only [Act.put, List.setIfInBounds_toArray, List.set_cons_zero, List.set_cons_succ])
  iterate 8 (refine plan_take (v := ?_) rfl (by kernel_rfl) ?_ ?_; rotate_left; (focus (intro w' hw'; go_simp; try with_reducible rfl)); simp only [Act.put, List.setIfInBounds_toArray, List.set_cons_zero, List.set_cons_succ])
  refine plan_end ?_
  clear r1 r2
  go_wp2
  go_ret
  refine ⟨rfl, ?_⟩
  have b1 := HB1.out
  have b2 := b1.trans (HB2.out.mono b1.size)
  exact (b2.alloc b2.size _).drew
theorem kinds_23 (W : World) : Calls Try.prog 5 #[.int .i64 23] W fun e w' => e = .returned (.bool true) ∧ Below W.heap.size W w' := by
  have hl : (((({ data := #[108, 98, 117] } : ByteArray)[2]'(by decide)).toNat : Nat) : Int) = 117 := rfl
  have t1 : (({ data := #[76] } : ByteArray).toList == [76]) = true := by rw [ByteArray.toList_mk]; rfl
  have t2 : (({ data := #[76] } : ByteArray).toList == [65]) = false := by rw [ByteArray.toList_mk]; rfl
  go_enter Try.func5, Try.ntmps5
  go_wp2_with fail
  refine (first_ok _).mono ?_
  rintro e w1 ⟨rfl, hb1⟩
  have HB1 := Lib.hid hb1
  clear hb1
  go_wp2_with fail
  refine (of_yes 23 _ (by decide)).mono ?_
  rintro e w2 ⟨rfl, hb2⟩
  rw [show nameS 23 = ⟨#[108, 98, 117]⟩ from rfl, show ks (kd ((23 : Nat) : Int)) = ⟨#[76]⟩ from rfl, show sizeV ((23 : Nat) : Int) = 1 from rfl]
  have HB2 := Lib.hid hb2
  clear hb2
  go_wp2_with fail
  have r1 := fun W' (h : Ext (w2.alloc (.cells #[.string ⟨#[108, 98, 117]⟩, .string ⟨#[76]⟩, .int .i64 1] 36)).drew W') => (h.cell (p := ⟨w2.heap.size, 1, none⟩) (by simp)).trans (show _ = some (Value.string ⟨#[76]⟩) from World.cell?_alloc_new _ _ _ _)
  have r2 := fun W' (h : Ext (w2.alloc (.cells #[.string ⟨#[108, 98, 117]⟩, .string ⟨#[76]⟩, .int .i64 1] 36)).drew W') => (h.cell (p := ⟨w2.heap.size, 2, none⟩) (by simp)).trans (show _ = some (Value.int .i64 1) from World.cell?_alloc_new _ _ _ _)
  refine wp_region_plan [(0, false), (2, false), (3, false), (1, true), (4, false), (5, false), (6, false), (8, false), (9, false), (7, true), (10, false), (11, false), (12, false), (13, false), (15, false), (16, false), (17, false), (14, true), (18, false), (19, false), (20, false), (21, false), (22, false), (23, false), (24, false), (25, false), (26, false), (27, false), (28, false), (29, false)] (by kernel_rfl) (by kernel_rfl) (fun _ d _ _ _ h => by cases d <;> exact h) ?_
  iterate 3 (refine plan_take (v := ?_) rfl (by kernel_rfl) ?_ ?_; rotate_left; (focus (intro w' hw'; go_simp; try with_reducible rfl)); simp only [Act.put, List.setIfInBounds_toArray, List.set_cons_zero, List.set_cons_succ])
  refine plan_call rfl (by kernel_rfl) (by go_simp; exact ⟨rfl, rfl⟩) ?_
  refine (kind_any _ _).mono ?_
  rintro e w' ⟨rfl, rfl⟩
  rw [show ks (kd 23) = ⟨#[76]⟩ from rfl]
  refine ⟨_, rfl, Ext.refl _, ?_⟩
  simp only [Act.put, List.setIfInBounds_toArray, List.set_cons_zero, List.set_cons_succ]
  iterate 5 (refine plan_take (v := ?_) rfl (by kernel_rfl) ?_ ?_; rotate_left; (focus (intro w' hw'; go_simp; try with_reducible rfl)); simp only [Act.put, List.setIfInBounds_toArray, List.set_cons_zero, List.set_cons_succ])
  refine plan_call rfl (by kernel_rfl) (by go_simp; exact ⟨rfl, rfl⟩) ?_
  refine (size_any _ _).mono ?_
  rintro e w' ⟨rfl, rfl⟩
  rw [show sizeV 23 = 1 from rfl]
  refine ⟨_, rfl, Ext.refl _, ?_⟩
  simp only [Act.put, List.setIfInBounds_toArray, List.set_cons_zero, List.set_cons_succ]
  iterate 7 (refine plan_take (v := ?_) rfl (by kernel_rfl) ?_ ?_; rotate_left; (focus (intro w' hw'; go_simp; try with_reducible rfl)); simp only [Act.put, List.setIfInBounds_toArray, List.set_cons_zero, List.set_cons_succ])
  refine plan_call rfl (by kernel_rfl) (by go_simp; exact ⟨rfl, rfl⟩) ?_
  refine (sign_any _ _).mono ?_
  rintro e w' ⟨rfl, rfl⟩
  rw [show signB 23 = false from rfl]
  refine ⟨_, rfl, Ext.refl _, ?_⟩
  simp only [Act.put, List.setIfInBounds_toArray, List.set_cons_zero, List.set_cons_succ]
  iterate 1 (refine plan_take (v := ?_) rfl (by kernel_rfl) ?_ ?_; rotate_left; (focus (intro w' hw'; go_simp; try with_reducible rfl)); simp only [Act.put, List.setIfInBounds_toArray, List.set_cons_zero, List.set_cons_succ])
  iterate 3 (refine plan_skip rfl (by kernel_rfl) ?_; simp only [Act.put, List.setIfInBounds_toArray, List.set_cons_zero, List.set_cons_succ])
  iterate 8 (refine plan_take (v := ?_) rfl (by kernel_rfl) ?_ ?_; rotate_left; (focus (intro w' hw'; go_simp; try with_reducible rfl)); simp only [Act.put, List.setIfInBounds_toArray, List.set_cons_zero, List.set_cons_succ])
  refine plan_end ?_
  clear r1 r2
  go_wp2
  go_ret
  refine ⟨rfl, ?_⟩
  have b1 := HB1.out
  have b2 := b1.trans (HB2.out.mono b1.size)
  exact (b2.alloc b2.size _).drew
end Law
end Go.Proofs.Ytcmaneeoblmmmaa
