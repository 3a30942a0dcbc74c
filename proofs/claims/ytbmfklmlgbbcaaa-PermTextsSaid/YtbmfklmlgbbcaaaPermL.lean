/- PermTexts. -/
import Derived.Test.YtbmfklmlgbbcaaaPermH
namespace Go.Proofs.Ytbmfklmlgbbcaaa
open Go.RowKit

theorem textB_size (v r w x u g a d : Bool) : (textB v r w x u g a d).size = 8 := by unfold textB; rw [strOfNums_size]; rfl
theorem textB_data (v r w x u g a d : Bool) : (textB v r w x u g a d).data.toList = (textL v r w x u g a d).map fun n => UInt8.ofNat n.toNat := by unfold textB; rw [strOfNums_data]
theorem byteAt_text (v r w x u g a d : Bool) (j : Nat) : byteAt (textB v r w x u g a d) j = (((textL v r w x u g a d).map fun n => UInt8.ofNat n.toNat).getD j 0).toNat := by
  unfold byteAt
  rw [← textB_data, Array.getD_eq_getD_getElem?, List.getD_eq_getElem?_getD, Array.getElem?_toList]
theorem flag_text (v r w x u g a d : Bool) (j : Nat) (hj : j < 8) : flagAt (textB v r w x u g a d) j = flagsF v r w x u g a d j ∧ okAt (textB v r w x u g a d) j = true := by
  unfold okAt flagAt
  rw [byteAt_text]
  rcases (show j = 0 ∨ j = 1 ∨ j = 2 ∨ j = 3 ∨ j = 4 ∨ j = 5 ∨ j = 6 ∨ j = 7 by omega) with rfl | rfl | rfl | rfl | rfl | rfl | rfl | rfl
  · cases v <;> exact ⟨rfl, rfl⟩
  · cases r <;> exact ⟨rfl, rfl⟩
  · cases w <;> exact ⟨rfl, rfl⟩
  · cases x <;> exact ⟨rfl, rfl⟩
  · cases u <;> exact ⟨rfl, rfl⟩
  · cases g <;> exact ⟨rfl, rfl⟩
  · cases a <;> exact ⟨rfl, rfl⟩
  · cases d <;> exact ⟨rfl, rfl⟩
theorem flagsV_text (v r w x u g a d : Bool) : flagsV (textB v r w x u g a d) = .tuple #[.agg #[.bool v, .bool r, .bool w, .bool x, .bool u, .bool g, .bool a, .bool d, .int .i64 0, .int .u64 0], .bool true] := by
  have h := flag_text v r w x u g a d
  have e : flagsOK (textB v r w x u g a d) = true := by simp [flagsOK, (h 0 (by decide)).2, (h 1 (by decide)).2, (h 2 (by decide)).2, (h 3 (by decide)).2, (h 4 (by decide)).2, (h 5 (by decide)).2, (h 6 (by decide)).2, (h 7 (by decide)).2]
  rw [flagsV, if_pos e, (h 0 (by decide)).1, (h 1 (by decide)).1, (h 2 (by decide)).1, (h 3 (by decide)).1, (h 4 (by decide)).1, (h 5 (by decide)).1, (h 6 (by decide)).1, (h 7 (by decide)).1]
  rfl
theorem flagsOK_all (s : ByteArray) (h : flagsOK s = true) (j : Nat) (hj : j < 8) : okAt s j = true := by
  simp only [flagsOK, Bool.and_eq_true] at h
  rcases (show j = 0 ∨ j = 1 ∨ j = 2 ∨ j = 3 ∨ j = 4 ∨ j = 5 ∨ j = 6 ∨ j = 7 by omega) with rfl | rfl | rfl | rfl | rfl | rfl | rfl | rfl <;> simp [h]
theorem text_flags (s : ByteArray) (hs : s.size = 8) (h : flagsOK s = true) : textB (flagAt s 0) (flagAt s 1) (flagAt s 2) (flagAt s 3) (flagAt s 4) (flagAt s 5) (flagAt s 6) (flagAt s 7) = s := by
  have hl : s.data.toList.length = 8 := by simpa using hs
  have key : ∀ j, j < 8 → ∀ c, c = letterAt j → UInt8.ofNat ((chN (flagAt s j) c : Nat) : Int).toNat = s.data.toList.getD j 0 := by
    intro j hj c hc
    have ho := flagsOK_all s h j hj
    have hb : byteAt s j = (s.data.toList.getD j 0).toNat := by
      unfold byteAt
      rw [Array.getD_eq_getD_getElem?, List.getD_eq_getElem?_getD, Array.getElem?_toList]
    have hq : chN (flagAt s j) c = byteAt s j := by
      unfold chN
      subst hc
      cases hf : flagAt s j
      · have : byteAt s j = 45 := by simpa [okAt, hf] using ho
        rw [this]; rfl
      · have : byteAt s j = letterAt j := by simpa [flagAt] using hf
        rw [this]; rfl
    rw [Int.toNat_natCast, hq, hb, UInt8.ofNat_toNat]
  apply ByteArray.ext
  apply Array.toList_inj.1
  rw [textB_data]
  match hd : s.data.toList, hl with
  | [b0, b1, b2, b3, b4, b5, b6, b7], _ =>
    rw [hd] at key
    have k0 := key 0 (by decide) 118 rfl
    have k1 := key 1 (by decide) 114 rfl
    have k2 := key 2 (by decide) 119 rfl
    have k3 := key 3 (by decide) 120 rfl
    have k4 := key 4 (by decide) 117 rfl
    have k5 := key 5 (by decide) 103 rfl
    have k6 := key 6 (by decide) 97 rfl
    have k7 := key 7 (by decide) 100 rfl
    simp only [textL, List.map_cons, List.map_nil, k0, k1, k2, k3, k4, k5, k6, k7]
    rfl
theorem flagsOK_none : flagsOK (textB false false false false false false false false) = true := by
  have h := fun j hj => (flag_text false false false false false false false false j hj).2
  simp [flagsOK, h 0 (by decide), h 1 (by decide), h 2 (by decide), h 3 (by decide), h 4 (by decide), h 5 (by decide), h 6 (by decide), h 7 (by decide)]
theorem bytes_eq {a b : ByteArray} (h : a.toList = b.toList) : a = b := by
  apply ByteArray.ext
  apply Array.toList_inj.1
  have ha : a.toList = a.data.toList := by cases a; rw [ByteArray.toList_mk]
  have hb : b.toList = b.data.toList := by cases b; rw [ByteArray.toList_mk]
  rw [← ha, ← hb, h]
namespace Law
set_option maxHeartbeats 8000000 in
theorem texts_long (v r w x u g a d : Bool) (rsw ppn : Int) (s : ByteArray) (W : World) (hm : s.size ≤ maxLen) (hl : 50 < s.size) :
    Calls Try.prog 4 #[.agg #[.bool v, .bool r, .bool w, .bool x, .bool u, .bool g, .bool a, .bool d, .int .i64 rsw, .int .u64 ppn], .string s] W fun e w' => e = .returned (.bool true) ∧ Below W.heap.size W w' := by
  have hgt : decide ((50 : Int) < (s.size : Int)) = true := by simp; omega
  clear hl
  unfold maxLen at hm
  go_enter Try.func4, Try.ntmps4
  go_wp2_with fail
  refine (first_ok _).mono ?_
  rintro e w1 ⟨rfl, hb⟩
  have hp := Blk.below (Blk.new _ _ _) hb (by simp)
  have b1 := ((Below.refl _ W).alloc (Nat.le_refl _) _).trans (hb.mono (by simp))
  obtain ⟨p0, p1, p2, p3, p4, p5, p6, p7, p8, p9⟩ := pte_cells hp
  have HP := Lib.hid hp
  have HB := Lib.hid b1
  clear hb hp b1
  clear p0 p1 p2 p3 p4 p5 p6 p7 p8 p9
  go_wp2
  go_ret
  exact ⟨rfl, HB.out⟩
set_option maxHeartbeats 8000000 in
theorem texts_size (v r w x u g a d : Bool) (rsw ppn : Int) (s : ByteArray) (W : World) (hm : s.size ≤ maxLen) (hl : s.size ≤ 50) (h8 : s.size ≠ 8) :
    Calls Try.prog 4 #[.agg #[.bool v, .bool r, .bool w, .bool x, .bool u, .bool g, .bool a, .bool d, .int .i64 rsw, .int .u64 ppn], .string s] W fun e w' => e = .returned (.bool true) ∧ Below W.heap.size W w' := by
  have hgt : decide ((50 : Int) < (s.size : Int)) = false := by simp; omega
  have n8 : ((s.size : Int) != 8) = true := by rw [bne_iff_ne]; omega
  have H8 := Lib.hid h8
  clear hl h8
  unfold maxLen at hm
  go_enter Try.func4, Try.ntmps4
  go_wp2_with fail
  refine (first_ok _).mono ?_
  rintro e w1 ⟨rfl, hb⟩
  have hp := Blk.below (Blk.new _ _ _) hb (by simp)
  have b1 := ((Below.refl _ W).alloc (Nat.le_refl _) _).trans (hb.mono (by simp))
  obtain ⟨p0, p1, p2, p3, p4, p5, p6, p7, p8, p9⟩ := pte_cells hp
  have HP := Lib.hid hp
  have HB := Lib.hid b1
  clear hb hp b1
  go_wp2_with fail
  clear p0 p1 p2 p3 p4 p5 p6 p7 p8 p9
  refine (text_any _ _ _ _ _ _ _ _ _ _ _).mono ?_
  rintro e w2 ⟨rfl, hb⟩
  have hp := Blk.below HP.out hb HP.out.lt
  have b1 := HB.out.trans (hb.mono HB.out.size)
  clear HP HB
  have HP := Lib.hid hp
  have HB := Lib.hid b1
  clear hb hp b1
  go_wp2_with fail
  refine (flags_any _ _ (textB_size _ _ _ _ _ _ _ _)).mono ?_
  rintro e w3 ⟨rfl, hb⟩
  rw [flagsV_text]
  have hp := Blk.below HP.out hb HP.out.lt
  have b1 := HB.out.trans (hb.mono HB.out.size)
  have lp : W.heap.size < w3.heap.size := hp.lt
  obtain ⟨p0, p1, p2, p3, p4, p5, p6, p7, p8, p9⟩ := pte_cells hp
  have f8 := hp.frozen 8
  have f9 := hp.frozen 9
  clear HP HB
  have HP := Lib.hid hp
  have HB := Lib.hid b1
  clear hb hp b1
  go_wp2_with fail
  clear p0 p1 p2 p3 p4 p5 p6 p7 p8 p9 f8 f9
  refine wp_world (fun W3 hW3 => ?_)
  have hp : Blk W3 W.heap.size 24 #[.bool v, .bool r, .bool w, .bool x, .bool u, .bool g, .bool a, .bool d, .int .i64 0, .int .u64 0] := by
    rw [hW3]
    exact ((HP.out.set_ 8 _).set_ 9 _).alloc _
  have hx : Blk W3 w3.heap.size 24 #[.bool v, .bool r, .bool w, .bool x, .bool u, .bool g, .bool a, .bool d, .int .i64 0, .int .u64 0] := by
    rw [hW3]
    exact Blk.new_at _ _ _ (by simp)
  have b1 : Below W.heap.size W W3 := by
    rw [hW3]
    have h2 := (HB.out.setCell (p := ⟨W.heap.size, 8, none⟩) (by simp) (.int .i64 0)).setCell (p := ⟨W.heap.size, 9, none⟩) (by simp) (.int .u64 0)
    exact h2.alloc h2.size _
  clear hW3 HP HB lp
  have lp : W.heap.size < W3.heap.size := hp.lt
  have lx : w3.heap.size < W3.heap.size := hx.lt
  obtain ⟨p0, p1, p2, p3, p4, p5, p6, p7, p8, p9⟩ := pte_cells hp
  have HP := Lib.hid hp
  have HX := Lib.hid hx
  have HB := Lib.hid b1
  clear hp hx b1
  have ps0 := fun W' (h : Ext W3.drew W') => (h.cell (p := ⟨W.heap.size, 0, none⟩) lp).trans p0
  have ps1 := fun W' (h : Ext W3.drew W') => (h.cell (p := ⟨W.heap.size, 1, none⟩) lp).trans p1
  have ps2 := fun W' (h : Ext W3.drew W') => (h.cell (p := ⟨W.heap.size, 2, none⟩) lp).trans p2
  have ps3 := fun W' (h : Ext W3.drew W') => (h.cell (p := ⟨W.heap.size, 3, none⟩) lp).trans p3
  have ps4 := fun W' (h : Ext W3.drew W') => (h.cell (p := ⟨W.heap.size, 4, none⟩) lp).trans p4
  have ps5 := fun W' (h : Ext W3.drew W') => (h.cell (p := ⟨W.heap.size, 5, none⟩) lp).trans p5
  have ps6 := fun W' (h : Ext W3.drew W') => (h.cell (p := ⟨W.heap.size, 6, none⟩) lp).trans p6
  have ps7 := fun W' (h : Ext W3.drew W') => (h.cell (p := ⟨W.heap.size, 7, none⟩) lp).trans p7
  have ps8 := fun W' (h : Ext W3.drew W') => (h.cell (p := ⟨W.heap.size, 8, none⟩) lp).trans p8
  have ps9 := fun W' (h : Ext W3.drew W') => (h.cell (p := ⟨W.heap.size, 9, none⟩) lp).trans p9
  clear p0 p1 p2 p3 p4 p5 p6 p7 p8 p9
  refine wp_region_plan [(0, false), (2, false), (1, true), (3, true), (4, false), (5, false), (6, false), (7, false), (8, false), (9, false), (10, false), (11, false), (12, false), (13, false)] (by kernel_rfl) (by kernel_rfl) (fun _ d _ _ _ h => by cases d <;> exact h) ?_
  iterate 2 (refine plan_take (v := ?_) rfl (by kernel_rfl) ?_ ?_; rotate_left; (focus (intro w' hw'; go_simp; try with_reducible rfl)); simp only [Act.put, List.setIfInBounds_toArray, List.set_cons_zero, List.set_cons_succ])
  clear ps0 ps1 ps2 ps3 ps4 ps5 ps6 ps7 ps8 ps9
  refine plan_call rfl (by kernel_rfl) (by go_simp; exact ⟨rfl, rfl⟩) ?_
  refine (text_any _ _ _ _ _ _ _ _ _ _ _).mono ?_
  rintro e w4 ⟨rfl, hb4⟩
  have HB4 := Lib.hid hb4
  refine ⟨_, rfl, hb4, ?_⟩
  simp only [Act.put, List.setIfInBounds_toArray, List.set_cons_zero, List.set_cons_succ]
  clear hb4
  refine plan_call rfl (by kernel_rfl) (by go_simp; exact ⟨rfl, rfl⟩) ?_
  refine (rtext_any _ _ _ _ _ _ _ _ _ _ _).mono ?_
  rintro e w5 ⟨rfl, hb5⟩
  have HB5 := Lib.hid hb5
  refine ⟨_, rfl, hb5, ?_⟩
  simp only [Act.put, List.setIfInBounds_toArray, List.set_cons_zero, List.set_cons_succ]
  clear hb5
  have hg : Below W3.drew.heap.size W3.drew w5 := HB4.out.trans (HB5.out.mono HB4.out.size)
  have hp := Blk.below HP.out.drew hg lp
  have hx := Blk.below HX.out.drew hg lx
  have b1 := HB.out.drew.trans (hg.mono HB.out.size)
  clear HP HX HB HB4 HB5 hg lp
  have lp : W.heap.size < w5.heap.size := hp.lt
  have lx5 : w3.heap.size < w5.heap.size := hx.lt
  obtain ⟨p0, p1, p2, p3, p4, p5, p6, p7, p8, p9⟩ := pte_cells hp
  obtain ⟨x0, x1, x2, x3, x4, x5, x6, x7, x8, x9⟩ := pte_cells hx
  have HB := Lib.hid b1
  clear hp hx b1
  have ps0 := fun W' (h : Ext w5 W') => (h.cell (p := ⟨W.heap.size, 0, none⟩) lp).trans p0
  have xs0 := fun W' (h : Ext w5 W') => (h.cell (p := ⟨w3.heap.size, 0, none⟩) lx5).trans x0
  have ps1 := fun W' (h : Ext w5 W') => (h.cell (p := ⟨W.heap.size, 1, none⟩) lp).trans p1
  have xs1 := fun W' (h : Ext w5 W') => (h.cell (p := ⟨w3.heap.size, 1, none⟩) lx5).trans x1
  have ps2 := fun W' (h : Ext w5 W') => (h.cell (p := ⟨W.heap.size, 2, none⟩) lp).trans p2
  have xs2 := fun W' (h : Ext w5 W') => (h.cell (p := ⟨w3.heap.size, 2, none⟩) lx5).trans x2
  have ps3 := fun W' (h : Ext w5 W') => (h.cell (p := ⟨W.heap.size, 3, none⟩) lp).trans p3
  have xs3 := fun W' (h : Ext w5 W') => (h.cell (p := ⟨w3.heap.size, 3, none⟩) lx5).trans x3
  have ps4 := fun W' (h : Ext w5 W') => (h.cell (p := ⟨W.heap.size, 4, none⟩) lp).trans p4
  have xs4 := fun W' (h : Ext w5 W') => (h.cell (p := ⟨w3.heap.size, 4, none⟩) lx5).trans x4
  have ps5 := fun W' (h : Ext w5 W') => (h.cell (p := ⟨W.heap.size, 5, none⟩) lp).trans p5
  have xs5 := fun W' (h : Ext w5 W') => (h.cell (p := ⟨w3.heap.size, 5, none⟩) lx5).trans x5
  have ps6 := fun W' (h : Ext w5 W') => (h.cell (p := ⟨W.heap.size, 6, none⟩) lp).trans p6
  have xs6 := fun W' (h : Ext w5 W') => (h.cell (p := ⟨w3.heap.size, 6, none⟩) lx5).trans x6
  have ps7 := fun W' (h : Ext w5 W') => (h.cell (p := ⟨W.heap.size, 7, none⟩) lp).trans p7
  have xs7 := fun W' (h : Ext w5 W') => (h.cell (p := ⟨w3.heap.size, 7, none⟩) lx5).trans x7
  have ps8 := fun W' (h : Ext w5 W') => (h.cell (p := ⟨W.heap.size, 8, none⟩) lp).trans p8
  have xs8 := fun W' (h : Ext w5 W') => (h.cell (p := ⟨w3.heap.size, 8, none⟩) lx5).trans x8
  have ps9 := fun W' (h : Ext w5 W') => (h.cell (p := ⟨W.heap.size, 9, none⟩) lp).trans p9
  have xs9 := fun W' (h : Ext w5 W') => (h.cell (p := ⟨w3.heap.size, 9, none⟩) lx5).trans x9
  iterate 10 (refine plan_take (v := ?_) rfl (by kernel_rfl) ?_ ?_; rotate_left; (focus (intro w' hw'; go_simp; try with_reducible rfl)); simp only [Act.put, List.setIfInBounds_toArray, List.set_cons_zero, List.set_cons_succ])
  clear ps0 ps1 ps2 ps3 ps4 ps5 ps6 ps7 ps8 ps9 xs0 xs1 xs2 xs3 xs4 xs5 xs6 xs7 xs8 xs9 p0 p1 p2 p3 p4 p5 p6 p7 p8 p9 x0 x1 x2 x3 x4 x5 x6 x7 x8 x9
  refine plan_end ?_
  go_wp2_with fail
  refine (flags_size _ _ H8.out).mono ?_
  rintro e w6 ⟨rfl, hb⟩
  have b1 := HB.out.trans (hb.mono HB.out.size)
  have HB1 := Lib.hid b1
  clear hb b1
  go_wp2
  go_ret
  exact ⟨rfl, HB1.out.alloc HB1.out.size _⟩
set_option maxHeartbeats 8000000 in
theorem texts_no (v r w x u g a d : Bool) (rsw ppn : Int) (s : ByteArray) (W : World) (hm : s.size ≤ maxLen) (h8 : s.size = 8) (hno : flagsOK s = false) :
    Calls Try.prog 4 #[.agg #[.bool v, .bool r, .bool w, .bool x, .bool u, .bool g, .bool a, .bool d, .int .i64 rsw, .int .u64 ppn], .string s] W fun e w' => e = .returned (.bool true) ∧ Below W.heap.size W w' := by
  have H8 := Lib.hid h8
  have HNO := Lib.hid hno
  have hgt : decide ((50 : Int) < (s.size : Int)) = false := by simp; omega
  have n8 : ((s.size : Int) != 8) = false := by rw [h8]; rfl
  have hne : (s.toList == (textB false false false false false false false false).toList) = false := by
    rw [beq_eq_false_iff_ne]
    intro h
    rw [bytes_eq h, flagsOK_none] at hno
    cases hno
  clear h8 hno
  unfold maxLen at hm
  go_enter Try.func4, Try.ntmps4
  go_wp2_with fail
  refine (first_ok _).mono ?_
  rintro e w1 ⟨rfl, hb⟩
  have hp := Blk.below (Blk.new _ _ _) hb (by simp)
  have b1 := ((Below.refl _ W).alloc (Nat.le_refl _) _).trans (hb.mono (by simp))
  obtain ⟨p0, p1, p2, p3, p4, p5, p6, p7, p8, p9⟩ := pte_cells hp
  have HP := Lib.hid hp
  have HB := Lib.hid b1
  clear hb hp b1
  go_wp2_with fail
  clear p0 p1 p2 p3 p4 p5 p6 p7 p8 p9
  refine (text_any _ _ _ _ _ _ _ _ _ _ _).mono ?_
  rintro e w2 ⟨rfl, hb⟩
  have hp := Blk.below HP.out hb HP.out.lt
  have b1 := HB.out.trans (hb.mono HB.out.size)
  clear HP HB
  have HP := Lib.hid hp
  have HB := Lib.hid b1
  clear hb hp b1
  go_wp2_with fail
  refine (flags_any _ _ (textB_size _ _ _ _ _ _ _ _)).mono ?_
  rintro e w3 ⟨rfl, hb⟩
  rw [flagsV_text]
  have hp := Blk.below HP.out hb HP.out.lt
  have b1 := HB.out.trans (hb.mono HB.out.size)
  have lp : W.heap.size < w3.heap.size := hp.lt
  obtain ⟨p0, p1, p2, p3, p4, p5, p6, p7, p8, p9⟩ := pte_cells hp
  have f8 := hp.frozen 8
  have f9 := hp.frozen 9
  clear HP HB
  have HP := Lib.hid hp
  have HB := Lib.hid b1
  clear hb hp b1
  go_wp2_with fail
  clear p0 p1 p2 p3 p4 p5 p6 p7 p8 p9 f8 f9
  refine wp_world (fun W3 hW3 => ?_)
  have hp : Blk W3 W.heap.size 24 #[.bool v, .bool r, .bool w, .bool x, .bool u, .bool g, .bool a, .bool d, .int .i64 0, .int .u64 0] := by
    rw [hW3]
    exact ((HP.out.set_ 8 _).set_ 9 _).alloc _
  have hx : Blk W3 w3.heap.size 24 #[.bool v, .bool r, .bool w, .bool x, .bool u, .bool g, .bool a, .bool d, .int .i64 0, .int .u64 0] := by
    rw [hW3]
    exact Blk.new_at _ _ _ (by simp)
  have b1 : Below W.heap.size W W3 := by
    rw [hW3]
    have h2 := (HB.out.setCell (p := ⟨W.heap.size, 8, none⟩) (by simp) (.int .i64 0)).setCell (p := ⟨W.heap.size, 9, none⟩) (by simp) (.int .u64 0)
    exact h2.alloc h2.size _
  clear hW3 HP HB lp
  have lp : W.heap.size < W3.heap.size := hp.lt
  have lx : w3.heap.size < W3.heap.size := hx.lt
  obtain ⟨p0, p1, p2, p3, p4, p5, p6, p7, p8, p9⟩ := pte_cells hp
  have HP := Lib.hid hp
  have HX := Lib.hid hx
  have HB := Lib.hid b1
  clear hp hx b1
  have ps0 := fun W' (h : Ext W3.drew W') => (h.cell (p := ⟨W.heap.size, 0, none⟩) lp).trans p0
  have ps1 := fun W' (h : Ext W3.drew W') => (h.cell (p := ⟨W.heap.size, 1, none⟩) lp).trans p1
  have ps2 := fun W' (h : Ext W3.drew W') => (h.cell (p := ⟨W.heap.size, 2, none⟩) lp).trans p2
  have ps3 := fun W' (h : Ext W3.drew W') => (h.cell (p := ⟨W.heap.size, 3, none⟩) lp).trans p3
  have ps4 := fun W' (h : Ext W3.drew W') => (h.cell (p := ⟨W.heap.size, 4, none⟩) lp).trans p4
  have ps5 := fun W' (h : Ext W3.drew W') => (h.cell (p := ⟨W.heap.size, 5, none⟩) lp).trans p5
  have ps6 := fun W' (h : Ext W3.drew W') => (h.cell (p := ⟨W.heap.size, 6, none⟩) lp).trans p6
  have ps7 := fun W' (h : Ext W3.drew W') => (h.cell (p := ⟨W.heap.size, 7, none⟩) lp).trans p7
  have ps8 := fun W' (h : Ext W3.drew W') => (h.cell (p := ⟨W.heap.size, 8, none⟩) lp).trans p8
  have ps9 := fun W' (h : Ext W3.drew W') => (h.cell (p := ⟨W.heap.size, 9, none⟩) lp).trans p9
  clear p0 p1 p2 p3 p4 p5 p6 p7 p8 p9
  refine wp_region_plan [(0, false), (2, false), (1, true), (3, true), (4, false), (5, false), (6, false), (7, false), (8, false), (9, false), (10, false), (11, false), (12, false), (13, false)] (by kernel_rfl) (by kernel_rfl) (fun _ d _ _ _ h => by cases d <;> exact h) ?_
  iterate 2 (refine plan_take (v := ?_) rfl (by kernel_rfl) ?_ ?_; rotate_left; (focus (intro w' hw'; go_simp; try with_reducible rfl)); simp only [Act.put, List.setIfInBounds_toArray, List.set_cons_zero, List.set_cons_succ])
  clear ps0 ps1 ps2 ps3 ps4 ps5 ps6 ps7 ps8 ps9
  refine plan_call rfl (by kernel_rfl) (by go_simp; exact ⟨rfl, rfl⟩) ?_
  refine (text_any _ _ _ _ _ _ _ _ _ _ _).mono ?_
  rintro e w4 ⟨rfl, hb4⟩
  have HB4 := Lib.hid hb4
  refine ⟨_, rfl, hb4, ?_⟩
  simp only [Act.put, List.setIfInBounds_toArray, List.set_cons_zero, List.set_cons_succ]
  clear hb4
  refine plan_call rfl (by kernel_rfl) (by go_simp; exact ⟨rfl, rfl⟩) ?_
  refine (rtext_any _ _ _ _ _ _ _ _ _ _ _).mono ?_
  rintro e w5 ⟨rfl, hb5⟩
  have HB5 := Lib.hid hb5
  refine ⟨_, rfl, hb5, ?_⟩
  simp only [Act.put, List.setIfInBounds_toArray, List.set_cons_zero, List.set_cons_succ]
  clear hb5
  have hg : Below W3.drew.heap.size W3.drew w5 := HB4.out.trans (HB5.out.mono HB4.out.size)
  have hp := Blk.below HP.out.drew hg lp
  have hx := Blk.below HX.out.drew hg lx
  have b1 := HB.out.drew.trans (hg.mono HB.out.size)
  clear HP HX HB HB4 HB5 hg lp
  have lp : W.heap.size < w5.heap.size := hp.lt
  have lx5 : w3.heap.size < w5.heap.size := hx.lt
  obtain ⟨p0, p1, p2, p3, p4, p5, p6, p7, p8, p9⟩ := pte_cells hp
  obtain ⟨x0, x1, x2, x3, x4, x5, x6, x7, x8, x9⟩ := pte_cells hx
  have HB := Lib.hid b1
  clear hp hx b1
  have ps0 := fun W' (h : Ext w5 W') => (h.cell (p := ⟨W.heap.size, 0, none⟩) lp).trans p0
  have xs0 := fun W' (h : Ext w5 W') => (h.cell (p := ⟨w3.heap.size, 0, none⟩) lx5).trans x0
  have ps1 := fun W' (h : Ext w5 W') => (h.cell (p := ⟨W.heap.size, 1, none⟩) lp).trans p1
  have xs1 := fun W' (h : Ext w5 W') => (h.cell (p := ⟨w3.heap.size, 1, none⟩) lx5).trans x1
  have ps2 := fun W' (h : Ext w5 W') => (h.cell (p := ⟨W.heap.size, 2, none⟩) lp).trans p2
  have xs2 := fun W' (h : Ext w5 W') => (h.cell (p := ⟨w3.heap.size, 2, none⟩) lx5).trans x2
  have ps3 := fun W' (h : Ext w5 W') => (h.cell (p := ⟨W.heap.size, 3, none⟩) lp).trans p3
  have xs3 := fun W' (h : Ext w5 W') => (h.cell (p := ⟨w3.heap.size, 3, none⟩) lx5).trans x3
  have ps4 := fun W' (h : Ext w5 W') => (h.cell (p := ⟨W.heap.size, 4, none⟩) lp).trans p4
  have xs4 := fun W' (h : Ext w5 W') => (h.cell (p := ⟨w3.heap.size, 4, none⟩) lx5).trans x4
  have ps5 := fun W' (h : Ext w5 W') => (h.cell (p := ⟨W.heap.size, 5, none⟩) lp).trans p5
  have xs5 := fun W' (h : Ext w5 W') => (h.cell (p := ⟨w3.heap.size, 5, none⟩) lx5).trans x5
  have ps6 := fun W' (h : Ext w5 W') => (h.cell (p := ⟨W.heap.size, 6, none⟩) lp).trans p6
  have xs6 := fun W' (h : Ext w5 W') => (h.cell (p := ⟨w3.heap.size, 6, none⟩) lx5).trans x6
  have ps7 := fun W' (h : Ext w5 W') => (h.cell (p := ⟨W.heap.size, 7, none⟩) lp).trans p7
  have xs7 := fun W' (h : Ext w5 W') => (h.cell (p := ⟨w3.heap.size, 7, none⟩) lx5).trans x7
  have ps8 := fun W' (h : Ext w5 W') => (h.cell (p := ⟨W.heap.size, 8, none⟩) lp).trans p8
  have xs8 := fun W' (h : Ext w5 W') => (h.cell (p := ⟨w3.heap.size, 8, none⟩) lx5).trans x8
  have ps9 := fun W' (h : Ext w5 W') => (h.cell (p := ⟨W.heap.size, 9, none⟩) lp).trans p9
  have xs9 := fun W' (h : Ext w5 W') => (h.cell (p := ⟨w3.heap.size, 9, none⟩) lx5).trans x9
  iterate 10 (refine plan_take (v := ?_) rfl (by kernel_rfl) ?_ ?_; rotate_left; (focus (intro w' hw'; go_simp; try with_reducible rfl)); simp only [Act.put, List.setIfInBounds_toArray, List.set_cons_zero, List.set_cons_succ])
  clear ps0 ps1 ps2 ps3 ps4 ps5 ps6 ps7 ps8 ps9 xs0 xs1 xs2 xs3 xs4 xs5 xs6 xs7 xs8 xs9 p0 p1 p2 p3 p4 p5 p6 p7 p8 p9 x0 x1 x2 x3 x4 x5 x6 x7 x8 x9
  refine plan_end ?_
  go_wp2_with fail
  refine (flags_any _ _ H8.out).mono ?_
  rintro e w6 ⟨rfl, hb⟩
  rw [flagsV, HNO.out, if_neg (by decide)]
  have b1 := HB.out.trans (hb.mono HB.out.size)
  have HB1 := Lib.hid b1
  clear hb b1
  go_wp2_with fail
  refine (rtext_any _ _ _ _ _ _ _ _ _ _ _).mono ?_
  rintro e w7 ⟨rfl, hb⟩
  go_wp2
  go_ret
  exact ⟨rfl, (HB1.out.alloc HB1.out.size _).trans (hb.mono (by have := HB1.out.size; simp; omega))⟩
set_option maxHeartbeats 8000000 in
theorem texts_yes (v r w x u g a d : Bool) (rsw ppn : Int) (s : ByteArray) (W : World) (hm : s.size ≤ maxLen) (h8 : s.size = 8) (hok : flagsOK s = true) :
    Calls Try.prog 4 #[.agg #[.bool v, .bool r, .bool w, .bool x, .bool u, .bool g, .bool a, .bool d, .int .i64 rsw, .int .u64 ppn], .string s] W fun e w' => e = .returned (.bool true) ∧ Below W.heap.size W w' := by
  have H8 := Lib.hid h8
  have HOK := Lib.hid hok
  have hgt : decide ((50 : Int) < (s.size : Int)) = false := by simp; omega
  clear h8 hok
  unfold maxLen at hm
  go_enter Try.func4, Try.ntmps4
  go_wp2_with fail
  refine (first_ok _).mono ?_
  rintro e w1 ⟨rfl, hb⟩
  have hp := Blk.below (Blk.new _ _ _) hb (by simp)
  have b1 := ((Below.refl _ W).alloc (Nat.le_refl _) _).trans (hb.mono (by simp))
  obtain ⟨p0, p1, p2, p3, p4, p5, p6, p7, p8, p9⟩ := pte_cells hp
  have HP := Lib.hid hp
  have HB := Lib.hid b1
  clear hb hp b1
  go_wp2_with fail
  clear p0 p1 p2 p3 p4 p5 p6 p7 p8 p9
  refine (text_any _ _ _ _ _ _ _ _ _ _ _).mono ?_
  rintro e w2 ⟨rfl, hb⟩
  have hp := Blk.below HP.out hb HP.out.lt
  have b1 := HB.out.trans (hb.mono HB.out.size)
  clear HP HB
  have HP := Lib.hid hp
  have HB := Lib.hid b1
  clear hb hp b1
  go_wp2_with fail
  refine (flags_any _ _ (textB_size _ _ _ _ _ _ _ _)).mono ?_
  rintro e w3 ⟨rfl, hb⟩
  rw [flagsV_text]
  have hp := Blk.below HP.out hb HP.out.lt
  have b1 := HB.out.trans (hb.mono HB.out.size)
  have lp : W.heap.size < w3.heap.size := hp.lt
  obtain ⟨p0, p1, p2, p3, p4, p5, p6, p7, p8, p9⟩ := pte_cells hp
  have f8 := hp.frozen 8
  have f9 := hp.frozen 9
  clear HP HB
  have HP := Lib.hid hp
  have HB := Lib.hid b1
  clear hb hp b1
  go_wp2_with fail
  clear p0 p1 p2 p3 p4 p5 p6 p7 p8 p9 f8 f9
  refine wp_world (fun W3 hW3 => ?_)
  have hp : Blk W3 W.heap.size 24 #[.bool v, .bool r, .bool w, .bool x, .bool u, .bool g, .bool a, .bool d, .int .i64 0, .int .u64 0] := by
    rw [hW3]
    exact ((HP.out.set_ 8 _).set_ 9 _).alloc _
  have hx : Blk W3 w3.heap.size 24 #[.bool v, .bool r, .bool w, .bool x, .bool u, .bool g, .bool a, .bool d, .int .i64 0, .int .u64 0] := by
    rw [hW3]
    exact Blk.new_at _ _ _ (by simp)
  have b1 : Below W.heap.size W W3 := by
    rw [hW3]
    have h2 := (HB.out.setCell (p := ⟨W.heap.size, 8, none⟩) (by simp) (.int .i64 0)).setCell (p := ⟨W.heap.size, 9, none⟩) (by simp) (.int .u64 0)
    exact h2.alloc h2.size _
  clear hW3 HP HB lp
  have lp : W.heap.size < W3.heap.size := hp.lt
  have lx : w3.heap.size < W3.heap.size := hx.lt
  obtain ⟨p0, p1, p2, p3, p4, p5, p6, p7, p8, p9⟩ := pte_cells hp
  have HP := Lib.hid hp
  have HX := Lib.hid hx
  have HB := Lib.hid b1
  clear hp hx b1
  have ps0 := fun W' (h : Ext W3.drew W') => (h.cell (p := ⟨W.heap.size, 0, none⟩) lp).trans p0
  have ps1 := fun W' (h : Ext W3.drew W') => (h.cell (p := ⟨W.heap.size, 1, none⟩) lp).trans p1
  have ps2 := fun W' (h : Ext W3.drew W') => (h.cell (p := ⟨W.heap.size, 2, none⟩) lp).trans p2
  have ps3 := fun W' (h : Ext W3.drew W') => (h.cell (p := ⟨W.heap.size, 3, none⟩) lp).trans p3
  have ps4 := fun W' (h : Ext W3.drew W') => (h.cell (p := ⟨W.heap.size, 4, none⟩) lp).trans p4
  have ps5 := fun W' (h : Ext W3.drew W') => (h.cell (p := ⟨W.heap.size, 5, none⟩) lp).trans p5
  have ps6 := fun W' (h : Ext W3.drew W') => (h.cell (p := ⟨W.heap.size, 6, none⟩) lp).trans p6
  have ps7 := fun W' (h : Ext W3.drew W') => (h.cell (p := ⟨W.heap.size, 7, none⟩) lp).trans p7
  have ps8 := fun W' (h : Ext W3.drew W') => (h.cell (p := ⟨W.heap.size, 8, none⟩) lp).trans p8
  have ps9 := fun W' (h : Ext W3.drew W') => (h.cell (p := ⟨W.heap.size, 9, none⟩) lp).trans p9
  clear p0 p1 p2 p3 p4 p5 p6 p7 p8 p9
  refine wp_region_plan [(0, false), (2, false), (1, true), (3, true), (4, false), (5, false), (6, false), (7, false), (8, false), (9, false), (10, false), (11, false), (12, false), (13, false)] (by kernel_rfl) (by kernel_rfl) (fun _ d _ _ _ h => by cases d <;> exact h) ?_
  iterate 2 (refine plan_take (v := ?_) rfl (by kernel_rfl) ?_ ?_; rotate_left; (focus (intro w' hw'; go_simp; try with_reducible rfl)); simp only [Act.put, List.setIfInBounds_toArray, List.set_cons_zero, List.set_cons_succ])
  clear ps0 ps1 ps2 ps3 ps4 ps5 ps6 ps7 ps8 ps9
  refine plan_call rfl (by kernel_rfl) (by go_simp; exact ⟨rfl, rfl⟩) ?_
  refine (text_any _ _ _ _ _ _ _ _ _ _ _).mono ?_
  rintro e w4 ⟨rfl, hb4⟩
  have HB4 := Lib.hid hb4
  refine ⟨_, rfl, hb4, ?_⟩
  simp only [Act.put, List.setIfInBounds_toArray, List.set_cons_zero, List.set_cons_succ]
  clear hb4
  refine plan_call rfl (by kernel_rfl) (by go_simp; exact ⟨rfl, rfl⟩) ?_
  refine (rtext_any _ _ _ _ _ _ _ _ _ _ _).mono ?_
  rintro e w5 ⟨rfl, hb5⟩
  have HB5 := Lib.hid hb5
  refine ⟨_, rfl, hb5, ?_⟩
  simp only [Act.put, List.setIfInBounds_toArray, List.set_cons_zero, List.set_cons_succ]
  clear hb5
  have hg : Below W3.drew.heap.size W3.drew w5 := HB4.out.trans (HB5.out.mono HB4.out.size)
  have hp := Blk.below HP.out.drew hg lp
  have hx := Blk.below HX.out.drew hg lx
  have b1 := HB.out.drew.trans (hg.mono HB.out.size)
  clear HP HX HB HB4 HB5 hg lp
  have lp : W.heap.size < w5.heap.size := hp.lt
  have lx5 : w3.heap.size < w5.heap.size := hx.lt
  obtain ⟨p0, p1, p2, p3, p4, p5, p6, p7, p8, p9⟩ := pte_cells hp
  obtain ⟨x0, x1, x2, x3, x4, x5, x6, x7, x8, x9⟩ := pte_cells hx
  have HB := Lib.hid b1
  clear hp hx b1
  have ps0 := fun W' (h : Ext w5 W') => (h.cell (p := ⟨W.heap.size, 0, none⟩) lp).trans p0
  have xs0 := fun W' (h : Ext w5 W') => (h.cell (p := ⟨w3.heap.size, 0, none⟩) lx5).trans x0
  have ps1 := fun W' (h : Ext w5 W') => (h.cell (p := ⟨W.heap.size, 1, none⟩) lp).trans p1
  have xs1 := fun W' (h : Ext w5 W') => (h.cell (p := ⟨w3.heap.size, 1, none⟩) lx5).trans x1
  have ps2 := fun W' (h : Ext w5 W') => (h.cell (p := ⟨W.heap.size, 2, none⟩) lp).trans p2
  have xs2 := fun W' (h : Ext w5 W') => (h.cell (p := ⟨w3.heap.size, 2, none⟩) lx5).trans x2
  have ps3 := fun W' (h : Ext w5 W') => (h.cell (p := ⟨W.heap.size, 3, none⟩) lp).trans p3
  have xs3 := fun W' (h : Ext w5 W') => (h.cell (p := ⟨w3.heap.size, 3, none⟩) lx5).trans x3
  have ps4 := fun W' (h : Ext w5 W') => (h.cell (p := ⟨W.heap.size, 4, none⟩) lp).trans p4
  have xs4 := fun W' (h : Ext w5 W') => (h.cell (p := ⟨w3.heap.size, 4, none⟩) lx5).trans x4
  have ps5 := fun W' (h : Ext w5 W') => (h.cell (p := ⟨W.heap.size, 5, none⟩) lp).trans p5
  have xs5 := fun W' (h : Ext w5 W') => (h.cell (p := ⟨w3.heap.size, 5, none⟩) lx5).trans x5
  have ps6 := fun W' (h : Ext w5 W') => (h.cell (p := ⟨W.heap.size, 6, none⟩) lp).trans p6
  have xs6 := fun W' (h : Ext w5 W') => (h.cell (p := ⟨w3.heap.size, 6, none⟩) lx5).trans x6
  have ps7 := fun W' (h : Ext w5 W') => (h.cell (p := ⟨W.heap.size, 7, none⟩) lp).trans p7
  have xs7 := fun W' (h : Ext w5 W') => (h.cell (p := ⟨w3.heap.size, 7, none⟩) lx5).trans x7
  have ps8 := fun W' (h : Ext w5 W') => (h.cell (p := ⟨W.heap.size, 8, none⟩) lp).trans p8
  have xs8 := fun W' (h : Ext w5 W') => (h.cell (p := ⟨w3.heap.size, 8, none⟩) lx5).trans x8
  have ps9 := fun W' (h : Ext w5 W') => (h.cell (p := ⟨W.heap.size, 9, none⟩) lp).trans p9
  have xs9 := fun W' (h : Ext w5 W') => (h.cell (p := ⟨w3.heap.size, 9, none⟩) lx5).trans x9
  iterate 10 (refine plan_take (v := ?_) rfl (by kernel_rfl) ?_ ?_; rotate_left; (focus (intro w' hw'; go_simp; try with_reducible rfl)); simp only [Act.put, List.setIfInBounds_toArray, List.set_cons_zero, List.set_cons_succ])
  clear ps0 ps1 ps2 ps3 ps4 ps5 ps6 ps7 ps8 ps9 xs0 xs1 xs2 xs3 xs4 xs5 xs6 xs7 xs8 xs9 p0 p1 p2 p3 p4 p5 p6 p7 p8 p9 x0 x1 x2 x3 x4 x5 x6 x7 x8 x9
  refine plan_end ?_
  go_wp2_with fail
  refine (flags_any _ _ H8.out).mono ?_
  rintro e w6 ⟨rfl, hb⟩
  rw [flagsV, HOK.out, if_pos rfl]
  have b1 := HB.out.trans (hb.mono HB.out.size)
  have HB1 := Lib.hid b1
  clear hb b1
  go_wp2_with fail
  refine (rtext_any _ _ _ _ _ _ _ _ _ _ _).mono ?_
  rintro e w7 ⟨rfl, hb⟩
  rw [text_flags s H8.out HOK.out]
  have c8 : w7.cell? ⟨w6.heap.size, 8, none⟩ = some (.int .i64 0) := by rw [hb.cell (by simp), World.cell?_alloc_new]; rfl
  have c9 : w7.cell? ⟨w6.heap.size, 9, none⟩ = some (.int .u64 0) := by rw [hb.cell (by simp), World.cell?_alloc_new]; rfl
  have HB2 := Lib.hid hb
  clear hb
  go_wp2
  go_ret
  exact ⟨by simp, (HB1.out.alloc HB1.out.size _).trans (HB2.out.mono (by have := HB1.out.size; simp; omega))⟩
theorem PermTexts (v r w x u g a d : Bool) (rsw ppn : Int) (s : ByteArray) (W : World) (_ : (Lit.int .i64 rsw).wf = true) (_ : (Lit.int .u64 ppn).wf = true) (hm : s.size ≤ maxLen) :
    Calls Try.prog 4 #[.agg #[.bool v, .bool r, .bool w, .bool x, .bool u, .bool g, .bool a, .bool d, .int .i64 rsw, .int .u64 ppn], .string s] W fun e w' => e = .returned (.bool true) ∧ Below W.heap.size W w' := by
  by_cases h1 : 50 < s.size
  · exact texts_long _ _ _ _ _ _ _ _ _ _ s W hm h1
  · by_cases h8 : s.size = 8
    · cases hf : flagsOK s
      · exact texts_no _ _ _ _ _ _ _ _ _ _ s W hm h8 hf
      · exact texts_yes _ _ _ _ _ _ _ _ _ _ s W hm h8 hf
    · exact texts_size _ _ _ _ _ _ _ _ _ _ s W hm (by omega) h8
end Law
end Go.Proofs.Ytbmfklmlgbbcaaa
