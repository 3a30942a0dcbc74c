/- MsgTexts: texts of messages, and which ones are the same. Condition: the library's tables lie as their own text lays them. -/
import Derived.Test.YtkkgigdgbiklmaaDoorMsgX
import Derived.Test.YtkkgigdgbiklmaaDoorMsgV
import Derived.Test.YtkkgigdgbiklmaaDoorMsgF
import Derived.Test.YtkkgigdgbiklmaaDoorMsgL
import Derived.Test.YtkkgigdgbiklmaaDoorORows
namespace Go.Proofs.YtkkgigdgbiklmaaDoor
open Go.RowKit Go.ChangeShapes

theorem u16_of_wf {x : Int} (h : (Lit.int .u16 x).wf = true) : 0 ≤ x ∧ x < 65536 := by
  simp [Lit.wf, IntKind.min, IntKind.max, IntKind.signed, IntKind.bits] at h
  omega
theorem row_cap' {k : IntKind} {w : World} {a : Option Addr} {len cap : Nat} {zs : List Int} (h : IsRow k w a len cap zs) : len ≤ cap := by
  rcases h with ⟨_, rfl, rfl, _⟩ | ⟨x, _, h1, _⟩
  · exact Nat.le_refl _
  · omega
set_option maxRecDepth 100000 in
set_option maxHeartbeats 4000000 in
theorem texts_any (k p nd h : Int) (s : Nat) (A : Option Addr) (D : List Nat) (m c : Nat) (k' p' nd' h' : Int) (s' : Nat) (B : Option Addr) (D' : List Nat) (m' c' : Nat) (W : World) (hA : Bts W A D) (hm : D.length = m) (hB : Bts W B D') (hm' : D'.length = m')
    (hs : s < 65536) (hp : -9223372036854775808 ≤ p ∧ p < 9223372036854775808) (hnd : -9223372036854775808 ≤ nd ∧ nd < 9223372036854775808) (hh : -9223372036854775808 ≤ h ∧ h < 9223372036854775808) (hF : FW W) (hm2 : m ≤ 5000) (hm2' : m' ≤ 5000) :
    Calls Tryd.prog 5 #[msV k p nd h s A m c, msV k' p' nd' h' s' B m' c'] W fun e w' => e = .returned (.bool true) ∧ Below W.heap.size W w' := by
  have HE : Hid (Below W.heap.size W ((W.alloc (.cells #[.int .i64 k, .int .i64 p, .int .i64 nd, .int .i64 h, .int .u16 (s : Int), .slice A m c] 27)).alloc (.cells #[.int .i64 k', .int .i64 p', .int .i64 nd', .int .i64 h', .int .u16 (s' : Int), .slice B m' c'] 27))) := Lib.hid (((Below.refl _ W).alloc (Nat.le_refl _) _).alloc (by rw [World.size_alloc]; omega) _)
  have HX : Hid (Blk ((W.alloc (.cells #[.int .i64 k, .int .i64 p, .int .i64 nd, .int .i64 h, .int .u16 (s : Int), .slice A m c] 27)).alloc (.cells #[.int .i64 k', .int .i64 p', .int .i64 nd', .int .i64 h', .int .u16 (s' : Int), .slice B m' c'] 27)) W.heap.size 27 #[.int .i64 k, .int .i64 p, .int .i64 nd, .int .i64 h, .int .u16 (s : Int), .slice A m c]) := Lib.hid ((Blkf.new_at _ _ _ _ rfl).alloc _)
  have HY : Hid (Blk ((W.alloc (.cells #[.int .i64 k, .int .i64 p, .int .i64 nd, .int .i64 h, .int .u16 (s : Int), .slice A m c] 27)).alloc (.cells #[.int .i64 k', .int .i64 p', .int .i64 nd', .int .i64 h', .int .u16 (s' : Int), .slice B m' c'] 27)) (W.heap.size + 1) 27 #[.int .i64 k', .int .i64 p', .int .i64 nd', .int .i64 h', .int .u16 (s' : Int), .slice B m' c']) := Lib.hid (Blkf.new_at _ _ _ _ (by rw [World.size_alloc]))
  have HA := Lib.hid (bts_below hA HE.out)
  have HB := Lib.hid (bts_below hB HE.out)
  have HF := Lib.hid (hF.below HE.out)
  have HM := Lib.hid hm
  have HM' := Lib.hid hm'
  have HP := Lib.hid hp
  have HND := Lib.hid hnd
  have HH := Lib.hid hh
  have HS := Lib.hid hs
  have HSM : Hid (sameM k p nd h s D k p nd h s D = true) := Lib.hid (by simp [sameM])
  unfold msV
  clear hA hB hm hm' hp hnd hh hF
  go_enter Tryd.func5, Tryd.ntmps5
  go_wp2_with fail
  refine (first15 _ HF.out).mono ?_
  rintro e w1 ⟨rfl, hb1⟩
  have E1 := Lib.hid (HE.out.trans (hb1.mono HE.out.size))
  have X1 := Lib.hid (HX.out.below hb1 HX.out.lt)
  have Y1 := Lib.hid (HY.out.below hb1 HY.out.lt)
  have A1 := Lib.hid (bts_below HA.out hb1)
  have B1 := Lib.hid (bts_below HB.out hb1)
  have F1 := Lib.hid (HF.out.below hb1)
  clear hb1 HE HX HY HA HB HF
  obtain ⟨ma, hma⟩ : ∃ x, x = W.heap.size := ⟨_, rfl⟩
  have HMA := Lib.hid hma
  rw [← hma] at X1 Y1
  have x5 := X1.out.cell 5
  have y5 := Y1.out.cell 5
  have xl := X1.out.lt
  have yl := Y1.out.lt
  simp only [List.getElem?_toArray, List.getElem?_cons_zero, List.getElem?_cons_succ] at x5 y5
  rw [← hma]
  clear hma
  have hmax : max (m : Int) (m' : Int) ≤ 5000 := by omega
  go_wp2_with fail
  clear hmax x5 y5 xl yl
  have E2 := Lib.hid E1.out.drew
  have X2 := Lib.hid X1.out.drew
  have Y2 := Lib.hid Y1.out.drew
  have A2 := Lib.hid (bts_below A1.out ((Below.refl _ w1).drew))
  have B2 := Lib.hid (bts_below B1.out ((Below.refl _ w1).drew))
  have F2 : Hid (FW w1.drew) := Lib.hid (F1.out.below ((Below.refl _ w1).drew))
  clear E1 X1 Y1 A1 B1 F1
  have xl := X2.out.lt
  have x0 := fun (W' : World) (h : Ext w1.drew W') => (h.cell (p := ⟨ma, 0, none⟩) xl).trans (X2.out.cell 0)
  have x1 := fun (W' : World) (h : Ext w1.drew W') => (h.cell (p := ⟨ma, 1, none⟩) xl).trans (X2.out.cell 1)
  have x2 := fun (W' : World) (h : Ext w1.drew W') => (h.cell (p := ⟨ma, 2, none⟩) xl).trans (X2.out.cell 2)
  have x3 := fun (W' : World) (h : Ext w1.drew W') => (h.cell (p := ⟨ma, 3, none⟩) xl).trans (X2.out.cell 3)
  have x4 := fun (W' : World) (h : Ext w1.drew W') => (h.cell (p := ⟨ma, 4, none⟩) xl).trans (X2.out.cell 4)
  have x5 := fun (W' : World) (h : Ext w1.drew W') => (h.cell (p := ⟨ma, 5, none⟩) xl).trans (X2.out.cell 5)
  simp only [List.getElem?_toArray, List.getElem?_cons_zero, List.getElem?_cons_succ] at x0 x1 x2 x3 x4 x5
  refine wp_region_plan [(0, false), (2, false), (1, true), (3, true), (4, false), (5, false), (6, false), (7, false), (9, false), (10, false), (8, true), (11, true), (12, false), (13, false), (14, false), (15, false), (16, false), (17, true), (18, false), (19, false)] (by kernel_rfl) (by kernel_rfl) (fun _ d _ _ _ h => by cases d <;> exact h) ?_
  iterate 2 (refine plan_take (v := ?_) rfl (by kernel_rfl) ?_ ?_; rotate_left; (focus (intro w' hw'; try go_simp; try with_reducible rfl)); simp only [Act.put, List.setIfInBounds_toArray, List.set_cons_zero, List.set_cons_succ])
  clear x0 x1 x2 x3 x4 x5 xl
  refine plan_call rfl (by kernel_rfl) (by go_simp; exact ⟨rfl, rfl⟩) ?_
  refine (mtext_any k p nd h s A m c _ HS.out (by omega) HP.out HND.out HH.out F2.out).mono ?_
  rintro e w3 ⟨rfl, hb⟩
  refine ⟨_, rfl, hb, ?_⟩
  simp only [Act.put, List.setIfInBounds_toArray, List.set_cons_zero, List.set_cons_succ]
  have E3 := Lib.hid (E2.out.trans (hb.mono E2.out.size))
  have X3 := Lib.hid (X2.out.below hb X2.out.lt)
  have Y3 := Lib.hid (Y2.out.below hb Y2.out.lt)
  have A3 := Lib.hid (bts_below A2.out hb)
  have B3 := Lib.hid (bts_below B2.out hb)
  clear hb E2 X2 Y2 A2 B2 F2
  refine plan_call rfl (by kernel_rfl) (by go_simp; exact ⟨rfl, rfl⟩) ?_
  refine (rmtext_any k p nd h s A m c _ HS.out (by omega) HP.out HND.out HH.out).mono ?_
  rintro e w4 ⟨rfl, hb⟩
  refine ⟨_, rfl, hb, ?_⟩
  simp only [Act.put, List.setIfInBounds_toArray, List.set_cons_zero, List.set_cons_succ]
  have E4 := Lib.hid (E3.out.trans (hb.mono E3.out.size))
  have X4 := Lib.hid (X3.out.below hb X3.out.lt)
  have Y4 := Lib.hid (Y3.out.below hb Y3.out.lt)
  have A4 := Lib.hid (bts_below A3.out hb)
  have B4 := Lib.hid (bts_below B3.out hb)
  clear hb E3 X3 Y3 A3 B3
  generalize strL (textM k p nd h s m) = T at *
  have xl := X4.out.lt
  have yl := Y4.out.lt
  have x0 := fun (W' : World) (h : Ext w4 W') => (h.cell (p := ⟨ma, 0, none⟩) xl).trans (X4.out.cell 0)
  have x1 := fun (W' : World) (h : Ext w4 W') => (h.cell (p := ⟨ma, 1, none⟩) xl).trans (X4.out.cell 1)
  have x2 := fun (W' : World) (h : Ext w4 W') => (h.cell (p := ⟨ma, 2, none⟩) xl).trans (X4.out.cell 2)
  have x3 := fun (W' : World) (h : Ext w4 W') => (h.cell (p := ⟨ma, 3, none⟩) xl).trans (X4.out.cell 3)
  have x4 := fun (W' : World) (h : Ext w4 W') => (h.cell (p := ⟨ma, 4, none⟩) xl).trans (X4.out.cell 4)
  have x5 := fun (W' : World) (h : Ext w4 W') => (h.cell (p := ⟨ma, 5, none⟩) xl).trans (X4.out.cell 5)
  have y0 := fun (W' : World) (h : Ext w4 W') => (h.cell (p := ⟨ma + 1, 0, none⟩) yl).trans (Y4.out.cell 0)
  have y1 := fun (W' : World) (h : Ext w4 W') => (h.cell (p := ⟨ma + 1, 1, none⟩) yl).trans (Y4.out.cell 1)
  have y2 := fun (W' : World) (h : Ext w4 W') => (h.cell (p := ⟨ma + 1, 2, none⟩) yl).trans (Y4.out.cell 2)
  have y3 := fun (W' : World) (h : Ext w4 W') => (h.cell (p := ⟨ma + 1, 3, none⟩) yl).trans (Y4.out.cell 3)
  have y4 := fun (W' : World) (h : Ext w4 W') => (h.cell (p := ⟨ma + 1, 4, none⟩) yl).trans (Y4.out.cell 4)
  have y5 := fun (W' : World) (h : Ext w4 W') => (h.cell (p := ⟨ma + 1, 5, none⟩) yl).trans (Y4.out.cell 5)
  simp only [List.getElem?_toArray, List.getElem?_cons_zero, List.getElem?_cons_succ] at x0 x1 x2 x3 x4 x5 y0 y1 y2 y3 y4 y5
  iterate 6 (refine plan_take (v := ?_) rfl (by kernel_rfl) ?_ ?_; rotate_left; (focus (intro w' hw'; try go_simp; try with_reducible rfl)); simp only [Act.put, List.setIfInBounds_toArray, List.set_cons_zero, List.set_cons_succ])
  clear x0 x1 x2 x3 x4 x5 y0 y1 y2 y3 y4 y5 xl yl
  refine plan_call rfl (by kernel_rfl) (by go_simp; exact ⟨rfl, rfl⟩) ?_
  refine (same_any k p nd h s A D m c k' p' nd' h' s' B D' m' c' _ A4.out HM.out B4.out HM'.out).mono ?_
  rintro e w5 ⟨rfl, hb⟩
  refine ⟨_, rfl, hb, ?_⟩
  simp only [Act.put, List.setIfInBounds_toArray, List.set_cons_zero, List.set_cons_succ]
  have E5 := Lib.hid (E4.out.trans (hb.mono E4.out.size))
  have X5 := Lib.hid (X4.out.below hb X4.out.lt)
  have A5 := Lib.hid (bts_below A4.out hb)
  have B5 := Lib.hid (bts_below B4.out hb)
  clear hb E4 X4 Y4 A4 B4
  refine plan_call rfl (by kernel_rfl) (by go_simp; exact ⟨rfl, rfl⟩) ?_
  refine (rsame_any k p nd h s A D m c k' p' nd' h' s' B D' m' c' _ A5.out HM.out B5.out HM'.out).mono ?_
  rintro e w6 ⟨rfl, hb⟩
  refine ⟨_, rfl, hb, ?_⟩
  simp only [Act.put, List.setIfInBounds_toArray, List.set_cons_zero, List.set_cons_succ]
  have E6 := Lib.hid (E5.out.trans (hb.mono E5.out.size))
  have X6 := Lib.hid (X5.out.below hb X5.out.lt)
  have A6 := Lib.hid (bts_below A5.out hb)
  clear hb E5 X5 A5 B5
  generalize sameM k p nd h s D k' p' nd' h' s' D' = b at *
  have xl := X6.out.lt
  have x0 := fun (W' : World) (h : Ext w6 W') => (h.cell (p := ⟨ma, 0, none⟩) xl).trans (X6.out.cell 0)
  have x1 := fun (W' : World) (h : Ext w6 W') => (h.cell (p := ⟨ma, 1, none⟩) xl).trans (X6.out.cell 1)
  have x2 := fun (W' : World) (h : Ext w6 W') => (h.cell (p := ⟨ma, 2, none⟩) xl).trans (X6.out.cell 2)
  have x3 := fun (W' : World) (h : Ext w6 W') => (h.cell (p := ⟨ma, 3, none⟩) xl).trans (X6.out.cell 3)
  have x4 := fun (W' : World) (h : Ext w6 W') => (h.cell (p := ⟨ma, 4, none⟩) xl).trans (X6.out.cell 4)
  have x5 := fun (W' : World) (h : Ext w6 W') => (h.cell (p := ⟨ma, 5, none⟩) xl).trans (X6.out.cell 5)
  simp only [List.getElem?_toArray, List.getElem?_cons_zero, List.getElem?_cons_succ] at x0 x1 x2 x3 x4 x5
  iterate 5 (refine plan_take (v := ?_) rfl (by kernel_rfl) ?_ ?_; rotate_left; (focus (intro w' hw'; try go_simp; try with_reducible rfl)); simp only [Act.put, List.setIfInBounds_toArray, List.set_cons_zero, List.set_cons_succ])
  clear x0 x1 x2 x3 x4 x5 xl
  refine plan_call rfl (by kernel_rfl) (by go_simp; exact ⟨rfl, rfl⟩) ?_
  refine (same_any k p nd h s A D m c k p nd h s A D m c _ A6.out HM.out A6.out HM.out).mono ?_
  rintro e w7 ⟨rfl, hb⟩
  refine ⟨_, rfl, hb, ?_⟩
  simp only [Act.put, List.setIfInBounds_toArray, List.set_cons_zero, List.set_cons_succ]
  have E7 := Lib.hid (E6.out.trans (hb.mono E6.out.size))
  clear hb E6 X6 A6
  rw [HSM.out]
  iterate 2 (refine plan_take (v := ?_) rfl (by kernel_rfl) ?_ ?_; rotate_left; (focus (intro w' hw'; try go_simp; try with_reducible rfl)); simp only [Act.put, List.setIfInBounds_toArray, List.set_cons_zero, List.set_cons_succ])
  refine plan_end ?_
  go_wp2_with fail
  go_ret
  exact ⟨rfl, E7.out⟩
set_option maxRecDepth 100000 in
set_option maxHeartbeats 4000000 in
theorem texts_big (k p nd h : Int) (s : Nat) (A : Option Addr) (D : List Nat) (m c : Nat) (k' p' nd' h' : Int) (s' : Nat) (B : Option Addr) (D' : List Nat) (m' c' : Nat) (W : World) (hA : Bts W A D) (hm : D.length = m) (hB : Bts W B D') (hm' : D'.length = m')
    (hs : s < 65536) (hp : -9223372036854775808 ≤ p ∧ p < 9223372036854775808) (hnd : -9223372036854775808 ≤ nd ∧ nd < 9223372036854775808) (hh : -9223372036854775808 ≤ h ∧ h < 9223372036854775808) (hF : FW W) (hm2 : m ≤ 9223372036854775807) (hm2' : m' ≤ 9223372036854775807) (hbig : 5000 < m ∨ 5000 < m') :
    Calls Tryd.prog 5 #[msV k p nd h s A m c, msV k' p' nd' h' s' B m' c'] W fun e w' => e = .returned (.bool true) ∧ Below W.heap.size W w' := by
  have HE : Hid (Below W.heap.size W ((W.alloc (.cells #[.int .i64 k, .int .i64 p, .int .i64 nd, .int .i64 h, .int .u16 (s : Int), .slice A m c] 27)).alloc (.cells #[.int .i64 k', .int .i64 p', .int .i64 nd', .int .i64 h', .int .u16 (s' : Int), .slice B m' c'] 27))) := Lib.hid (((Below.refl _ W).alloc (Nat.le_refl _) _).alloc (by rw [World.size_alloc]; omega) _)
  have HX : Hid (Blk ((W.alloc (.cells #[.int .i64 k, .int .i64 p, .int .i64 nd, .int .i64 h, .int .u16 (s : Int), .slice A m c] 27)).alloc (.cells #[.int .i64 k', .int .i64 p', .int .i64 nd', .int .i64 h', .int .u16 (s' : Int), .slice B m' c'] 27)) W.heap.size 27 #[.int .i64 k, .int .i64 p, .int .i64 nd, .int .i64 h, .int .u16 (s : Int), .slice A m c]) := Lib.hid ((Blkf.new_at _ _ _ _ rfl).alloc _)
  have HY : Hid (Blk ((W.alloc (.cells #[.int .i64 k, .int .i64 p, .int .i64 nd, .int .i64 h, .int .u16 (s : Int), .slice A m c] 27)).alloc (.cells #[.int .i64 k', .int .i64 p', .int .i64 nd', .int .i64 h', .int .u16 (s' : Int), .slice B m' c'] 27)) (W.heap.size + 1) 27 #[.int .i64 k', .int .i64 p', .int .i64 nd', .int .i64 h', .int .u16 (s' : Int), .slice B m' c']) := Lib.hid (Blkf.new_at _ _ _ _ (by rw [World.size_alloc]))
  have HA := Lib.hid (bts_below hA HE.out)
  have HB := Lib.hid (bts_below hB HE.out)
  have HF := Lib.hid (hF.below HE.out)
  have HM := Lib.hid hm
  have HM' := Lib.hid hm'
  have HP := Lib.hid hp
  have HND := Lib.hid hnd
  have HH := Lib.hid hh
  have HS := Lib.hid hs
  have HSM : Hid (sameM k p nd h s D k p nd h s D = true) := Lib.hid (by simp [sameM])
  unfold msV
  clear hA hB hm hm' hp hnd hh hF
  go_enter Tryd.func5, Tryd.ntmps5
  go_wp2_with fail
  refine (first15 _ HF.out).mono ?_
  rintro e w1 ⟨rfl, hb1⟩
  have E1 := Lib.hid (HE.out.trans (hb1.mono HE.out.size))
  have X1 := Lib.hid (HX.out.below hb1 HX.out.lt)
  have Y1 := Lib.hid (HY.out.below hb1 HY.out.lt)
  have A1 := Lib.hid (bts_below HA.out hb1)
  have B1 := Lib.hid (bts_below HB.out hb1)
  have F1 := Lib.hid (HF.out.below hb1)
  clear hb1 HE HX HY HA HB HF
  obtain ⟨ma, hma⟩ : ∃ x, x = W.heap.size := ⟨_, rfl⟩
  have HMA := Lib.hid hma
  rw [← hma] at X1 Y1
  have x5 := X1.out.cell 5
  have y5 := Y1.out.cell 5
  have xl := X1.out.lt
  have yl := Y1.out.lt
  simp only [List.getElem?_toArray, List.getElem?_cons_zero, List.getElem?_cons_succ] at x5 y5
  rw [← hma]
  clear hma
  have hmax : (5000 : Int) < max (m : Int) (m' : Int) := by omega
  go_wp2_with fail
  go_ret
  exact ⟨rfl, E1.out⟩
theorem Law.MsgTexts (a0 a1 a2 a3 a4 : Int) (A : Option Addr) (m c : Nat) (z : List Int) (b0 b1 b2 b3 b4 : Int) (B : Option Addr) (m' c' : Nat) (z' : List Int) (W : World)
    (w0 : (Lit.int .i64 a0).wf = true) (w1 : (Lit.int .i64 a1).wf = true) (w2 : (Lit.int .i64 a2).wf = true) (w3 : (Lit.int .i64 a3).wf = true) (w4 : (Lit.int .u16 a4).wf = true) (hz : IsRow .u8 W A m c z)
    (v0 : (Lit.int .i64 b0).wf = true) (v1 : (Lit.int .i64 b1).wf = true) (v2 : (Lit.int .i64 b2).wf = true) (v3 : (Lit.int .i64 b3).wf = true) (v4 : (Lit.int .u16 b4).wf = true) (hz' : IsRow .u8 W B m' c' z') (hF : FW W) :
    Calls Tryd.prog 5 #[.agg #[.int .i64 a0, .int .i64 a1, .int .i64 a2, .int .i64 a3, .int .u16 a4, .slice A m c], .agg #[.int .i64 b0, .int .i64 b1, .int .i64 b2, .int .i64 b3, .int .u16 b4, .slice B m' c']] W fun e w' => e = .returned (.bool true) ∧ Below W.heap.size W w' := by
  obtain ⟨s, rfl⟩ := Int.eq_ofNat_of_zero_le (u16_of_wf w4).1
  obtain ⟨s', rfl⟩ := Int.eq_ofNat_of_zero_le (u16_of_wf v4).1
  have hs := (u16_of_wf w4).2
  obtain ⟨D, hD, hB, hm⟩ := bts_of_row hz
  obtain ⟨D', hD', hB', hm'⟩ := bts_of_row hz'
  by_cases hbig : 5000 < m ∨ 5000 < m'
  · exact texts_big a0 a1 a2 a3 s A D m c b0 b1 b2 b3 s' B D' m' c' W hB hD hB' hD' (by omega) (i64_of_wf w1) (i64_of_wf w2) (i64_of_wf w3) hF hm hm' hbig
  · exact texts_any a0 a1 a2 a3 s A D m c b0 b1 b2 b3 s' B D' m' c' W hB hD hB' hD' (by omega) (i64_of_wf w1) (i64_of_wf w2) (i64_of_wf w3) hF (by omega) (by omega)
end Go.Proofs.YtkkgigdgbiklmaaDoor
