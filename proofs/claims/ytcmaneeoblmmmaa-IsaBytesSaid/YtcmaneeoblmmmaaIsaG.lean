/- The laws' own first function; IsaGets, IsaPuts. -/
import Derived.Test.YtcmaneeoblmmmaaIsaF
namespace Go.Proofs.Ytcmaneeoblmmmaa
open Go.RowKit

set_option maxHeartbeats 4000000 in
theorem first_ok (w : World) :
    Calls Try.prog 7 #[] w fun e w' => e = .returned (.bool true) ∧ Below w.heap.size w w' := by
  go_enter Try.func7, Try.ntmps7
  go_wp2_with fail
  refine (put_yes 2 1 2 0 (-1) _ (by decide)).mono ?_
  rintro e w1 ⟨rfl, hb1⟩
  rw [show putI 2 1 2 0 (-1) = 4293927170 from by decide]
  have HB1 := Lib.hid hb1
  clear hb1
  go_wp2_with fail
  refine (get_yes 4293927170 _ (by decide) (by decide) (by decide)).mono ?_
  rintro e w2 ⟨rfl, hb2⟩
  rw [show getA 4293927170 = .agg #[.int .i64 2, .int .i64 1, .int .i64 2, .int .i64 0, .int .i64 (-1)] from rfl]
  have HB2 := Lib.hid hb2
  clear hb2
  go_wp2_with fail
  refine (get_no 35 _ (by decide) (by decide) (by decide)).mono ?_
  rintro e w3 ⟨rfl, hb3⟩
  have hp := Blkf.below (Blkf.new_at (n := w2.heap.size) w2 24 (0, 0) #[.int .i64 2, .int .i64 1, .int .i64 2, .int .i64 0, .int .i64 (-1)] rfl) hb3 (by simp)
  have c2 : w3.cell? ⟨w2.heap.size, 2, none⟩ = some (.int .i64 2) := hp.cell 2
  have c4 : w3.cell? ⟨w2.heap.size, 4, none⟩ = some (.int .i64 (-1)) := hp.cell 4
  have lp : w2.heap.size < w3.heap.size := hp.lt
  rw [getZ]
  have HB3 := Lib.hid hb3
  clear hb3 hp
  go_wp2_with fail
  refine (kind_any _ _).mono ?_
  rintro e w' ⟨rfl, rfl⟩
  rw [show ks (kd 22) = ⟨#[76]⟩ from rfl]
  have ht : ((⟨#[76]⟩ : ByteArray).toList == [76]) = true := by rw [ByteArray.toList_mk]; rfl
  go_wp2_with fail
  refine (size_any _ _).mono ?_
  rintro e w' ⟨rfl, rfl⟩
  rw [show sizeV 22 = 8 from rfl]
  go_wp2_with fail
  refine (sign_any _ _).mono ?_
  rintro e w' ⟨rfl, rfl⟩
  rw [show signB 21 = true from rfl]
  go_wp2_with fail
  refine (sign_any _ _).mono ?_
  rintro e w' ⟨rfl, rfl⟩
  rw [show signB 25 = false from rfl]
  go_wp2
  go_ret
  refine ⟨rfl, ?_⟩
  have b1 := HB1.out
  have b2 := b1.trans (HB2.out.mono b1.size)
  have b3 := (b2.alloc b2.size _).trans (HB3.out.mono (Nat.le_trans b2.size (by simp)))
  exact b3.alloc b3.size _

theorem inst_cells {w : World} {g : Nat} {t : TypeId} {c0 c1 c2 c3 c4 : Value} (h : Blk w g t #[c0, c1, c2, c3, c4]) :
    w.cell? ⟨g, 0, none⟩ = some c0 ∧ w.cell? ⟨g, 1, none⟩ = some c1 ∧ w.cell? ⟨g, 2, none⟩ = some c2 ∧ w.cell? ⟨g, 3, none⟩ = some c3 ∧ w.cell? ⟨g, 4, none⟩ = some c4 :=
  ⟨h.cell 0, h.cell 1, h.cell 2, h.cell 3, h.cell 4⟩
namespace Law
set_option maxHeartbeats 4000000 in
theorem IsaGets (x : Int) (W : World) (wx : (Lit.int .u32 x).wf = true) :
    Calls Try.prog 4 #[.int .u32 x] W fun e w' => e = .returned (.bool true) ∧ Below W.heap.size W w' := by
  have hx : 0 ≤ x ∧ x < 4294967296 := by
    simp [Lit.wf, IntKind.min, IntKind.max, IntKind.signed, IntKind.bits] at wx
    omega
  obtain ⟨h0, h1⟩ := hx
  clear wx
  cases hr : getR x
  · have H0 := Lib.hid h0
    have H1 := Lib.hid h1
    have HR := Lib.hid hr
    clear h0 h1 hr
    go_enter Try.func4, Try.ntmps4
    go_wp2_with fail
    refine (first_ok _).mono ?_
    rintro e w1 ⟨rfl, hb1⟩
    have HB1 := Lib.hid hb1
    clear hb1
    go_wp2_with fail
    refine (get_no x _ H0.out H1.out HR.out).mono ?_
    rintro e w2 ⟨rfl, hb2⟩
    rw [getZ]
    have HB2 := Lib.hid hb2
    clear hb2
    go_wp2_with fail
    refine (rget_no x _ H0.out H1.out HR.out).mono ?_
    rintro e w3 ⟨rfl, hb3⟩
    rw [getZ]
    have hp := Blkf.below (Blkf.new_at (n := w2.heap.size) w2 24 (0, 0) #[.int .i64 0, .int .i64 0, .int .i64 0, .int .i64 0, .int .i64 0] rfl) hb3 (by simp)
    obtain ⟨c0, c1, c2, c3, c4⟩ := inst_cells hp
    have lp : w2.heap.size < w3.heap.size := hp.lt
    have HB3 := Lib.hid hb3
    clear hb3 hp
    go_wp2
    go_ret
    refine ⟨by simp, ?_⟩
    have b1 := HB1.out
    have b2 := b1.trans (HB2.out.mono b1.size)
    have b3 := (b2.alloc b2.size _).trans (HB3.out.mono (Nat.le_trans b2.size (by simp)))
    exact b3.alloc b3.size _
  · have H0 := Lib.hid h0
    have H1 := Lib.hid h1
    have HR := Lib.hid hr
    clear h0 h1 hr
    go_enter Try.func4, Try.ntmps4
    go_wp2_with fail
    refine (first_ok _).mono ?_
    rintro e w1 ⟨rfl, hb1⟩
    have HB1 := Lib.hid hb1
    clear hb1
    go_wp2_with fail
    refine (get_yes x _ H0.out H1.out HR.out).mono ?_
    rintro e w2 ⟨rfl, hb2⟩
    rw [getA]
    have HB2 := Lib.hid hb2
    clear hb2
    go_wp2_with fail
    refine (rget_yes x _ H0.out H1.out HR.out).mono ?_
    rintro e w3 ⟨rfl, hb3⟩
    rw [getA]
    have hp := Blkf.below (Blkf.new_at (n := w2.heap.size) w2 24 (0, 0) #[.int .i64 (x % 256), .int .i64 (x / 256 % 16), .int .i64 (x / 4096 % 16), .int .i64 (x / 65536 % 16), .int .i64 (gI x)] rfl) hb3 (by simp)
    obtain ⟨c0, c1, c2, c3, c4⟩ := inst_cells hp
    have lp : w2.heap.size < w3.heap.size := hp.lt
    have HB3 := Lib.hid hb3
    clear hb3 hp
    go_wp2
    go_ret
    refine ⟨by simp, ?_⟩
    have b1 := HB1.out
    have b2 := b1.trans (HB2.out.mono b1.size)
    have b3 := (b2.alloc b2.size _).trans (HB3.out.mono (Nat.le_trans b2.size (by simp)))
    exact b3.alloc b3.size _
set_option maxHeartbeats 8000000 in
theorem IsaPuts (o d s t i : Int) (W : World) (_ : (Lit.int .i64 o).wf = true) (_ : (Lit.int .i64 d).wf = true) (_ : (Lit.int .i64 s).wf = true) (_ : (Lit.int .i64 t).wf = true) (_ : (Lit.int .i64 i).wf = true) :
    Calls Try.prog 3 #[.agg #[.int .i64 o, .int .i64 d, .int .i64 s, .int .i64 t, .int .i64 i]] W fun e w' => e = .returned (.bool true) ∧ Below W.heap.size W w' := by
  cases hr : rightB o d s t i
  · have HR := Lib.hid hr
    clear hr
    go_enter Try.func3, Try.ntmps3
    go_wp2_with fail
    refine (first_ok _).mono ?_
    rintro e w1 ⟨rfl, hb⟩
    have hp := Blkf.below (Blkf.new_at (n := W.heap.size) W 24 (0, 0) #[.int .i64 o, .int .i64 d, .int .i64 s, .int .i64 t, .int .i64 i] rfl) hb (by simp)
    obtain ⟨c0, c1, c2, c3, c4⟩ := inst_cells hp
    have b1 := ((Below.refl _ W).alloc (Nat.le_refl _) (.cells #[.int .i64 o, .int .i64 d, .int .i64 s, .int .i64 t, .int .i64 i] 24)).trans (hb.mono (by simp))
    have HP := Lib.hid hp
    have HB := Lib.hid b1
    clear hb hp b1
    go_wp2_with fail
    clear c0 c1 c2 c3 c4
    refine (put_no _ _ _ _ _ _ HR.out).mono ?_
    rintro e w2 ⟨rfl, hb⟩
    have hp := Blkf.below HP.out hb HP.out.lt
    obtain ⟨c0, c1, c2, c3, c4⟩ := inst_cells hp
    have b1 := HB.out.trans (hb.mono HB.out.size)
    clear HP HB
    have HP := Lib.hid hp
    have HB := Lib.hid b1
    clear hb hp b1
    go_wp2_with fail
    clear c0 c1 c2 c3 c4
    refine (rright_any _ _ _ _ _ _).mono ?_
    rintro e w3 ⟨rfl, hb⟩
    rw [HR.out]
    have hp := Blkf.below HP.out hb HP.out.lt
    obtain ⟨c0, c1, c2, c3, c4⟩ := inst_cells hp
    have b1 := HB.out.trans (hb.mono HB.out.size)
    clear HP HB
    have HP := Lib.hid hp
    have HB := Lib.hid b1
    clear hb hp b1
    go_wp2_with fail
    clear c0 c1 c2 c3 c4
    refine (right_any _ _ _ _ _ _).mono ?_
    rintro e w4 ⟨rfl, hb⟩
    rw [HR.out]
    go_wp2
    go_ret
    exact ⟨rfl, HB.out.trans (hb.mono HB.out.size)⟩
  · have HR := Lib.hid hr
    clear hr
    go_enter Try.func3, Try.ntmps3
    go_wp2_with fail
    refine (first_ok _).mono ?_
    rintro e w1 ⟨rfl, hb⟩
    have hp := Blkf.below (Blkf.new_at (n := W.heap.size) W 24 (0, 0) #[.int .i64 o, .int .i64 d, .int .i64 s, .int .i64 t, .int .i64 i] rfl) hb (by simp)
    obtain ⟨c0, c1, c2, c3, c4⟩ := inst_cells hp
    have b1 := ((Below.refl _ W).alloc (Nat.le_refl _) (.cells #[.int .i64 o, .int .i64 d, .int .i64 s, .int .i64 t, .int .i64 i] 24)).trans (hb.mono (by simp))
    have HP := Lib.hid hp
    have HB := Lib.hid b1
    clear hb hp b1
    go_wp2_with fail
    clear c0 c1 c2 c3 c4
    refine (put_yes _ _ _ _ _ _ HR.out).mono ?_
    rintro e w2 ⟨rfl, hb⟩
    have hp := Blkf.below HP.out hb HP.out.lt
    obtain ⟨c0, c1, c2, c3, c4⟩ := inst_cells hp
    have b1 := HB.out.trans (hb.mono HB.out.size)
    clear HP HB
    have HP := Lib.hid hp
    have HB := Lib.hid b1
    clear hb hp b1
    go_wp2_with fail
    clear c0 c1 c2 c3 c4
    refine (rright_any _ _ _ _ _ _).mono ?_
    rintro e w3 ⟨rfl, hb⟩
    rw [HR.out]
    have hp := Blkf.below HP.out hb HP.out.lt
    obtain ⟨c0, c1, c2, c3, c4⟩ := inst_cells hp
    have b1 := HB.out.trans (hb.mono HB.out.size)
    clear HP HB
    have HP := Lib.hid hp
    have HB := Lib.hid b1
    clear hb hp b1
    go_wp2_with fail
    clear c0 c1 c2 c3 c4
    have hg := put_get _ _ _ _ _ HR.out
    refine (get_yes _ _ hg.2.2.1 hg.2.2.2 hg.1).mono ?_
    rintro e w4 ⟨rfl, hb⟩
    rw [hg.2.1]
    have hp := Blkf.below HP.out hb HP.out.lt
    have b1 := HB.out.trans (hb.mono HB.out.size)
    obtain ⟨c0, c1, c2, c3, c4⟩ := inst_cells hp
    have lp : W.heap.size < w4.heap.size := hp.lt
    clear HP HB
    have HP := Lib.hid hp
    have HB := Lib.hid b1
    clear hb hp b1 hg
    go_wp2_with fail
    clear c0 c1 c2 c3 c4
    refine (right_any _ _ _ _ _ _).mono ?_
    rintro e w5 ⟨rfl, hb⟩
    rw [HR.out]
    have hp := Blkf.below (HP.out.alloc _) hb (by have := HP.out.lt; simp; omega)
    have hq := Blkf.below (Blkf.new_at (n := w4.heap.size) w4 24 (0, 0) #[.int .i64 o, .int .i64 d, .int .i64 s, .int .i64 t, .int .i64 i] rfl) hb (by simp)
    have b1 := (HB.out.alloc HB.out.size _).trans (hb.mono (Nat.le_trans HB.out.size (by simp)))
    obtain ⟨c0, c1, c2, c3, c4⟩ := inst_cells hp
    clear HP HB lp
    have HP := Lib.hid hp
    have HQ := Lib.hid hq
    have HB := Lib.hid b1
    clear hb hp b1 hq
    go_wp2_with fail
    clear c0 c1 c2 c3 c4
    refine (rput_yes _ _ _ _ _ _ HR.out).mono ?_
    rintro e w6 ⟨rfl, hb⟩
    have hp := Blkf.below HP.out hb HP.out.lt
    have hq := Blkf.below HQ.out hb HQ.out.lt
    have b1 := HB.out.trans (hb.mono HB.out.size)
    obtain ⟨c0, c1, c2, c3, c4⟩ := inst_cells hp
    obtain ⟨q0, q1, q2, q3, q4⟩ := inst_cells hq
    have HB1 := Lib.hid b1
    clear hb hp b1 hq
    go_wp2
    go_ret
    exact ⟨by simp, HB1.out⟩
end Law
end Go.Proofs.Ytcmaneeoblmmmaa
