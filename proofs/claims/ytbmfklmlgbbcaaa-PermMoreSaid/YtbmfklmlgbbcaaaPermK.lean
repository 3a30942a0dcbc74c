/- PermMore. -/
import Derived.Test.YtbmfklmlgbbcaaaPermH
namespace Go.Proofs.Ytbmfklmlgbbcaaa
open Go.RowKit

theorem more_q (v r w x u a d : Bool) (acc : Int) (user sum mxr : Bool) (h : checkB v r w x u a d acc user sum mxr = true) : checkB v true w true u true true acc user sum mxr = true := by
  revert h
  unfold checkB rightB leafB allowsB
  generalize (acc == 0) = e0
  generalize (acc == 1) = e1
  generalize (acc == 2) = e2
  cases v <;> cases r <;> cases w <;> cases x <;> cases a <;> cases u <;> cases user <;> simp <;> (cases sum <;> cases mxr <;> cases e0 <;> cases e1 <;> cases e2 <;> simp)
theorem more_load (v r w x u a d : Bool) (user sum mxr : Bool) (h : checkB v r w x u a d 2 user sum mxr = true) : checkB v r w x u a d 1 user sum mxr = true := by
  revert h
  unfold checkB rightB leafB allowsB
  cases v <;> cases r <;> cases w <;> cases x <;> cases a <;> cases u <;> cases user <;> simp <;> (cases sum <;> cases mxr <;> cases d <;> simp)
theorem more_n (v r w x u a d : Bool) (acc : Int) (user sum mxr : Bool) (h : checkB v r w x u a d acc user sum mxr = true) : checkB v r w x u a d acc user true true = true := by
  revert h
  unfold checkB rightB leafB allowsB
  generalize (acc == 0) = e0
  generalize (acc == 1) = e1
  generalize (acc == 2) = e2
  cases v <;> cases r <;> cases w <;> cases x <;> cases a <;> cases u <;> cases user <;> simp <;> (cases sum <;> cases mxr <;> cases e0 <;> cases e1 <;> cases e2 <;> simp)
theorem more_no (r w x u a d : Bool) (acc : Int) (user sum mxr : Bool) : checkB false r w x u a d acc user sum mxr = false := by simp [checkB, rightB]
namespace Law
set_option maxHeartbeats 8000000 in
theorem PermMore (v r w x u g a d : Bool) (rsw ppn acc : Int) (user sum mxr : Bool) (W : World) (_ : (Lit.int .i64 rsw).wf = true) (_ : (Lit.int .u64 ppn).wf = true) (_ : (Lit.int .i64 acc).wf = true) :
    Calls Try.prog 5 #[.agg #[.bool v, .bool r, .bool w, .bool x, .bool u, .bool g, .bool a, .bool d, .int .i64 rsw, .int .u64 ppn], .int .i64 acc, .agg #[.bool user, .bool sum, .bool mxr]] W fun e w' => e = .returned (.bool true) ∧ Below W.heap.size W w' := by
  cases hC : checkB v r w x u a d acc user sum mxr
  · have HC := Lib.hid hC
    clear hC
    go_enter Try.func5, Try.ntmps5
    go_wp2_with fail
    refine (first_ok _).mono ?_
    rintro e w1 ⟨rfl, hb⟩
    have hp := Blk.below ((Blk.new _ _ _).alloc _) hb (by simp; omega)
    have hm := Blk.below (Blkf.new_at (n := W.heap.size + 1) _ _ _ _ (by simp)) hb (by simp)
    obtain ⟨p0, p1, p2, p3, p4, p5, p6, p7, p8, p9⟩ := pte_cells hp
    obtain ⟨m0, m1, m2⟩ := mode_cells hm
    have b1 := (((Below.refl _ W).alloc (Nat.le_refl _) _).alloc (by simp) _).trans (hb.mono (by simp; omega))
    have HP := Lib.hid hp
    have HM := Lib.hid hm
    have HB := Lib.hid b1
    clear hb hp hm b1
    go_wp2_with fail
    clear p0 p1 p2 p3 p4 p5 p6 p7 p8 p9 m0 m1 m2
    refine (check_any _ _ _ _ _ _ _ _ _ _ _ _ _ _ _).mono ?_
    rintro e w2 ⟨rfl, hb⟩
    rw [HC.out]
    go_wp2
    go_ret
    exact ⟨rfl, HB.out.trans (hb.mono HB.out.size)⟩
  · by_cases h2 : acc = 2
    · subst h2
      have HC := Lib.hid hC
      clear hC
      go_enter Try.func5, Try.ntmps5
      go_wp2_with fail
      refine (first_ok _).mono ?_
      rintro e w1 ⟨rfl, hb⟩
      have hp := Blk.below ((Blk.new _ _ _).alloc _) hb (by simp; omega)
      have hm := Blk.below (Blkf.new_at (n := W.heap.size + 1) _ _ _ _ (by simp)) hb (by simp)
      obtain ⟨p0, p1, p2, p3, p4, p5, p6, p7, p8, p9⟩ := pte_cells hp
      obtain ⟨m0, m1, m2⟩ := mode_cells hm
      have b1 := (((Below.refl _ W).alloc (Nat.le_refl _) _).alloc (by simp) _).trans (hb.mono (by simp; omega))
      have HP := Lib.hid hp
      have HM := Lib.hid hm
      have HB := Lib.hid b1
      clear hb hp hm b1
      go_wp2_with fail
      clear p0 p1 p2 p3 p4 p5 p6 p7 p8 p9 m0 m1 m2
      refine (check_any _ _ _ _ _ _ _ _ _ _ _ _ _ _ _).mono ?_
      rintro e w2 ⟨rfl, hb⟩
      rw [HC.out]
      have hp := Blk.below HP.out hb HP.out.lt
      have hm := Blk.below HM.out hb HM.out.lt
      have b1 := HB.out.trans (hb.mono HB.out.size)
      have lp : W.heap.size < w2.heap.size := hp.lt
      have lm : W.heap.size + 1 < w2.heap.size := hm.lt
      clear HP HM HB
      obtain ⟨p0, p1, p2, p3, p4, p5, p6, p7, p8, p9⟩ := pte_cells hp
      obtain ⟨m0, m1, m2⟩ := mode_cells hm
      have HP := Lib.hid hp
      have HM := Lib.hid hm
      have HB := Lib.hid b1
      clear hb hp hm b1
      go_wp2_with fail
      clear p0 p1 p2 p3 p4 p5 p6 p7 p8 p9 m0 m1 m2
      refine (check_any _ _ _ _ _ _ _ _ _ _ _ _ _ _ _).mono ?_
      rintro e w3 ⟨rfl, hb⟩
      rw [more_q _ _ _ _ _ _ _ _ _ _ _ HC.out]
      have hp := Blk.below (HP.out.alloc _) hb (by have := HP.out.lt; simp; omega)
      have hm := Blk.below (HM.out.alloc _) hb (by have := HM.out.lt; simp; omega)
      have b1 := (HB.out.alloc HB.out.size _).trans (hb.mono (Nat.le_trans HB.out.size (by simp)))
      have lp3 : W.heap.size < w3.heap.size := hp.lt
      have lm3 : W.heap.size + 1 < w3.heap.size := hm.lt
      clear HP HM HB lp lm
      obtain ⟨p0, p1, p2, p3, p4, p5, p6, p7, p8, p9⟩ := pte_cells hp
      obtain ⟨m0, m1, m2⟩ := mode_cells hm
      have HP := Lib.hid hp
      have HM := Lib.hid hm
      have HB := Lib.hid b1
      clear hb hp hm b1
      go_wp2_with fail
      clear p0 p1 p2 p3 p4 p5 p6 p7 p8 p9 m0 m1 m2
      refine (check_any _ _ _ _ _ _ _ _ _ _ _ _ _ _ _).mono ?_
      rintro e w4 ⟨rfl, hb⟩
      rw [more_load _ _ _ _ _ _ _ _ _ _ HC.out]
      have hp := Blk.below HP.out hb HP.out.lt
      have hm := Blk.below HM.out hb HM.out.lt
      have b1 := HB.out.trans (hb.mono HB.out.size)
      have lp4 : W.heap.size < w4.heap.size := hp.lt
      have lm4 : W.heap.size + 1 < w4.heap.size := hm.lt
      clear HP HM HB lp3 lm3
      obtain ⟨p0, p1, p2, p3, p4, p5, p6, p7, p8, p9⟩ := pte_cells hp
      obtain ⟨m0, m1, m2⟩ := mode_cells hm
      have HP := Lib.hid hp
      have HM := Lib.hid hm
      have HB := Lib.hid b1
      clear hb hp hm b1
      go_wp2_with fail
      clear p0 p1 p2 p3 p4 p5 p6 p7 p8 p9 m0 m1 m2
      refine (check_any _ _ _ _ _ _ _ _ _ _ _ _ _ _ _).mono ?_
      rintro e w5 ⟨rfl, hb⟩
      rw [more_n _ _ _ _ _ _ _ _ _ _ _ HC.out]
      have hm := Blk.below (HM.out.alloc _) hb (by have := HM.out.lt; simp; omega)
      have b1 := (HB.out.alloc HB.out.size _).trans (hb.mono (Nat.le_trans HB.out.size (by simp)))
      obtain ⟨m0, m1, m2⟩ := mode_cells hm
      have HM1 := Lib.hid hm
      have HB1 := Lib.hid b1
      clear hb hm b1
      go_wp2_with fail
      clear m0 m1 m2
      refine (check_any _ _ _ _ _ _ _ _ _ _ _ _ _ _ _).mono ?_
      rintro e w6 ⟨rfl, hb⟩
      rw [more_no]
      go_wp2
      go_ret
      exact ⟨rfl, HB1.out.trans (hb.mono HB1.out.size)⟩
    · have h2' : (acc == 2) = false := by rw [beq_eq_false_iff_ne]; exact h2
      clear h2
      have HC := Lib.hid hC
      clear hC
      go_enter Try.func5, Try.ntmps5
      go_wp2_with fail
      refine (first_ok _).mono ?_
      rintro e w1 ⟨rfl, hb⟩
      have hp := Blk.below ((Blk.new _ _ _).alloc _) hb (by simp; omega)
      have hm := Blk.below (Blkf.new_at (n := W.heap.size + 1) _ _ _ _ (by simp)) hb (by simp)
      obtain ⟨p0, p1, p2, p3, p4, p5, p6, p7, p8, p9⟩ := pte_cells hp
      obtain ⟨m0, m1, m2⟩ := mode_cells hm
      have b1 := (((Below.refl _ W).alloc (Nat.le_refl _) _).alloc (by simp) _).trans (hb.mono (by simp; omega))
      have HP := Lib.hid hp
      have HM := Lib.hid hm
      have HB := Lib.hid b1
      clear hb hp hm b1
      go_wp2_with fail
      clear p0 p1 p2 p3 p4 p5 p6 p7 p8 p9 m0 m1 m2
      refine (check_any _ _ _ _ _ _ _ _ _ _ _ _ _ _ _).mono ?_
      rintro e w2 ⟨rfl, hb⟩
      rw [HC.out]
      have hp := Blk.below HP.out hb HP.out.lt
      have hm := Blk.below HM.out hb HM.out.lt
      have b1 := HB.out.trans (hb.mono HB.out.size)
      have lp : W.heap.size < w2.heap.size := hp.lt
      have lm : W.heap.size + 1 < w2.heap.size := hm.lt
      clear HP HM HB
      obtain ⟨p0, p1, p2, p3, p4, p5, p6, p7, p8, p9⟩ := pte_cells hp
      obtain ⟨m0, m1, m2⟩ := mode_cells hm
      have HP := Lib.hid hp
      have HM := Lib.hid hm
      have HB := Lib.hid b1
      clear hb hp hm b1
      go_wp2_with fail
      clear p0 p1 p2 p3 p4 p5 p6 p7 p8 p9 m0 m1 m2
      refine (check_any _ _ _ _ _ _ _ _ _ _ _ _ _ _ _).mono ?_
      rintro e w3 ⟨rfl, hb⟩
      rw [more_q _ _ _ _ _ _ _ _ _ _ _ HC.out]
      have hp := Blk.below (HP.out.alloc _) hb (by have := HP.out.lt; simp; omega)
      have hm := Blk.below (HM.out.alloc _) hb (by have := HM.out.lt; simp; omega)
      have b1 := (HB.out.alloc HB.out.size _).trans (hb.mono (Nat.le_trans HB.out.size (by simp)))
      have lp3 : W.heap.size < w3.heap.size := hp.lt
      have lm3 : W.heap.size + 1 < w3.heap.size := hm.lt
      clear HP HM HB lp lm
      obtain ⟨p0, p1, p2, p3, p4, p5, p6, p7, p8, p9⟩ := pte_cells hp
      obtain ⟨m0, m1, m2⟩ := mode_cells hm
      have HP := Lib.hid hp
      have HM := Lib.hid hm
      have HB := Lib.hid b1
      clear hb hp hm b1
      go_wp2_with fail
      clear p0 p1 p2 p3 p4 p5 p6 p7 p8 p9 m0 m1 m2
      refine (check_any _ _ _ _ _ _ _ _ _ _ _ _ _ _ _).mono ?_
      rintro e w4 ⟨rfl, hb⟩
      rw [more_n _ _ _ _ _ _ _ _ _ _ _ HC.out]
      have hm := Blk.below (HM.out.alloc _) hb (by have := HM.out.lt; simp; omega)
      have b1 := (HB.out.alloc HB.out.size _).trans (hb.mono (Nat.le_trans HB.out.size (by simp)))
      obtain ⟨m0, m1, m2⟩ := mode_cells hm
      have HM1 := Lib.hid hm
      have HB1 := Lib.hid b1
      clear hb hm b1
      go_wp2_with fail
      clear m0 m1 m2
      refine (check_any _ _ _ _ _ _ _ _ _ _ _ _ _ _ _).mono ?_
      rintro e w5 ⟨rfl, hb⟩
      rw [more_no]
      go_wp2
      go_ret
      exact ⟨rfl, HB1.out.trans (hb.mono HB1.out.size)⟩
end Law
end Go.Proofs.Ytbmfklmlgbbcaaa
